/- What the functions below call. No condition. klaxonkeep.Samples. (*Series).At. (*Series).Add. SeriesRuns, reckoned. Between, Cut, All. klaxonbook.Same of samples. Roomy, Intact of samples, At of the document, Last. -/
import Derived.Test.YtkppbflmlpabjabQ4
import Derived.Test.YtkppbflmlpabjabProg
import Derived.KernelRfl
namespace Go.Proofs.Ytkppbflmlpabjab.Dec
open Go.Ev
set_option linter.unusedVariables false
set_option linter.unusedSimpArgs false
set_option maxRecDepth 100000
theorem mixed : Try.prog.follows .mixedOrders = true := by kernel_rfl
instance ctx : Ctx := ⟨fun t e => t = .int .u8 → e = 5, fun _ => False, fun _ => True, fun _ _ _ h => h⟩
instance tagOK : TagOK Try.prog := tagOK_of (u := 5) (fun _ _ => Iff.rfl) (by kernel_rfl)

def kinds : FuncId → Bool × Bool := fun _ => (true, false)
def hds : FuncId → Nat → Hd := fun f => if f = 3 then fun k => if k = 65032 then ⟨[], [(1, (.pair (.pair (.int .i64) (.pair (.int .i64) (.int .i64))) (.pair .bool (.pair (.int .i64) (.pair .bool (.pair (.sl .str) (.int .i64))))))), (2, (.pair (.pair (.int .i64) (.pair (.int .i64) (.int .i64))) (.pair .bool (.pair (.int .i64) (.pair .bool (.pair (.sl .str) (.int .i64)))))))], []⟩ else ⟨[], [], []⟩ else if f = 4 then fun k => if k = 32264 then ⟨[], [(1, (.pair (.pair (.int .i64) (.pair (.int .i64) (.int .i64))) (.pair .bool (.pair (.int .i64) (.pair .bool (.pair (.sl .str) (.int .i64))))))), (2, (.pair (.pair (.int .i64) (.pair (.int .i64) (.int .i64))) (.pair .bool (.pair (.int .i64) (.pair .bool (.pair (.sl .str) (.int .i64))))))), (3, (.pair (.pair (.int .i64) (.pair (.int .i64) (.int .i64))) (.pair .bool (.pair (.int .i64) (.pair .bool (.pair (.sl .str) (.int .i64)))))))], []⟩ else ⟨[], [], []⟩ else if f = 11 then fun k => if k = 57 then ⟨[], [(0, (.sl (.pair (.int .i64) (.int .i64))))], [4]⟩ else ⟨[], [], []⟩ else noHd
@[reducible] noncomputable def F := fnsH Try.prog kinds hds
@[reducible] noncomputable def byref : FuncId → Bool := fun g => match F g with | some h => h.byref | none => false
noncomputable def S0 : FuncId → Option (List AV → Boxes → M (AV × Boxes)) := fun _ => none
set_option maxHeartbeats 20000000 in
theorem S0_ok : ∀ f s, S0 f = some s → CallAt Try.prog f s := fun f s h => by cases h
theorem some_getD {α : Type} {o : Option α} {d : α} (h : o.isSome = true) : o = some (o.getD d) := by
  cases o with
  | none => cases h
  | some a => rfl
theorem ite_cases {c : Prop} [Decidable c] {α : Type} {a b : Option α} {q : α} {G : Prop} (h : (if c then a else b) = some q) (h1 : c → a = some q → G) (h2 : ¬ c → b = some q → G) : G := by
  by_cases hc : c
  · rw [if_pos hc] at h; exact h1 hc h
  · rw [if_neg hc] at h; exact h2 hc h
theorem all_t {c : Bool} {l : List Bool} (h : c = true) (h2 : l.all id = true) : ((c == true) :: l).all id = true := by subst h; simpa using h2
theorem all_f {c : Bool} {l : List Bool} (h : ¬ c = true) (h2 : l.all id = true) : ((c == false) :: l).all id = true := by
  cases c with
  | false => simpa using h2
  | true => exact absurd rfl h
theorem turns_eq {h : Hd} {k0 keep : Nat} {f : LoopG} {n : Nat} {e e2 : Env} {B B2 : Boxes} {r : Option (AEx × Env × Boxes)} (h1 : e = e2) (h2 : B = B2) (h3 : (turns h k0 keep f n e2 B2).run = r) : (turns h k0 keep f n e B).run = r := by
  subst h1; subst h2; exact h3
theorem all_nil : ([] : List Bool).all id = true := rfl
theorem all_nt {c : Bool} {l : List Bool} (h : c = true) (h2 : l.all id = true) : (((!c) == false) :: l).all id = true := by subst h; simpa using h2
theorem all_nf {c : Bool} {l : List Bool} (h : ¬ c = true) (h2 : l.all id = true) : (((!c) == true) :: l).all id = true := by
  cases c with
  | false => simpa using h2
  | true => exact absurd rfl h
theorem all_nnt {c : Bool} {l : List Bool} (h : c = true) (h2 : l.all id = true) : (((!(!c)) == true) :: l).all id = true := by subst h; simpa using h2
theorem all_nnf {c : Bool} {l : List Bool} (h : ¬ c = true) (h2 : l.all id = true) : (((!(!c)) == false) :: l).all id = true := by
  cases c with
  | false => simpa using h2
  | true => exact absurd rfl h

noncomputable def S1 : FuncId → Option (List AV → Boxes → M (AV × Boxes)) := fun f => if f = 15 then some withinS else S0 f
set_option maxHeartbeats 20000000 in
theorem S1_ok : ∀ f s, S1 f = some s → CallAt Try.prog f s := by
  intro f s h
  unfold S1 at h
  split at h
  · rename_i e; subst e; cases h; exact (within_at mixed (kinds := kinds) (by kernel_rfl))
  · exact S0_ok f s h

noncomputable def S2 : FuncId → Option (List AV → Boxes → M (AV × Boxes)) := fun f => if f = 45 then some (cloneR (.pair (.int .i64) (.int .i64)) 16) else S1 f
set_option maxHeartbeats 20000000 in
theorem S2_ok : ∀ f s, S2 f = some s → CallAt Try.prog f s := by
  intro f s h
  unfold S2 at h
  split at h
  · rename_i e; subst e; cases h; exact (cloneR_at mixed 49 49 55 (.pair (.int .i64) (.int .i64)) 16 Try.func45 (by kernel_rfl) (by kernel_rfl) (by kernel_rfl) (by kernel_rfl) (by kernel_rfl) (by kernel_rfl) (by kernel_rfl) (by kernel_rfl) (by kernel_rfl) (by kernel_rfl) (by kernel_rfl) (by kernel_rfl) (by kernel_rfl) (by kernel_rfl) (by kernel_rfl) (by kernel_rfl) (by kernel_rfl) (by kernel_rfl) (by kernel_rfl) )
  · exact S1_ok f s h

end Go.Proofs.Ytkppbflmlpabjab.Dec
namespace Go.Proofs.Ytkppbflmlpabjab.Dec
open Go.Ev
set_option linter.unusedVariables false
set_option linter.unusedSimpArgs false
set_option maxRecDepth 100000
noncomputable def fn31 : AFn := (F 31).getD ⟨0, [], .bad, false, false, noHd⟩
noncomputable def body31 : AC := fn31.body
def l31_0 (m : Nat) : Nat → List Int → Int → Int → List (Int × Int) → Option (Nat × Int × Int × (List (Int × Int)))
  | 0, _, _, _, _ => none
  | n + 1, x0, s4, s5, b0 => if decide (s5 < (((List.length x0) : Nat) : Int)) = true then
      if decide (s5 < 20) = true then
        if decide (0 ≤ s5) = true then
          if decide ((((List.length b0) + 1) * 16) ≤ 70368744177664) = true then
            l31_0 m n x0 ((IntKind.wrap .i64 (s4 + (withinI (List.getD x0 (Int.toNat s5) 0) (1) (12))))) ((IntKind.wrap .i64 (s5 + (1)))) ((b0 ++ [((IntKind.wrap .i64 (s4 + (withinI (List.getD x0 (Int.toNat s5) 0) (1) (12)))), (withinI (IntKind.wrap .i64 (Int.tdiv (List.getD x0 (Int.toNat s5) 0) (12))) (-4) (9)))]))
          else
            none
        else
          none
      else
        some (0, s4, s5, b0)
    else
      some (1, s4, s5, b0)
def l31_0D : Nat × Int × Int × (List (Int × Int)) := (0, 0, 0, [])
@[reducible] def l31_0R (m n : Nat) (x0 : List Int) (s4 : Int) (s5 : Int) (b0 : List (Int × Int)) : Nat × Int × Int × (List (Int × Int)) := Option.getD (l31_0 m n x0 s4 s5 b0) l31_0D
def l31_0H (x0 : List Int) (s4 : Int) (s5 : Int) (b0 : List (Int × Int)) : Env := [(.d (.sl (.int .i64) x0)), .top, .top, (.sr 0 0 (List.length b0) 2 none), (.d (.int .i64 s4)), (.d (.int .i64 s5)), .top, .top, .top, .top, .top, .top, .top, .top, .top, .top, .top, .top, .top, .top, .top, .top, .top, .top, .top, .top, .top, .top, .top, .top, .top, .top, .top, .top, .top]
def l31_0B (x0 : List Int) (s4 : Int) (s5 : Int) (b0 : List (Int × Int)) : Boxes := [(.arr (.pair (.int .i64) (.int .i64)) b0 true)]
def l31_0E (x0 : List Int) (s4 : Int) (s5 : Int) (b0 : List (Int × Int)) : Nat → AEx × Env × Boxes
  | 0 => (.exit 0, [(.d (.sl (.int .i64) x0)), .top, .top, (.sr 0 0 (List.length b0) 2 none), (.d (.int .i64 s4)), (.d (.int .i64 s5)), (.d (.int .i64 s5)), (.d (.sl (.int .i64) x0)), (.d (.int .i64 (((List.length x0) : Nat) : Int))), (.d (.bool (decide (s5 < (((List.length x0) : Nat) : Int))))), (.d (.bool (decide (s5 < (((List.length x0) : Nat) : Int))))), (.d (.int .i64 s5)), (.d (.bool (decide (s5 < 20)))), (.d (.bool (decide (s5 < 20)))), .top, .top, .top, .top, .top, .top, .top, .top, .top, .top, .top, .top, .top, .top, .top, .top, .top, .top, .top, .top, .top], [(.arr (.pair (.int .i64) (.int .i64)) b0 true)])
  | _ => (.exit 0, [(.d (.sl (.int .i64) x0)), .top, .top, (.sr 0 0 (List.length b0) 2 none), (.d (.int .i64 s4)), (.d (.int .i64 s5)), (.d (.int .i64 s5)), (.d (.sl (.int .i64) x0)), (.d (.int .i64 (((List.length x0) : Nat) : Int))), (.d (.bool (decide (s5 < (((List.length x0) : Nat) : Int))))), (.d (.bool (decide (s5 < (((List.length x0) : Nat) : Int))))), (.tup []), (.tup []), (.d (.bool false)), .top, .top, .top, .top, .top, .top, .top, .top, .top, .top, .top, .top, .top, .top, .top, .top, .top, .top, .top, .top, .top], [(.arr (.pair (.int .i64) (.int .i64)) b0 true)])
noncomputable def lbl31_0 : AC := loopBody 57 body31

set_option maxHeartbeats 20000000 in
theorem l31_0_w0 (m n : Nat) (x0 : List Int) (s4 : Int) (s5 : Int) (b0 : List (Int × Int)) (r : AEx × Env × Boxes) (c0 : decide (s5 < (((List.length x0) : Nat) : Int)) = true) (c3 : decide (s5 < 20) = true) (c4 : decide (0 ≤ s5) = true) (c12 : decide ((((List.length b0) + 1) * 16) ≤ 70368744177664) = true) (ih : (turns (hds 31 57) 0 57 (evC byref (evCall F S2 (m + 24)) (m + 24) 0 (hds 31) lbl31_0) n (l31_0H x0 ((IntKind.wrap .i64 (s4 + (withinI (List.getD x0 (Int.toNat s5) 0) (1) (12))))) ((IntKind.wrap .i64 (s5 + (1)))) ((b0 ++ [((IntKind.wrap .i64 (s4 + (withinI (List.getD x0 (Int.toNat s5) 0) (1) (12)))), (withinI (IntKind.wrap .i64 (Int.tdiv (List.getD x0 (Int.toNat s5) 0) (12))) (-4) (9)))]))) (l31_0B x0 ((IntKind.wrap .i64 (s4 + (withinI (List.getD x0 (Int.toNat s5) 0) (1) (12))))) ((IntKind.wrap .i64 (s5 + (1)))) ((b0 ++ [((IntKind.wrap .i64 (s4 + (withinI (List.getD x0 (Int.toNat s5) 0) (1) (12)))), (withinI (IntKind.wrap .i64 (Int.tdiv (List.getD x0 (Int.toNat s5) 0) (12))) (-4) (9)))])))).run = some r) : (turns (hds 31 57) 0 57 (evC byref (evCall F S2 (m + 24)) (m + 24) 0 (hds 31) lbl31_0) (n + 1) (l31_0H x0 s4 s5 b0) (l31_0B x0 s4 s5 b0)).run = some r := by
  have ht : (turn (hds 31 57) 0 57 (evC byref (evCall F S2 (m + 24)) (m + 24) 0 (hds 31) lbl31_0) (l31_0H x0 s4 s5 b0) (l31_0B x0 s4 s5 b0)).run = some (.normal, [(.d (.sl (.int .i64) x0)), .top, .top, (.sr 0 0 ((List.length b0) + 1) 2 none), (.d (.int .i64 (IntKind.wrap .i64 (s4 + (withinI (List.getD x0 (Int.toNat s5) 0) (1) (12)))))), (.d (.int .i64 (IntKind.wrap .i64 (s5 + (1))))), .top, .top, .top, .top, .top, .top, .top, .top, .top, .top, .top, .top, .top, .top, .top, .top, .top, .top, .top, .top, .top, .top, .top, .top, .top, .top, .top, .top, .top], [(.arr (.pair (.int .i64) (.int .i64)) (b0 ++ [((IntKind.wrap .i64 (s4 + (withinI (List.getD x0 (Int.toNat s5) 0) (1) (12)))), (withinI (IntKind.wrap .i64 (Int.tdiv (List.getD x0 (Int.toNat s5) 0) (12))) (-4) (9)))]) true)]) := M.run_of_path _ [true, true, true, true, true, true, true, true, true, true, true, true, true, true] _ _ (by kernel_rfl) (all_t c0 (all_t c0 (all_t c0 (all_t c3 (all_t c4 (all_t c0 (all_t rfl (all_t c4 (all_t c0 (all_t rfl (all_t rfl (all_t rfl (all_t c12 (all_t (show decide ((List.length b0) = (List.length b0)) = true from decide_eq_true rfl) all_nil))))))))))))))
  refine turns_step ht (turns_eq ?_ ?_ ih)
  · unfold l31_0H
    simp
  · unfold l31_0B
    simp
set_option maxHeartbeats 20000000 in
theorem l31_0_w1 (m n : Nat) (x0 : List Int) (s4 : Int) (s5 : Int) (b0 : List (Int × Int)) (c0 : decide (s5 < (((List.length x0) : Nat) : Int)) = true) (c3 : ¬ decide (s5 < 20) = true) : (turns (hds 31 57) 0 57 (evC byref (evCall F S2 (m + 24)) (m + 24) 0 (hds 31) lbl31_0) (n + 1) (l31_0H x0 s4 s5 b0) (l31_0B x0 s4 s5 b0)).run = some (.exit 0, [(.d (.sl (.int .i64) x0)), .top, .top, (.sr 0 0 (List.length b0) 2 none), (.d (.int .i64 s4)), (.d (.int .i64 s5)), (.d (.int .i64 s5)), (.d (.sl (.int .i64) x0)), (.d (.int .i64 (((List.length x0) : Nat) : Int))), (.d (.bool (decide (s5 < (((List.length x0) : Nat) : Int))))), (.d (.bool (decide (s5 < (((List.length x0) : Nat) : Int))))), (.d (.int .i64 s5)), (.d (.bool (decide (s5 < 20)))), (.d (.bool (decide (s5 < 20)))), .top, .top, .top, .top, .top, .top, .top, .top, .top, .top, .top, .top, .top, .top, .top, .top, .top, .top, .top, .top, .top], [(.arr (.pair (.int .i64) (.int .i64)) b0 true)]) := by
  exact turns_last (by simp) (M.run_of_path _ [true, true, true, false] _ _ (by kernel_rfl) (all_t c0 (all_t c0 (all_t c0 (all_f c3 all_nil))))) 
set_option maxHeartbeats 20000000 in
theorem l31_0_w2 (m n : Nat) (x0 : List Int) (s4 : Int) (s5 : Int) (b0 : List (Int × Int)) (c0 : ¬ decide (s5 < (((List.length x0) : Nat) : Int)) = true) : (turns (hds 31 57) 0 57 (evC byref (evCall F S2 (m + 24)) (m + 24) 0 (hds 31) lbl31_0) (n + 1) (l31_0H x0 s4 s5 b0) (l31_0B x0 s4 s5 b0)).run = some (.exit 0, [(.d (.sl (.int .i64) x0)), .top, .top, (.sr 0 0 (List.length b0) 2 none), (.d (.int .i64 s4)), (.d (.int .i64 s5)), (.d (.int .i64 s5)), (.d (.sl (.int .i64) x0)), (.d (.int .i64 (((List.length x0) : Nat) : Int))), (.d (.bool (decide (s5 < (((List.length x0) : Nat) : Int))))), (.d (.bool (decide (s5 < (((List.length x0) : Nat) : Int))))), (.tup []), (.tup []), (.d (.bool false)), .top, .top, .top, .top, .top, .top, .top, .top, .top, .top, .top, .top, .top, .top, .top, .top, .top, .top, .top, .top, .top], [(.arr (.pair (.int .i64) (.int .i64)) b0 true)]) := by
  exact turns_last (by simp) (M.run_of_path _ [false, false, false, false] _ _ (by kernel_rfl) (all_f c0 (all_f c0 (all_f c0 (all_f Bool.false_ne_true all_nil))))) 

set_option maxHeartbeats 20000000 in
theorem l31_0_step (m n : Nat) (ih : ∀ (x0 : List Int) (s4 : Int) (s5 : Int) (b0 : List (Int × Int)) (q : Nat × Int × Int × (List (Int × Int))), l31_0 m n x0 s4 s5 b0 = some q → (turns (hds 31 57) 0 57 (evC byref (evCall F S2 (m + 24)) (m + 24) 0 (hds 31) lbl31_0) n (l31_0H x0 s4 s5 b0) (l31_0B x0 s4 s5 b0)).run = some (l31_0E (x0) (q.2.1) (q.2.2.1) (q.2.2.2) q.1)) (x0 : List Int) (s4 : Int) (s5 : Int) (b0 : List (Int × Int)) (q : Nat × Int × Int × (List (Int × Int))) (h : l31_0 m (n + 1) x0 s4 s5 b0 = some q) : (turns (hds 31 57) 0 57 (evC byref (evCall F S2 (m + 24)) (m + 24) 0 (hds 31) lbl31_0) (n + 1) (l31_0H x0 s4 s5 b0) (l31_0B x0 s4 s5 b0)).run = some (l31_0E (x0) (q.2.1) (q.2.2.1) (q.2.2.2) q.1) := by
  rw [l31_0] at h
  refine ite_cases h (fun c0 h => ?_) (fun c0 h => ?_)
  · skip
    refine ite_cases h (fun c3 h => ?_) (fun c3 h => ?_)
    · skip
      refine ite_cases h (fun c4 h => ?_) (fun c4 h => ?_)
      · skip
        refine ite_cases h (fun c12 h => ?_) (fun c12 h => ?_)
        · skip
          exact l31_0_w0 m n x0 s4 s5 b0 _ c0 c3 c4 c12 (ih _ _ _ _ q h)
        · skip
          cases h
      · skip
        cases h
    · skip
      cases h
      exact l31_0_w1 m n x0 s4 s5 b0 c0 c3
  · skip
    cases h
    exact l31_0_w2 m n x0 s4 s5 b0 c0
set_option maxHeartbeats 20000000 in
theorem l31_0_ok (m : Nat) : ∀ (n : Nat) (x0 : List Int) (s4 : Int) (s5 : Int) (b0 : List (Int × Int)) (q : Nat × Int × Int × (List (Int × Int))), l31_0 m n x0 s4 s5 b0 = some q → (turns (hds 31 57) 0 57 (evC byref (evCall F S2 (m + 24)) (m + 24) 0 (hds 31) lbl31_0) n (l31_0H x0 s4 s5 b0) (l31_0B x0 s4 s5 b0)).run = some (l31_0E (x0) (q.2.1) (q.2.2.1) (q.2.2.2) q.1)
  | 0, x0, s4, s5, b0, q, h => by cases h
  | n + 1, x0, s4, s5, b0, q, h => l31_0_step m n (l31_0_ok m n) x0 s4 s5 b0 q h

def p31 (m : Nat) (x0 : List Int) : Option ((List (Int × Int))) :=
  if (Option.isSome (l31_0 m (m + 24) x0 0 0 (([] : List (Int × Int))))) = true then
    if ((l31_0R m (m + 24) x0 0 0 (([] : List (Int × Int)))).1 == 0) = true then
      some ((List.take (List.length (l31_0R m (m + 24) x0 0 0 (([] : List (Int × Int)))).2.2.2) (List.drop 0 (l31_0R m (m + 24) x0 0 0 (([] : List (Int × Int)))).2.2.2)))
    else
      if ((l31_0R m (m + 24) x0 0 0 (([] : List (Int × Int)))).1 == 1) = true then
        some ((List.take (List.length (l31_0R m (m + 24) x0 0 0 (([] : List (Int × Int)))).2.2.2) (List.drop 0 (l31_0R m (m + 24) x0 0 0 (([] : List (Int × Int)))).2.2.2)))
      else
        none
  else
    none
set_option maxHeartbeats 20000000 in
theorem p31_ok (m : Nat) (x0 : List Int) (q : (List (Int × Int))) (h : p31 m x0 = some q) : ∃ r B1, (evCall F S2 (m + 25) 31 [(.d (.sl (.int .i64) x0))] []).run = some (r, B1) ∧ 0 ≤ B1.length ∧ wkR B1 [] r (.d (.sl (.pair (.int .i64) (.int .i64)) q)) ∧ wkBs B1 [] 0 [] := by
  unfold p31 at h
  refine ite_cases h (fun c0 h => ?_) (fun c0 h => ?_)
  · skip
    refine ite_cases h (fun c1 h => ?_) (fun c1 h => ?_)
    · skip
      cases h
      refine ⟨(.d (.sl (.pair (.int .i64) (.int .i64)) (List.take (List.length (l31_0R m (m + 24) x0 0 0 (([] : List (Int × Int)))).2.2.2) (List.drop 0 (l31_0R m (m + 24) x0 0 0 (([] : List (Int × Int)))).2.2.2)))), [], runT_ok (LS := (fun k => if k = 57 then some (l31_0E x0 ((l31_0R m (m + 24) x0 0 0 (([] : List (Int × Int)))).2.1) ((l31_0R m (m + 24) x0 0 0 (([] : List (Int × Int)))).2.2.1) ((l31_0R m (m + 24) x0 0 0 (([] : List (Int × Int)))).2.2.2) 0) else none)) (fn := fn31) (vis := [(57, l31_0H x0 0 0 (([] : List (Int × Int))), l31_0B x0 0 0 (([] : List (Int × Int))))]) (by kernel_rfl) rfl (by kernel_rfl) (M.run_of_path _ [true] _ _ (by kernel_rfl) (all_t (show decide ((0 + (List.length (l31_0R m (m + 24) x0 0 0 (([] : List (Int × Int)))).2.2.2)) ≤ (List.length (l31_0R m (m + 24) x0 0 0 (([] : List (Int × Int)))).2.2.2)) = true from decide_eq_true (Nat.le_of_eq (Nat.zero_add _))) all_nil)) ?_, by simp, (wkR.one (wkV.one (wk1.eq rfl))), trivial⟩
      intro p hp p2 hq
      rcases List.mem_cons.1 hp with rfl | hp
      · skip
        have h3 := l31_0_ok m (m + 24) x0 0 0 (([] : List (Int × Int))) _ (some_getD (d := l31_0D) c0)
        rw [eq_of_beq c1] at h3
        exact Eq.trans (Eq.mp (by kernel_rfl) h3) hq
      cases hp
    · skip
      refine ite_cases h (fun c2 h => ?_) (fun c2 h => ?_)
      · skip
        cases h
        refine ⟨(.d (.sl (.pair (.int .i64) (.int .i64)) (List.take (List.length (l31_0R m (m + 24) x0 0 0 (([] : List (Int × Int)))).2.2.2) (List.drop 0 (l31_0R m (m + 24) x0 0 0 (([] : List (Int × Int)))).2.2.2)))), [], runT_ok (LS := (fun k => if k = 57 then some (l31_0E x0 ((l31_0R m (m + 24) x0 0 0 (([] : List (Int × Int)))).2.1) ((l31_0R m (m + 24) x0 0 0 (([] : List (Int × Int)))).2.2.1) ((l31_0R m (m + 24) x0 0 0 (([] : List (Int × Int)))).2.2.2) 1) else none)) (fn := fn31) (vis := [(57, l31_0H x0 0 0 (([] : List (Int × Int))), l31_0B x0 0 0 (([] : List (Int × Int))))]) (by kernel_rfl) rfl (by kernel_rfl) (M.run_of_path _ [true] _ _ (by kernel_rfl) (all_t (show decide ((0 + (List.length (l31_0R m (m + 24) x0 0 0 (([] : List (Int × Int)))).2.2.2)) ≤ (List.length (l31_0R m (m + 24) x0 0 0 (([] : List (Int × Int)))).2.2.2)) = true from decide_eq_true (Nat.le_of_eq (Nat.zero_add _))) all_nil)) ?_, by simp, (wkR.one (wkV.one (wk1.eq rfl))), trivial⟩
        intro p hp p2 hq
        rcases List.mem_cons.1 hp with rfl | hp
        · skip
          have h3 := l31_0_ok m (m + 24) x0 0 0 (([] : List (Int × Int))) _ (some_getD (d := l31_0D) c0)
          rw [eq_of_beq c2] at h3
          exact Eq.trans (Eq.mp (by kernel_rfl) h3) hq
        cases hp
      · skip
        cases h
  · skip
    cases h

abbrev SL := List (Int × Int)
def sampGo (t : Int) : List Int → SL
  | [] => []
  | k :: ks => (t + withinI k 1 12, withinI (IntKind.wrap .i64 (Int.tdiv k 12)) (-4) 9) :: sampGo (t + withinI k 1 12) ks
/-- Samples of numbers. -/
def samplesG (l : List Int) : SL := sampGo 0 (l.take 20)
theorem within_1_12 (k : Int) : 1 ≤ withinI k 1 12 ∧ withinI k 1 12 ≤ 12 := by unfold withinI; omega
theorem samp_loop (m : Nat) (x0 : List Int) : ∀ (n i : Nat) (t : Int) (acc : SL), i ≤ x0.length → i ≤ 20 → 0 ≤ t → t ≤ 12 * (i : Nat) → acc.length = i → 20 - i < n →
    ∃ e t' i', l31_0 m n x0 t (i : Nat) acc = some (e, t', i', acc ++ sampGo t ((x0.take 20).drop i)) ∧ (e = 0 ∨ e = 1)
  | 0, i, t, acc, _, _, _, _, _, h => by omega
  | n + 1, i, t, acc, h1, h2, h3, h4, h5, h6 => by
    rw [l31_0]
    by_cases hi : i < x0.length
    · have e1 : decide (((i : Nat) : Int) < (((List.length x0) : Nat) : Int)) = true := decide_eq_true (by omega)
      by_cases hj : i < 20
      · have e2 : decide (((i : Nat) : Int) < 20) = true := decide_eq_true (by omega)
        have e3 : decide ((0 : Int) ≤ ((i : Nat) : Int)) = true := decide_eq_true (by omega)
        have e4 : decide ((((List.length acc) + 1) * 16) ≤ 70368744177664) = true := decide_eq_true (by omega)
        have e5 : decide ((List.length acc) = (List.length acc)) = true := decide_eq_true rfl
        have hw := within_1_12 (List.getD x0 i 0)
        have e6 : IntKind.wrap .i64 (t + withinI (List.getD x0 i 0) (1) (12)) = t + withinI (List.getD x0 i 0) (1) (12) := wrap_id (by omega) (by omega)
        have e7 : IntKind.wrap .i64 (((i : Nat) : Int) + (1)) = ((i + 1 : Nat) : Int) := by rw [wrap_id (by omega) (by omega)]; rfl
        simp only [e1, e2, e3, e4, e5, Int.toNat_natCast, e6, e7, ↓reduceIte]
        obtain ⟨e, t', i', hr, he⟩ := samp_loop m x0 n (i + 1) (t + withinI (List.getD x0 i 0) 1 12) (acc ++ [(t + withinI (List.getD x0 i 0) 1 12, withinI (IntKind.wrap .i64 (Int.tdiv (List.getD x0 i 0) 12)) (-4) 9)]) (by omega) (by omega) (by omega) (by omega) (by simp [h5]) (by omega)
        refine ⟨e, t', i', ?_, he⟩
        rw [hr]
        have hd : (x0.take 20).drop i = List.getD x0 i 0 :: (x0.take 20).drop (i + 1) := by
          rw [drop_getD (x0.take 20) i 0 (by rw [List.length_take]; omega)]
          congr 1
          rw [List.getD_eq_getElem?_getD, List.getD_eq_getElem?_getD, List.getElem?_take_of_lt hj]
        rw [hd]
        simp [sampGo]
      · have e2 : decide (((i : Nat) : Int) < 20) = false := decide_eq_false (by omega)
        simp only [e1, e2, ↓reduceIte, Bool.false_eq_true]
        refine ⟨0, t, (i : Nat), ?_, .inl rfl⟩
        have : i = 20 := by omega
        rw [List.drop_eq_nil_of_le (by rw [List.length_take]; omega)]
        simp [sampGo]
    · have e1 : decide (((i : Nat) : Int) < (((List.length x0) : Nat) : Int)) = false := decide_eq_false (by omega)
      simp only [e1, ↓reduceIte, Bool.false_eq_true]
      refine ⟨1, t, (i : Nat), ?_, .inr rfl⟩
      rw [List.drop_eq_nil_of_le (by rw [List.length_take]; omega)]
      simp [sampGo]
theorem samples31 (l : List Int) (_ : true = true) : ∃ m, p31 m l = some (samplesG l) := by
  refine ⟨0, ?_⟩
  obtain ⟨e, t', i', hr, he⟩ := samp_loop 0 l 24 0 0 [] (by omega) (by omega) (by omega) (by omega) rfl (by omega)
  simp only [Int.natCast_zero, List.drop_zero, List.nil_append] at hr
  unfold p31 l31_0R
  rw [hr]
  have h1 : decide (0 + List.length (sampGo 0 (l.take 20)) ≤ List.length (sampGo 0 (l.take 20))) = true := decide_eq_true (by omega)
  rcases he with rfl | rfl <;> simp [samplesG]
def s31 : List AV → Boxes → M (AV × Boxes) := normS [.val (.sl (.int .i64))] [] fun xs B => match xs, B with
  | [(.d (.sl (.int .i64) c1))], [] => .chk (true) (.ret ((.d (.sl (.pair (.int .i64) (.int .i64)) (samplesG c1))), []))
  | _, _ => .fail
theorem s31_at : CallAt Try.prog 31 s31 := by
  refine CallAt.norm (CallAt.weakE (g := fun n => evCall F S2 n 31) (fun n => evCall_atH mixed kinds hds S2 S2_ok n 31) fun xs B r' B' hr => ?_) _ _
  split at hr
  · rename_i c1
    obtain ⟨hp, hr⟩ := (M.run_chk _ _ _).1 hr
    simp only [M.run, Option.some.injEq, Prod.mk.injEq] at hr
    obtain ⟨rfl, rfl⟩ := hr
    obtain ⟨m, hm⟩ := samples31 c1 hp
    obtain ⟨r, B1, h1, h2, h3, h4⟩ := p31_ok m c1 _ hm
    exact ⟨m + 25, r, B1, h1, by simp, h2, h3, h4⟩
  · simp [M.run] at hr
noncomputable def S3 : FuncId → Option (List AV → Boxes → M (AV × Boxes)) := fun f => if f = 31 then some s31 else S2 f
set_option maxHeartbeats 20000000 in
theorem S3_ok : ∀ f s, S3 f = some s → CallAt Try.prog f s := by
  intro f s h
  unfold S3 at h
  split at h
  · rename_i e; subst e; cases h; exact s31_at
  · exact S2_ok f s h

end Go.Proofs.Ytkppbflmlpabjab.Dec
namespace Go.Proofs.Ytkppbflmlpabjab.Dec
open Go.Ev
set_option linter.unusedVariables false
set_option linter.unusedSimpArgs false
set_option maxRecDepth 100000
noncomputable def fn46 : AFn := (F 46).getD ⟨0, [], .bad, false, false, noHd⟩
noncomputable def body46 : AC := fn46.body
def l46_0 (m : Nat) : Nat → List (Int × Int) → Int → Int → Option (Nat × Int)
  | 0, _, _, _ => none
  | n + 1, x0, x1, s5 => if decide (s5 < (((List.length x0) : Nat) : Int)) = true then
      if decide (0 ≤ s5) = true then
        if decide ((List.getD x0 (Int.toNat s5) (0, 0)).1 ≤ x1) = true then
          l46_0 m n x0 x1 ((IntKind.wrap .i64 (s5 + (1))))
        else
          some (0, s5)
      else
        none
    else
      some (1, s5)
def l46_0D : Nat × Int := (0, 0)
@[reducible] def l46_0R (m n : Nat) (x0 : List (Int × Int)) (x1 : Int) (s5 : Int) : Nat × Int := Option.getD (l46_0 m n x0 x1 s5) l46_0D
def l46_0H (x0 : List (Int × Int)) (x1 : Int) (s5 : Int) : Env := [(.ptr 0 0), (.d (.int .i64 x1)), .top, .top, .top, (.d (.int .i64 s5)), .top, .top, .top, .top, .top, .top, .top, .top, .top, .top, .top, .top, .top, .top, .top, .top, .top, .top, .top, .top, .top, .top]
def l46_0B (x0 : List (Int × Int)) (x1 : Int) (s5 : Int) : Boxes := [(.cells [(.d (.sl (.pair (.int .i64) (.int .i64)) x0))])]
def l46_0E (x0 : List (Int × Int)) (x1 : Int) (s5 : Int) : Nat → AEx × Env × Boxes
  | 0 => (.exit 0, [(.ptr 0 0), (.d (.int .i64 x1)), .top, .top, .top, (.d (.int .i64 s5)), (.d (.int .i64 s5)), (.ptr 0 0), (.ptr 0 0), (.ptr 0 0), (.d (.sl (.pair (.int .i64) (.int .i64)) x0)), (.d (.int .i64 (((List.length x0) : Nat) : Int))), (.d (.bool (decide (s5 < (((List.length x0) : Nat) : Int))))), (.d (.bool (decide (s5 < (((List.length x0) : Nat) : Int))))), (.ptr 0 0), (.ptr 0 0), (.ptr 0 0), (.d (.sl (.pair (.int .i64) (.int .i64)) x0)), (.d (.int .i64 s5)), (.cptr [(.int .i64 (List.getD x0 (Int.toNat s5) (0, 0)).1), (.int .i64 (List.getD x0 (Int.toNat s5) (0, 0)).2)] 0), (.cptr [(.int .i64 (List.getD x0 (Int.toNat s5) (0, 0)).1), (.int .i64 (List.getD x0 (Int.toNat s5) (0, 0)).2)] 0), (.d (.int .i64 (List.getD x0 (Int.toNat s5) (0, 0)).1)), (.d (.int .i64 x1)), (.d (.bool (decide ((List.getD x0 (Int.toNat s5) (0, 0)).1 ≤ x1)))), (.d (.bool (decide ((List.getD x0 (Int.toNat s5) (0, 0)).1 ≤ x1)))), .top, .top, .top], [(.cells [(.d (.sl (.pair (.int .i64) (.int .i64)) x0))])])
  | _ => (.exit 0, [(.ptr 0 0), (.d (.int .i64 x1)), .top, .top, .top, (.d (.int .i64 s5)), (.d (.int .i64 s5)), (.ptr 0 0), (.ptr 0 0), (.ptr 0 0), (.d (.sl (.pair (.int .i64) (.int .i64)) x0)), (.d (.int .i64 (((List.length x0) : Nat) : Int))), (.d (.bool (decide (s5 < (((List.length x0) : Nat) : Int))))), (.d (.bool (decide (s5 < (((List.length x0) : Nat) : Int))))), (.tup []), (.tup []), (.tup []), (.tup []), (.tup []), (.tup []), (.tup []), (.tup []), (.tup []), (.tup []), (.d (.bool false)), .top, .top, .top], [(.cells [(.d (.sl (.pair (.int .i64) (.int .i64)) x0))])])
noncomputable def lbl46_0 : AC := loopBody 35 body46

set_option maxHeartbeats 20000000 in
theorem l46_0_w0 (m n : Nat) (x0 : List (Int × Int)) (x1 : Int) (s5 : Int) (r : AEx × Env × Boxes) (c0 : decide (s5 < (((List.length x0) : Nat) : Int)) = true) (c6 : decide (0 ≤ s5) = true) (c13 : decide ((List.getD x0 (Int.toNat s5) (0, 0)).1 ≤ x1) = true) (ih : (turns (hds 46 35) 1 35 (evC byref (evCall F S3 (m + 24)) (m + 24) 1 (hds 46) lbl46_0) n (l46_0H x0 x1 ((IntKind.wrap .i64 (s5 + (1))))) (l46_0B x0 x1 ((IntKind.wrap .i64 (s5 + (1)))))).run = some r) : (turns (hds 46 35) 1 35 (evC byref (evCall F S3 (m + 24)) (m + 24) 1 (hds 46) lbl46_0) (n + 1) (l46_0H x0 x1 s5) (l46_0B x0 x1 s5)).run = some r := by
  exact turns_step (M.run_of_path _ [true, true, true, true, true, true, true, true, true, true, true, true, true, true] _ _ (by kernel_rfl) (all_t c0 (all_t c0 (all_t c0 (all_t c0 (all_t c0 (all_t c0 (all_t c6 (all_t c0 (all_t c0 (all_t c0 (all_t c0 (all_t c0 (all_t c0 (all_t c13 all_nil))))))))))))))) ih
set_option maxHeartbeats 20000000 in
theorem l46_0_w1 (m n : Nat) (x0 : List (Int × Int)) (x1 : Int) (s5 : Int) (c0 : decide (s5 < (((List.length x0) : Nat) : Int)) = true) (c6 : decide (0 ≤ s5) = true) (c13 : ¬ decide ((List.getD x0 (Int.toNat s5) (0, 0)).1 ≤ x1) = true) : (turns (hds 46 35) 1 35 (evC byref (evCall F S3 (m + 24)) (m + 24) 1 (hds 46) lbl46_0) (n + 1) (l46_0H x0 x1 s5) (l46_0B x0 x1 s5)).run = some (.exit 0, [(.ptr 0 0), (.d (.int .i64 x1)), .top, .top, .top, (.d (.int .i64 s5)), (.d (.int .i64 s5)), (.ptr 0 0), (.ptr 0 0), (.ptr 0 0), (.d (.sl (.pair (.int .i64) (.int .i64)) x0)), (.d (.int .i64 (((List.length x0) : Nat) : Int))), (.d (.bool (decide (s5 < (((List.length x0) : Nat) : Int))))), (.d (.bool (decide (s5 < (((List.length x0) : Nat) : Int))))), (.ptr 0 0), (.ptr 0 0), (.ptr 0 0), (.d (.sl (.pair (.int .i64) (.int .i64)) x0)), (.d (.int .i64 s5)), (.cptr [(.int .i64 (List.getD x0 (Int.toNat s5) (0, 0)).1), (.int .i64 (List.getD x0 (Int.toNat s5) (0, 0)).2)] 0), (.cptr [(.int .i64 (List.getD x0 (Int.toNat s5) (0, 0)).1), (.int .i64 (List.getD x0 (Int.toNat s5) (0, 0)).2)] 0), (.d (.int .i64 (List.getD x0 (Int.toNat s5) (0, 0)).1)), (.d (.int .i64 x1)), (.d (.bool (decide ((List.getD x0 (Int.toNat s5) (0, 0)).1 ≤ x1)))), (.d (.bool (decide ((List.getD x0 (Int.toNat s5) (0, 0)).1 ≤ x1)))), .top, .top, .top], [(.cells [(.d (.sl (.pair (.int .i64) (.int .i64)) x0))])]) := by
  exact turns_last (by simp) (M.run_of_path _ [true, true, true, true, true, true, true, true, true, true, true, true, true, false] _ _ (by kernel_rfl) (all_t c0 (all_t c0 (all_t c0 (all_t c0 (all_t c0 (all_t c0 (all_t c6 (all_t c0 (all_t c0 (all_t c0 (all_t c0 (all_t c0 (all_t c0 (all_f c13 all_nil))))))))))))))) 
set_option maxHeartbeats 20000000 in
theorem l46_0_w2 (m n : Nat) (x0 : List (Int × Int)) (x1 : Int) (s5 : Int) (c0 : ¬ decide (s5 < (((List.length x0) : Nat) : Int)) = true) : (turns (hds 46 35) 1 35 (evC byref (evCall F S3 (m + 24)) (m + 24) 1 (hds 46) lbl46_0) (n + 1) (l46_0H x0 x1 s5) (l46_0B x0 x1 s5)).run = some (.exit 0, [(.ptr 0 0), (.d (.int .i64 x1)), .top, .top, .top, (.d (.int .i64 s5)), (.d (.int .i64 s5)), (.ptr 0 0), (.ptr 0 0), (.ptr 0 0), (.d (.sl (.pair (.int .i64) (.int .i64)) x0)), (.d (.int .i64 (((List.length x0) : Nat) : Int))), (.d (.bool (decide (s5 < (((List.length x0) : Nat) : Int))))), (.d (.bool (decide (s5 < (((List.length x0) : Nat) : Int))))), (.tup []), (.tup []), (.tup []), (.tup []), (.tup []), (.tup []), (.tup []), (.tup []), (.tup []), (.tup []), (.d (.bool false)), .top, .top, .top], [(.cells [(.d (.sl (.pair (.int .i64) (.int .i64)) x0))])]) := by
  exact turns_last (by simp) (M.run_of_path _ [false, false, false, false, false, false, false, false, false, false, false, false] _ _ (by kernel_rfl) (all_f c0 (all_f c0 (all_f c0 (all_f c0 (all_f c0 (all_f c0 (all_f c0 (all_f c0 (all_f c0 (all_f c0 (all_f c0 (all_f Bool.false_ne_true all_nil))))))))))))) 

set_option maxHeartbeats 20000000 in
theorem l46_0_step (m n : Nat) (ih : ∀ (x0 : List (Int × Int)) (x1 : Int) (s5 : Int) (q : Nat × Int), l46_0 m n x0 x1 s5 = some q → (turns (hds 46 35) 1 35 (evC byref (evCall F S3 (m + 24)) (m + 24) 1 (hds 46) lbl46_0) n (l46_0H x0 x1 s5) (l46_0B x0 x1 s5)).run = some (l46_0E (x0) (x1) (q.2) q.1)) (x0 : List (Int × Int)) (x1 : Int) (s5 : Int) (q : Nat × Int) (h : l46_0 m (n + 1) x0 x1 s5 = some q) : (turns (hds 46 35) 1 35 (evC byref (evCall F S3 (m + 24)) (m + 24) 1 (hds 46) lbl46_0) (n + 1) (l46_0H x0 x1 s5) (l46_0B x0 x1 s5)).run = some (l46_0E (x0) (x1) (q.2) q.1) := by
  rw [l46_0] at h
  refine ite_cases h (fun c0 h => ?_) (fun c0 h => ?_)
  · skip
    refine ite_cases h (fun c6 h => ?_) (fun c6 h => ?_)
    · skip
      refine ite_cases h (fun c13 h => ?_) (fun c13 h => ?_)
      · skip
        exact l46_0_w0 m n x0 x1 s5 _ c0 c6 c13 (ih _ _ _ q h)
      · skip
        cases h
        exact l46_0_w1 m n x0 x1 s5 c0 c6 c13
    · skip
      cases h
  · skip
    cases h
    exact l46_0_w2 m n x0 x1 s5 c0
set_option maxHeartbeats 20000000 in
theorem l46_0_ok (m : Nat) : ∀ (n : Nat) (x0 : List (Int × Int)) (x1 : Int) (s5 : Int) (q : Nat × Int), l46_0 m n x0 x1 s5 = some q → (turns (hds 46 35) 1 35 (evC byref (evCall F S3 (m + 24)) (m + 24) 1 (hds 46) lbl46_0) n (l46_0H x0 x1 s5) (l46_0B x0 x1 s5)).run = some (l46_0E (x0) (x1) (q.2) q.1)
  | 0, x0, x1, s5, q, h => by cases h
  | n + 1, x0, x1, s5, q, h => l46_0_step m n (l46_0_ok m n) x0 x1 s5 q h

def p46 (m : Nat) (x0 : List (Int × Int)) (x1 : Int) : Option (Int × (List (Int × Int))) :=
  if (Option.isSome (l46_0 m (m + 24) x0 x1 0)) = true then
    if ((l46_0R m (m + 24) x0 x1 0).1 == 0) = true then
      some ((l46_0R m (m + 24) x0 x1 0).2, x0)
    else
      if ((l46_0R m (m + 24) x0 x1 0).1 == 1) = true then
        some ((l46_0R m (m + 24) x0 x1 0).2, x0)
      else
        none
  else
    none
set_option maxHeartbeats 20000000 in
theorem p46_ok (m : Nat) (x0 : List (Int × Int)) (x1 : Int) (q : Int × (List (Int × Int))) (h : p46 m x0 x1 = some q) : ∃ r B1, (evCall F S3 (m + 25) 46 [(.ptr 0 0), (.d (.int .i64 x1))] [(.cells [(.d (.sl (.pair (.int .i64) (.int .i64)) x0))])]).run = some (r, B1) ∧ 1 ≤ B1.length ∧ wkR B1 [(.cells [(.d (.sl (.pair (.int .i64) (.int .i64)) q.2))])] r (.d (.int .i64 q.1)) ∧ wkBs B1 [(.cells [(.d (.sl (.pair (.int .i64) (.int .i64)) q.2))])] 0 [(.cells [(.d (.sl (.pair (.int .i64) (.int .i64)) q.2))])] := by
  unfold p46 at h
  refine ite_cases h (fun c0 h => ?_) (fun c0 h => ?_)
  · skip
    refine ite_cases h (fun c1 h => ?_) (fun c1 h => ?_)
    · skip
      cases h
      refine ⟨(.d (.int .i64 (l46_0R m (m + 24) x0 x1 0).2)), [(.cells [(.d (.sl (.pair (.int .i64) (.int .i64)) x0))])], runT_ok (LS := (fun k => if k = 35 then some (l46_0E x0 x1 ((l46_0R m (m + 24) x0 x1 0).2) 0) else none)) (fn := fn46) (vis := [(35, l46_0H x0 x1 0, l46_0B x0 x1 0)]) (by kernel_rfl) rfl (by kernel_rfl) (M.run_of_path _ [] _ _ (by kernel_rfl) all_nil) ?_, by simp, (wkR.one (wkV.one (wk1.eq rfl))), ⟨wkBox.cells (wkL.cons (wk1.eq rfl) wkL.nil), trivial⟩⟩
      intro p hp p2 hq
      rcases List.mem_cons.1 hp with rfl | hp
      · skip
        have h3 := l46_0_ok m (m + 24) x0 x1 0 _ (some_getD (d := l46_0D) c0)
        rw [eq_of_beq c1] at h3
        exact Eq.trans (Eq.mp (by kernel_rfl) h3) hq
      cases hp
    · skip
      refine ite_cases h (fun c2 h => ?_) (fun c2 h => ?_)
      · skip
        cases h
        refine ⟨(.d (.int .i64 (l46_0R m (m + 24) x0 x1 0).2)), [(.cells [(.d (.sl (.pair (.int .i64) (.int .i64)) x0))])], runT_ok (LS := (fun k => if k = 35 then some (l46_0E x0 x1 ((l46_0R m (m + 24) x0 x1 0).2) 1) else none)) (fn := fn46) (vis := [(35, l46_0H x0 x1 0, l46_0B x0 x1 0)]) (by kernel_rfl) rfl (by kernel_rfl) (M.run_of_path _ [] _ _ (by kernel_rfl) all_nil) ?_, by simp, (wkR.one (wkV.one (wk1.eq rfl))), ⟨wkBox.cells (wkL.cons (wk1.eq rfl) wkL.nil), trivial⟩⟩
        intro p hp p2 hq
        rcases List.mem_cons.1 hp with rfl | hp
        · skip
          have h3 := l46_0_ok m (m + 24) x0 x1 0 _ (some_getD (d := l46_0D) c0)
          rw [eq_of_beq c2] at h3
          exact Eq.trans (Eq.mp (by kernel_rfl) h3) hq
        cases hp
      · skip
        cases h
  · skip
    cases h

/-- How many samples have a time at most t. -/
def uptoG (l : SL) (t : Int) : Nat := (l.takeWhile fun x => decide (x.1 ≤ t)).length
theorem upto_le (l : SL) (t : Int) : uptoG l t ≤ l.length := (List.takeWhile_sublist _).length_le
theorem upto_cons (a : Int × Int) (r : SL) (t : Int) : uptoG (a :: r) t = if a.1 ≤ t then uptoG r t + 1 else 0 := by
  unfold uptoG
  by_cases h : a.1 ≤ t
  · rw [List.takeWhile_cons_of_pos (by simpa using h), if_pos h]; rfl
  · rw [List.takeWhile_cons_of_neg (by simpa using h), if_neg h]; rfl
theorem upto_loop (m : Nat) (l : SL) (t : Int) (hb : l.length < 4611686018427387904) : ∀ (n k : Nat), k ≤ l.length → l.length - k < n → ∃ e, l46_0 m n l t (k : Nat) = some (e, ((k + uptoG (l.drop k) t : Nat) : Int)) ∧ (e = 0 ∨ e = 1)
  | 0, k, _, h => by omega
  | n + 1, k, h1, h2 => by
    rw [l46_0]
    by_cases hk : k < l.length
    · have e1 : decide (((k : Nat) : Int) < (((List.length l) : Nat) : Int)) = true := decide_eq_true (by omega)
      have e2 : decide ((0 : Int) ≤ ((k : Nat) : Int)) = true := decide_eq_true (by omega)
      have e7 : IntKind.wrap .i64 (((k : Nat) : Int) + (1)) = ((k + 1 : Nat) : Int) := by rw [wrap_id (by omega) (by omega)]; rfl
      simp only [e1, e2, Int.toNat_natCast, e7, ↓reduceIte]
      rw [drop_getD l k (0, 0) hk]
      by_cases hc : (l.getD k (0, 0)).1 ≤ t
      · obtain ⟨e, hr, he⟩ := upto_loop m l t hb n (k + 1) (by omega) (by omega)
        refine ⟨e, ?_, he⟩
        rw [if_pos (decide_eq_true hc), hr]
        have : uptoG (l.getD k (0, 0) :: l.drop (k + 1)) t = uptoG (l.drop (k + 1)) t + 1 := by rw [upto_cons, if_pos hc]
        rw [this, show k + 1 + uptoG (l.drop (k + 1)) t = k + (uptoG (l.drop (k + 1)) t + 1) by omega]
      · refine ⟨0, ?_, .inl rfl⟩
        rw [if_neg (by simpa using hc)]
        have : uptoG (l.getD k (0, 0) :: l.drop (k + 1)) t = 0 := by rw [upto_cons, if_neg hc]
        rw [this]
        rfl
    · have e1 : decide (((k : Nat) : Int) < (((List.length l) : Nat) : Int)) = false := decide_eq_false (by omega)
      simp only [e1, ↓reduceIte, Bool.false_eq_true]
      refine ⟨1, ?_, .inr rfl⟩
      rw [List.drop_eq_nil_of_le (by omega)]
      rfl
theorem upto46 (l : SL) (t : Int) (h : decide (l.length < 4611686018427387904) = true) : ∃ m, p46 m l t = some (((uptoG l t : Nat) : Int), l) := by
  refine ⟨l.length, ?_⟩
  obtain ⟨e, hr, he⟩ := upto_loop l.length l t (of_decide_eq_true h) (l.length + 24) 0 (by omega) (by omega)
  simp only [Int.natCast_zero, List.drop_zero, Nat.zero_add] at hr
  unfold p46 l46_0R
  rw [hr]
  rcases he with rfl | rfl <;> simp
def s46 : List AV → Boxes → M (AV × Boxes) := normS [.ptr, .val (.int .i64)] [(.sl (.pair (.int .i64) (.int .i64)))] fun xs B => match xs, B with
  | [(.ptr 0 0), (.d (.int .i64 c2))], [(.cells [(.d (.sl (.pair (.int .i64) (.int .i64)) c1))])] => .chk (decide (List.length c1 < 4611686018427387904)) (.ret ((.d (.int .i64 ((uptoG c1 c2 : Nat) : Int))), [(.cells [(.d (.sl (.pair (.int .i64) (.int .i64)) c1))])]))
  | _, _ => .fail
theorem s46_at : CallAt Try.prog 46 s46 := by
  refine CallAt.norm (CallAt.weakE (g := fun n => evCall F S3 n 46) (fun n => evCall_atH mixed kinds hds S3 S3_ok n 46) fun xs B r' B' hr => ?_) _ _
  split at hr
  · rename_i c2 c1
    obtain ⟨hp, hr⟩ := (M.run_chk _ _ _).1 hr
    simp only [M.run, Option.some.injEq, Prod.mk.injEq] at hr
    obtain ⟨rfl, rfl⟩ := hr
    obtain ⟨m, hm⟩ := upto46 c1 c2 hp
    obtain ⟨r, B1, h1, h2, h3, h4⟩ := p46_ok m c1 c2 _ hm
    exact ⟨m + 25, r, B1, h1, by simp, h2, h3, h4⟩
  · simp [M.run] at hr
noncomputable def S4 : FuncId → Option (List AV → Boxes → M (AV × Boxes)) := fun f => if f = 46 then some s46 else S3 f
set_option maxHeartbeats 20000000 in
theorem S4_ok : ∀ f s, S4 f = some s → CallAt Try.prog f s := by
  intro f s h
  unfold S4 at h
  split at h
  · rename_i e; subst e; cases h; exact s46_at
  · exact S3_ok f s h

noncomputable def fn28 : AFn := (F 28).getD ⟨0, [], .bad, false, false, noHd⟩
noncomputable def body28 : AC := fn28.body
def p28 (m : Nat) (x0 : List (Int × Int)) (x1 : Int) (x2 : Int) : Option (Int × Bool × (List (Int × Int))) :=
  if decide (List.length x0 < 4611686018427387904) = true then
    if (((uptoG x0 x1 : Nat) : Int) == (0)) = true then
      some ((0), false, x0)
    else
      if decide (0 ≤ (IntKind.wrap .i64 (((uptoG x0 x1 : Nat) : Int) - (1)))) = true then
        if decide ((IntKind.wrap .i64 (((uptoG x0 x1 : Nat) : Int) - (1))) < (((List.length x0) : Nat) : Int)) = true then
          if decide ((List.getD x0 (Int.toNat (IntKind.wrap .i64 (((uptoG x0 x1 : Nat) : Int) - (1)))) (0, 0)).1 ≤ (IntKind.wrap .i64 (x1 - x2))) = true then
            some ((0), false, x0)
          else
            some ((List.getD x0 (Int.toNat (IntKind.wrap .i64 (((uptoG x0 x1 : Nat) : Int) - (1)))) (0, 0)).2, true, x0)
        else
          none
      else
        none
  else
    none
set_option maxHeartbeats 20000000 in
theorem p28_ok (m : Nat) (x0 : List (Int × Int)) (x1 : Int) (x2 : Int) (q : Int × Bool × (List (Int × Int))) (h : p28 m x0 x1 x2 = some q) : ∃ r B1, (evCall F S4 (m + 25) 28 [(.ptr 0 0), (.d (.int .i64 x1)), (.d (.int .i64 x2))] [(.cells [(.d (.sl (.pair (.int .i64) (.int .i64)) x0))])]).run = some (r, B1) ∧ 1 ≤ B1.length ∧ wkR B1 [(.cells [(.d (.sl (.pair (.int .i64) (.int .i64)) q.2.2))])] r (.tup [(.d (.int .i64 q.1)), (.d (.bool (q.2.1)))]) ∧ wkBs B1 [(.cells [(.d (.sl (.pair (.int .i64) (.int .i64)) q.2.2))])] 0 [(.cells [(.d (.sl (.pair (.int .i64) (.int .i64)) q.2.2))])] := by
  unfold p28 at h
  refine ite_cases h (fun c0 h => ?_) (fun c0 h => ?_)
  · skip
    refine ite_cases h (fun c1 h => ?_) (fun c1 h => ?_)
    · skip
      cases h
      refine ⟨(.tup [(.d (.int .i64 (0))), (.d (.bool false))]), [(.cells [(.d (.sl (.pair (.int .i64) (.int .i64)) x0))])], runT_ok (LS := (fun k => none)) (fn := fn28) (vis := []) (by kernel_rfl) rfl (by kernel_rfl) (M.run_of_path _ [true, true, true, true, true, true, true, true, true, true, true, true, true, true, true, true] _ _ (by kernel_rfl) (all_t c0 (all_t c1 (all_t c1 (all_t c1 (all_t c1 (all_t c1 (all_t c1 (all_t c1 (all_t c1 (all_t c1 (all_t c1 (all_t c1 (all_t c1 (all_t c1 (all_t c1 (all_t rfl all_nil))))))))))))))))) ?_, by simp, (wkR.tup (wkVs.cons (wkV.one (wk1.eq rfl)) (wkVs.cons (wkV.one (wk1.eq rfl)) wkVs.nil))), ⟨wkBox.cells (wkL.cons (wk1.eq rfl) wkL.nil), trivial⟩⟩
      intro p hp; cases hp
    · skip
      refine ite_cases h (fun c8 h => ?_) (fun c8 h => ?_)
      · skip
        refine ite_cases h (fun c9 h => ?_) (fun c9 h => ?_)
        · skip
          refine ite_cases h (fun c17 h => ?_) (fun c17 h => ?_)
          · skip
            cases h
            refine ⟨(.tup [(.d (.int .i64 (0))), (.d (.bool false))]), [(.cells [(.d (.sl (.pair (.int .i64) (.int .i64)) x0))])], runT_ok (LS := (fun k => none)) (fn := fn28) (vis := []) (by kernel_rfl) rfl (by kernel_rfl) (M.run_of_path _ [true, false, false, false, false, false, false, false, true, true, false, false, false, false, false, false, false, true] _ _ (by kernel_rfl) (all_t c0 (all_f c1 (all_f c1 (all_f c1 (all_f c1 (all_f c1 (all_f c1 (all_f c1 (all_t c8 (all_t c9 (all_f c1 (all_f c1 (all_f c1 (all_f c1 (all_f c1 (all_f c1 (all_f c1 (all_t c17 all_nil))))))))))))))))))) ?_, by simp, (wkR.tup (wkVs.cons (wkV.one (wk1.eq rfl)) (wkVs.cons (wkV.one (wk1.eq rfl)) wkVs.nil))), ⟨wkBox.cells (wkL.cons (wk1.eq rfl) wkL.nil), trivial⟩⟩
            intro p hp; cases hp
          · skip
            cases h
            refine ⟨(.tup [(.d (.int .i64 (List.getD x0 (Int.toNat (IntKind.wrap .i64 (((uptoG x0 x1 : Nat) : Int) - (1)))) (0, 0)).2)), (.d (.bool true))]), [(.cells [(.d (.sl (.pair (.int .i64) (.int .i64)) x0))])], runT_ok (LS := (fun k => none)) (fn := fn28) (vis := []) (by kernel_rfl) rfl (by kernel_rfl) (M.run_of_path _ [true, false, false, false, false, false, false, false, true, true, false, false, false, false, false, false, false, false, true, true] _ _ (by kernel_rfl) (all_t c0 (all_f c1 (all_f c1 (all_f c1 (all_f c1 (all_f c1 (all_f c1 (all_f c1 (all_t c8 (all_t c9 (all_f c1 (all_f c1 (all_f c1 (all_f c1 (all_f c1 (all_f c1 (all_f c1 (all_f c17 (all_t c8 (all_t c9 all_nil))))))))))))))))))))) ?_, by simp, (wkR.tup (wkVs.cons (wkV.one (wk1.eq rfl)) (wkVs.cons (wkV.one (wk1.eq rfl)) wkVs.nil))), ⟨wkBox.cells (wkL.cons (wk1.eq rfl) wkL.nil), trivial⟩⟩
            intro p hp; cases hp
        · skip
          cases h
      · skip
        cases h
  · skip
    cases h

/-- What is seen at a time, looking so far back. -/
def atB (l : SL) (t look : Int) : Bool := !decide (uptoG l t = 0) && !decide ((l.getD (uptoG l t - 1) (0, 0)).1 ≤ t - look)
def atV (l : SL) (t look : Int) : Int := if atB l t look then (l.getD (uptoG l t - 1) (0, 0)).2 else 0
def atPre (l : SL) (t look : Int) : Bool := decide (l.length < 4611686018427387904 ∧ -1152921504606846976 ≤ t ∧ t ≤ 1152921504606846976 ∧ -1152921504606846976 ≤ look ∧ look ≤ 1152921504606846976)
theorem at28 (l : SL) (t look : Int) (h : atPre l t look = true) : ∃ m, p28 m l t look = some (atV l t look, atB l t look, l) := by
  have h := of_decide_eq_true h
  refine ⟨0, ?_⟩
  have hle := upto_le l t
  unfold p28 atV atB
  generalize uptoG l t = k at hle
  have ew : IntKind.wrap .i64 (t - look) = t - look := wrap_id (by omega) (by omega)
  have e9 : decide (List.length l < 4611686018427387904) = true := decide_eq_true h.1
  by_cases hk : k = 0
  · subst hk
    have e0 : (((0 : Nat) : Int) == (0)) = true := rfl
    simp only [e9, e0, ↓reduceIte]
    simp
  · have e0 : (((k : Nat) : Int) == (0)) = false := by simp; omega
    have e1 : IntKind.wrap .i64 (((k : Nat) : Int) - (1)) = ((k - 1 : Nat) : Int) := by rw [wrap_id (by omega) (by omega)]; omega
    have e2 : decide ((0 : Int) ≤ ((k - 1 : Nat) : Int)) = true := decide_eq_true (by omega)
    have e3 : decide (((k - 1 : Nat) : Int) < (((List.length l) : Nat) : Int)) = true := decide_eq_true (by omega)
    have e4 : decide (k = 0) = false := decide_eq_false hk
    simp only [e9, e0, e1, e2, e3, e4, ew, Int.toNat_natCast, ↓reduceIte, Bool.false_eq_true]
    by_cases hc : (l.getD (k - 1) (0, 0)).1 ≤ t - look
    · have e5 : decide ((l.getD (k - 1) (0, 0)).1 ≤ t - look) = true := decide_eq_true hc
      simp only [e5]
      rfl
    · have e5 : decide ((l.getD (k - 1) (0, 0)).1 ≤ t - look) = false := decide_eq_false hc
      simp only [e5]
      rfl
def s28 : List AV → Boxes → M (AV × Boxes) := normS [.ptr, .val (.int .i64), .val (.int .i64)] [(.sl (.pair (.int .i64) (.int .i64)))] fun xs B => match xs, B with
  | [(.ptr 0 0), (.d (.int .i64 c2)), (.d (.int .i64 c3))], [(.cells [(.d (.sl (.pair (.int .i64) (.int .i64)) c1))])] => .chk (atPre c1 c2 c3) (.ret ((.tup [(.d (.int .i64 (atV c1 c2 c3))), (.d (.bool (atB c1 c2 c3)))]), [(.cells [(.d (.sl (.pair (.int .i64) (.int .i64)) c1))])]))
  | _, _ => .fail
theorem s28_at : CallAt Try.prog 28 s28 := by
  refine CallAt.norm (CallAt.weakE (g := fun n => evCall F S4 n 28) (fun n => evCall_atH mixed kinds hds S4 S4_ok n 28) fun xs B r' B' hr => ?_) _ _
  split at hr
  · rename_i c2 c3 c1
    obtain ⟨hp, hr⟩ := (M.run_chk _ _ _).1 hr
    simp only [M.run, Option.some.injEq, Prod.mk.injEq] at hr
    obtain ⟨rfl, rfl⟩ := hr
    obtain ⟨m, hm⟩ := at28 c1 c2 c3 hp
    obtain ⟨r, B1, h1, h2, h3, h4⟩ := p28_ok m c1 c2 c3 _ hm
    exact ⟨m + 25, r, B1, h1, by simp, h2, h3, h4⟩
  · simp [M.run] at hr
noncomputable def S5 : FuncId → Option (List AV → Boxes → M (AV × Boxes)) := fun f => if f = 28 then some s28 else S4 f
set_option maxHeartbeats 20000000 in
theorem S5_ok : ∀ f s, S5 f = some s → CallAt Try.prog f s := by
  intro f s h
  unfold S5 at h
  split at h
  · rename_i e; subst e; cases h; exact s28_at
  · exact S4_ok f s h

end Go.Proofs.Ytkppbflmlpabjab.Dec
namespace Go.Proofs.Ytkppbflmlpabjab.Dec
open Go.Ev
set_option linter.unusedVariables false
set_option linter.unusedSimpArgs false
set_option maxRecDepth 100000
noncomputable def fn27 : AFn := (F 27).getD ⟨0, [], .bad, false, false, noHd⟩
noncomputable def body27 : AC := fn27.body
def l27_0 (m : Nat) : Nat → List (Int × Int) → List (Int × Int) → Int → Int → List (Int × Int) → Option (Nat × Int × (List (Int × Int)))
  | 0, _, _, _, _, _ => none
  | n + 1, x0, x1, s14, s15, b1 => if decide (s15 < s14) = true then
      if decide (0 ≤ s15) = true then
        if decide (s15 < (((List.length x1) : Nat) : Int)) = true then
          if decide ((List.getD x1 (Int.toNat s15) (0, 0)).1 < 0) = true then
            some (0, s15, b1)
          else
            if decide ((List.getD x1 (Int.toNat s15) (0, 0)).1 > 1099511627776) = true then
              some (1, s15, b1)
            else
              if decide ((((List.length b1) : Nat) : Int) > 0) = true then
                if decide (0 ≤ (IntKind.wrap .i64 ((((List.length b1) : Nat) : Int) - (1)))) = true then
                  if decide ((IntKind.wrap .i64 ((((List.length b1) : Nat) : Int) - (1))) < (((List.length b1) : Nat) : Int)) = true then
                    if decide ((0 + (Int.toNat (IntKind.wrap .i64 ((((List.length b1) : Nat) : Int) - (1))))) < (List.length b1)) = true then
                      if decide ((List.getD x1 (Int.toNat s15) (0, 0)).1 ≤ (List.getD b1 (0 + (Int.toNat (IntKind.wrap .i64 ((((List.length b1) : Nat) : Int) - (1))))) (0, 0)).1) = true then
                        some (2, s15, b1)
                      else
                        if ((((List.length b1) : Nat) : Int) == (200)) = true then
                          some (3, s15, b1)
                        else
                          if decide ((((List.length b1) + 1) * 16) ≤ 70368744177664) = true then
                            l27_0 m n x0 x1 s14 ((IntKind.wrap .i64 (s15 + (1)))) ((b1 ++ [(List.getD x1 (Int.toNat s15) (0, 0))]))
                          else
                            none
                    else
                      none
                  else
                    none
                else
                  none
              else
                if ((((List.length b1) : Nat) : Int) == (200)) = true then
                  some (4, s15, b1)
                else
                  if decide ((((List.length b1) + 1) * 16) ≤ 70368744177664) = true then
                    l27_0 m n x0 x1 s14 ((IntKind.wrap .i64 (s15 + (1)))) ((b1 ++ [(List.getD x1 (Int.toNat s15) (0, 0))]))
                  else
                    none
        else
          none
      else
        none
    else
      some (5, s15, b1)
def l27_0D : Nat × Int × (List (Int × Int)) := (0, 0, [])
@[reducible] def l27_0R (m n : Nat) (x0 : List (Int × Int)) (x1 : List (Int × Int)) (s14 : Int) (s15 : Int) (b1 : List (Int × Int)) : Nat × Int × (List (Int × Int)) := Option.getD (l27_0 m n x0 x1 s14 s15 b1) l27_0D
def l27_0H (x0 : List (Int × Int)) (x1 : List (Int × Int)) (s14 : Int) (s15 : Int) (b1 : List (Int × Int)) : Env := [(.ptr 0 0), .top, .top, .top, .top, (.sr 1 0 (List.length b1) 2 none), .top, .top, .top, .top, .top, .top, .top, (.d (.sl (.pair (.int .i64) (.int .i64)) x1)), (.d (.int .i64 s14)), (.d (.int .i64 s15)), .top, .top, .top, .top, .top, .top, .top, .top, .top, .top, .top, .top, .top, .top, .top, .top, .top, .top, .top, .top, .top, .top, .top, .top, .top, .top, .top, .top, .top, .top, .top, .top, .top, .top, .top, .top, .top, .top, .top, .top, .top]
def l27_0B (x0 : List (Int × Int)) (x1 : List (Int × Int)) (s14 : Int) (s15 : Int) (b1 : List (Int × Int)) : Boxes := [(.cells [(.d (.sl (.pair (.int .i64) (.int .i64)) x0))]), (.arr (.pair (.int .i64) (.int .i64)) b1 true)]
def l27_0E (x0 : List (Int × Int)) (x1 : List (Int × Int)) (s14 : Int) (s15 : Int) (b1 : List (Int × Int)) : Nat → AEx × Env × Boxes
  | 0 => (.ret, [(.ptr 0 0), .top, .top, .top, (.d (.int .i64 (1))), (.sr 1 0 (List.length b1) 2 none), .top, (.ptr 2 0), .top, .top, .top, .top, .top, (.d (.sl (.pair (.int .i64) (.int .i64)) x1)), (.d (.int .i64 s14)), (.d (.int .i64 s15)), (.d (.bool (decide (s15 < s14)))), (.cptr [(.int .i64 (List.getD x1 (Int.toNat s15) (0, 0)).1), (.int .i64 (List.getD x1 (Int.toNat s15) (0, 0)).2)] 0), (.agg [(.d (.int .i64 (List.getD x1 (Int.toNat s15) (0, 0)).1)), (.d (.int .i64 (List.getD x1 (Int.toNat s15) (0, 0)).2))]), (.d (.bool true)), (.ptr 2 0), (.d (.int .i64 (List.getD x1 (Int.toNat s15) (0, 0)).1)), (.d (.bool (decide ((List.getD x1 (Int.toNat s15) (0, 0)).1 < 0)))), (.d (.bool (decide ((List.getD x1 (Int.toNat s15) (0, 0)).1 < 0)))), (.tup []), (.tup []), (.tup []), (.d (.bool true)), .top, .top, .top, .top, .top, .top, .top, .top, .top, .top, .top, .top, .top, .top, .top, .top, .top, .top, .top, .top, .top, .top, .top, .top, .top, .top, .top, .top, .top], [(.cells [(.d (.sl (.pair (.int .i64) (.int .i64)) x0))]), (.arr (.pair (.int .i64) (.int .i64)) b1 true), (.cells [(.d (.int .i64 (List.getD x1 (Int.toNat s15) (0, 0)).1)), (.d (.int .i64 (List.getD x1 (Int.toNat s15) (0, 0)).2))])])
  | 1 => (.ret, [(.ptr 0 0), .top, .top, .top, (.d (.int .i64 (1))), (.sr 1 0 (List.length b1) 2 none), .top, (.ptr 2 0), .top, .top, .top, .top, .top, (.d (.sl (.pair (.int .i64) (.int .i64)) x1)), (.d (.int .i64 s14)), (.d (.int .i64 s15)), (.d (.bool (decide (s15 < s14)))), (.cptr [(.int .i64 (List.getD x1 (Int.toNat s15) (0, 0)).1), (.int .i64 (List.getD x1 (Int.toNat s15) (0, 0)).2)] 0), (.agg [(.d (.int .i64 (List.getD x1 (Int.toNat s15) (0, 0)).1)), (.d (.int .i64 (List.getD x1 (Int.toNat s15) (0, 0)).2))]), (.d (.bool (decide ((List.getD x1 (Int.toNat s15) (0, 0)).1 > 1099511627776)))), (.ptr 2 0), (.d (.int .i64 (List.getD x1 (Int.toNat s15) (0, 0)).1)), (.d (.bool (decide ((List.getD x1 (Int.toNat s15) (0, 0)).1 < 0)))), (.d (.bool (decide ((List.getD x1 (Int.toNat s15) (0, 0)).1 < 0)))), (.ptr 2 0), (.d (.int .i64 (List.getD x1 (Int.toNat s15) (0, 0)).1)), (.d (.bool (decide ((List.getD x1 (Int.toNat s15) (0, 0)).1 > 1099511627776)))), (.d (.bool (decide ((List.getD x1 (Int.toNat s15) (0, 0)).1 > 1099511627776)))), .top, .top, .top, .top, .top, .top, .top, .top, .top, .top, .top, .top, .top, .top, .top, .top, .top, .top, .top, .top, .top, .top, .top, .top, .top, .top, .top, .top, .top], [(.cells [(.d (.sl (.pair (.int .i64) (.int .i64)) x0))]), (.arr (.pair (.int .i64) (.int .i64)) b1 true), (.cells [(.d (.int .i64 (List.getD x1 (Int.toNat s15) (0, 0)).1)), (.d (.int .i64 (List.getD x1 (Int.toNat s15) (0, 0)).2))])])
  | 2 => (.ret, [(.ptr 0 0), .top, .top, .top, (.d (.int .i64 (2))), (.sr 1 0 (List.length b1) 2 none), .top, (.ptr 2 0), .top, .top, .top, .top, .top, (.d (.sl (.pair (.int .i64) (.int .i64)) x1)), (.d (.int .i64 s14)), (.d (.int .i64 s15)), (.d (.bool (decide (s15 < s14)))), (.cptr [(.int .i64 (List.getD x1 (Int.toNat s15) (0, 0)).1), (.int .i64 (List.getD x1 (Int.toNat s15) (0, 0)).2)] 0), (.agg [(.d (.int .i64 (List.getD x1 (Int.toNat s15) (0, 0)).1)), (.d (.int .i64 (List.getD x1 (Int.toNat s15) (0, 0)).2))]), (.d (.bool (decide ((List.getD x1 (Int.toNat s15) (0, 0)).1 > 1099511627776)))), (.ptr 2 0), (.d (.int .i64 (List.getD x1 (Int.toNat s15) (0, 0)).1)), (.d (.bool (decide ((List.getD x1 (Int.toNat s15) (0, 0)).1 < 0)))), (.d (.bool (decide ((List.getD x1 (Int.toNat s15) (0, 0)).1 < 0)))), (.ptr 2 0), (.d (.int .i64 (List.getD x1 (Int.toNat s15) (0, 0)).1)), (.d (.bool (decide ((List.getD x1 (Int.toNat s15) (0, 0)).1 > 1099511627776)))), (.d (.bool (decide ((List.getD x1 (Int.toNat s15) (0, 0)).1 > 1099511627776)))), (.d (.bool (decide ((List.getD x1 (Int.toNat s15) (0, 0)).1 ≤ (List.getD b1 (0 + (Int.toNat (IntKind.wrap .i64 ((((List.length b1) : Nat) : Int) - (1))))) (0, 0)).1)))), (.sr 1 0 (List.length b1) 2 none), (.d (.int .i64 (((List.length b1) : Nat) : Int))), (.d (.bool (decide ((((List.length b1) : Nat) : Int) > 0)))), (.d (.bool (decide ((((List.length b1) : Nat) : Int) > 0)))), (.ptr 2 0), (.d (.int .i64 (List.getD x1 (Int.toNat s15) (0, 0)).1)), (.sr 1 0 (List.length b1) 2 none), (.sr 1 0 (List.length b1) 2 none), (.d (.int .i64 (((List.length b1) : Nat) : Int))), (.d (.int .i64 (IntKind.wrap .i64 ((((List.length b1) : Nat) : Int) - (1))))), (.eptr 1 (0 + (Int.toNat (IntKind.wrap .i64 ((((List.length b1) : Nat) : Int) - (1))))) 2 0), (.eptr 1 (0 + (Int.toNat (IntKind.wrap .i64 ((((List.length b1) : Nat) : Int) - (1))))) 2 0), (.d (.int .i64 (List.getD b1 (0 + (Int.toNat (IntKind.wrap .i64 ((((List.length b1) : Nat) : Int) - (1))))) (0, 0)).1)), (.d (.bool (decide ((List.getD x1 (Int.toNat s15) (0, 0)).1 ≤ (List.getD b1 (0 + (Int.toNat (IntKind.wrap .i64 ((((List.length b1) : Nat) : Int) - (1))))) (0, 0)).1)))), (.d (.bool (decide ((List.getD x1 (Int.toNat s15) (0, 0)).1 ≤ (List.getD b1 (0 + (Int.toNat (IntKind.wrap .i64 ((((List.length b1) : Nat) : Int) - (1))))) (0, 0)).1)))), .top, .top, .top, .top, .top, .top, .top, .top, .top, .top, .top, .top, .top], [(.cells [(.d (.sl (.pair (.int .i64) (.int .i64)) x0))]), (.arr (.pair (.int .i64) (.int .i64)) b1 true), (.cells [(.d (.int .i64 (List.getD x1 (Int.toNat s15) (0, 0)).1)), (.d (.int .i64 (List.getD x1 (Int.toNat s15) (0, 0)).2))]), .dead, .dead, .dead, .dead, .dead, .dead, .dead, .dead, .dead, .dead, .dead, .dead, .dead, .dead, .dead, .dead, .dead, .dead, .dead, .dead, .dead, .dead, .dead, .dead, .dead, .dead, .dead, .dead, .dead, .dead, .dead, .dead, .dead, .dead, .dead, .dead, .dead, .dead, .dead, .dead, .dead, .dead, .dead, .dead, .dead, .dead, .dead, .dead, .dead, .dead, .dead, .dead, .dead, .dead, .dead, .dead, .dead, .dead, .dead, .dead, .dead, .dead, .dead, .dead])
  | 3 => (.ret, [(.ptr 0 0), .top, .top, .top, (.d (.int .i64 (8))), (.sr 1 0 (List.length b1) 2 none), .top, (.ptr 2 0), .top, .top, .top, .top, .top, (.d (.sl (.pair (.int .i64) (.int .i64)) x1)), (.d (.int .i64 s14)), (.d (.int .i64 s15)), (.d (.bool (decide (s15 < s14)))), (.cptr [(.int .i64 (List.getD x1 (Int.toNat s15) (0, 0)).1), (.int .i64 (List.getD x1 (Int.toNat s15) (0, 0)).2)] 0), (.agg [(.d (.int .i64 (List.getD x1 (Int.toNat s15) (0, 0)).1)), (.d (.int .i64 (List.getD x1 (Int.toNat s15) (0, 0)).2))]), (.d (.bool (decide ((List.getD x1 (Int.toNat s15) (0, 0)).1 > 1099511627776)))), (.ptr 2 0), (.d (.int .i64 (List.getD x1 (Int.toNat s15) (0, 0)).1)), (.d (.bool (decide ((List.getD x1 (Int.toNat s15) (0, 0)).1 < 0)))), (.d (.bool (decide ((List.getD x1 (Int.toNat s15) (0, 0)).1 < 0)))), (.ptr 2 0), (.d (.int .i64 (List.getD x1 (Int.toNat s15) (0, 0)).1)), (.d (.bool (decide ((List.getD x1 (Int.toNat s15) (0, 0)).1 > 1099511627776)))), (.d (.bool (decide ((List.getD x1 (Int.toNat s15) (0, 0)).1 > 1099511627776)))), (.d (.bool (decide ((List.getD x1 (Int.toNat s15) (0, 0)).1 ≤ (List.getD b1 (0 + (Int.toNat (IntKind.wrap .i64 ((((List.length b1) : Nat) : Int) - (1))))) (0, 0)).1)))), (.sr 1 0 (List.length b1) 2 none), (.d (.int .i64 (((List.length b1) : Nat) : Int))), (.d (.bool (decide ((((List.length b1) : Nat) : Int) > 0)))), (.d (.bool (decide ((((List.length b1) : Nat) : Int) > 0)))), (.ptr 2 0), (.d (.int .i64 (List.getD x1 (Int.toNat s15) (0, 0)).1)), (.sr 1 0 (List.length b1) 2 none), (.sr 1 0 (List.length b1) 2 none), (.d (.int .i64 (((List.length b1) : Nat) : Int))), (.d (.int .i64 (IntKind.wrap .i64 ((((List.length b1) : Nat) : Int) - (1))))), (.eptr 1 (0 + (Int.toNat (IntKind.wrap .i64 ((((List.length b1) : Nat) : Int) - (1))))) 2 0), (.eptr 1 (0 + (Int.toNat (IntKind.wrap .i64 ((((List.length b1) : Nat) : Int) - (1))))) 2 0), (.d (.int .i64 (List.getD b1 (0 + (Int.toNat (IntKind.wrap .i64 ((((List.length b1) : Nat) : Int) - (1))))) (0, 0)).1)), (.d (.bool (decide ((List.getD x1 (Int.toNat s15) (0, 0)).1 ≤ (List.getD b1 (0 + (Int.toNat (IntKind.wrap .i64 ((((List.length b1) : Nat) : Int) - (1))))) (0, 0)).1)))), (.d (.bool (decide ((List.getD x1 (Int.toNat s15) (0, 0)).1 ≤ (List.getD b1 (0 + (Int.toNat (IntKind.wrap .i64 ((((List.length b1) : Nat) : Int) - (1))))) (0, 0)).1)))), (.d (.bool ((((List.length b1) : Nat) : Int) == (200)))), (.sr 1 0 (List.length b1) 2 none), (.d (.int .i64 (((List.length b1) : Nat) : Int))), (.d (.bool ((((List.length b1) : Nat) : Int) == (200)))), .top, .top, .top, .top, .top, .top, .top, .top, .top], [(.cells [(.d (.sl (.pair (.int .i64) (.int .i64)) x0))]), (.arr (.pair (.int .i64) (.int .i64)) b1 true), (.cells [(.d (.int .i64 (List.getD x1 (Int.toNat s15) (0, 0)).1)), (.d (.int .i64 (List.getD x1 (Int.toNat s15) (0, 0)).2))]), .dead, .dead, .dead, .dead, .dead, .dead, .dead, .dead, .dead, .dead, .dead, .dead, .dead, .dead, .dead, .dead, .dead, .dead, .dead, .dead, .dead, .dead, .dead, .dead, .dead, .dead, .dead, .dead, .dead, .dead, .dead, .dead, .dead, .dead, .dead, .dead, .dead, .dead, .dead, .dead, .dead, .dead, .dead, .dead, .dead, .dead, .dead, .dead, .dead, .dead, .dead, .dead, .dead, .dead, .dead, .dead, .dead, .dead, .dead, .dead, .dead, .dead, .dead, .dead])
  | 4 => (.ret, [(.ptr 0 0), .top, .top, .top, (.d (.int .i64 (8))), (.sr 1 0 (List.length b1) 2 none), .top, (.ptr 2 0), .top, .top, .top, .top, .top, (.d (.sl (.pair (.int .i64) (.int .i64)) x1)), (.d (.int .i64 s14)), (.d (.int .i64 s15)), (.d (.bool (decide (s15 < s14)))), (.cptr [(.int .i64 (List.getD x1 (Int.toNat s15) (0, 0)).1), (.int .i64 (List.getD x1 (Int.toNat s15) (0, 0)).2)] 0), (.agg [(.d (.int .i64 (List.getD x1 (Int.toNat s15) (0, 0)).1)), (.d (.int .i64 (List.getD x1 (Int.toNat s15) (0, 0)).2))]), (.d (.bool (decide ((List.getD x1 (Int.toNat s15) (0, 0)).1 > 1099511627776)))), (.ptr 2 0), (.d (.int .i64 (List.getD x1 (Int.toNat s15) (0, 0)).1)), (.d (.bool (decide ((List.getD x1 (Int.toNat s15) (0, 0)).1 < 0)))), (.d (.bool (decide ((List.getD x1 (Int.toNat s15) (0, 0)).1 < 0)))), (.ptr 2 0), (.d (.int .i64 (List.getD x1 (Int.toNat s15) (0, 0)).1)), (.d (.bool (decide ((List.getD x1 (Int.toNat s15) (0, 0)).1 > 1099511627776)))), (.d (.bool (decide ((List.getD x1 (Int.toNat s15) (0, 0)).1 > 1099511627776)))), (.d (.bool false)), (.sr 1 0 (List.length b1) 2 none), (.d (.int .i64 (((List.length b1) : Nat) : Int))), (.d (.bool (decide ((((List.length b1) : Nat) : Int) > 0)))), (.d (.bool (decide ((((List.length b1) : Nat) : Int) > 0)))), (.tup []), (.tup []), (.tup []), (.tup []), (.tup []), (.tup []), (.tup []), (.tup []), (.tup []), (.tup []), (.d (.bool false)), (.d (.bool ((((List.length b1) : Nat) : Int) == (200)))), (.sr 1 0 (List.length b1) 2 none), (.d (.int .i64 (((List.length b1) : Nat) : Int))), (.d (.bool ((((List.length b1) : Nat) : Int) == (200)))), .top, .top, .top, .top, .top, .top, .top, .top, .top], [(.cells [(.d (.sl (.pair (.int .i64) (.int .i64)) x0))]), (.arr (.pair (.int .i64) (.int .i64)) b1 true), (.cells [(.d (.int .i64 (List.getD x1 (Int.toNat s15) (0, 0)).1)), (.d (.int .i64 (List.getD x1 (Int.toNat s15) (0, 0)).2))]), .dead, .dead, .dead, .dead, .dead, .dead, .dead, .dead, .dead, .dead, .dead, .dead, .dead, .dead, .dead, .dead, .dead, .dead, .dead, .dead, .dead, .dead, .dead, .dead, .dead, .dead, .dead, .dead, .dead, .dead, .dead, .dead, .dead, .dead, .dead, .dead, .dead, .dead, .dead, .dead, .dead, .dead, .dead, .dead, .dead, .dead, .dead, .dead, .dead, .dead, .dead, .dead, .dead, .dead, .dead, .dead, .dead, .dead, .dead, .dead, .dead, .dead, .dead, .dead])
  | _ => (.exit 0, [(.ptr 0 0), .top, .top, .top, .top, (.sr 1 0 (List.length b1) 2 none), .top, .top, .top, .top, .top, .top, .top, (.d (.sl (.pair (.int .i64) (.int .i64)) x1)), (.d (.int .i64 s14)), (.d (.int .i64 s15)), (.d (.bool (decide (s15 < s14)))), .top, .top, .top, .top, .top, .top, .top, .top, .top, .top, .top, .top, .top, .top, .top, .top, .top, .top, .top, .top, .top, .top, .top, .top, .top, .top, .top, .top, .top, .top, .top, .top, .top, .top, .top, .top, .top, .top, .top, .top], [(.cells [(.d (.sl (.pair (.int .i64) (.int .i64)) x0))]), (.arr (.pair (.int .i64) (.int .i64)) b1 true)])
noncomputable def lbl27_0 : AC := loopBody 57377 body27

set_option maxHeartbeats 20000000 in
theorem l27_0_w0 (m n : Nat) (x0 : List (Int × Int)) (x1 : List (Int × Int)) (s14 : Int) (s15 : Int) (b1 : List (Int × Int)) (c0 : decide (s15 < s14) = true) (c1 : decide (0 ≤ s15) = true) (c2 : decide (s15 < (((List.length x1) : Nat) : Int)) = true) (c3 : decide ((List.getD x1 (Int.toNat s15) (0, 0)).1 < 0) = true) : (turns (hds 27 57377) 1 57377 (evC byref (evCall F S5 (m + 24)) (m + 24) 1 (hds 27) lbl27_0) (n + 1) (l27_0H x0 x1 s14 s15 b1) (l27_0B x0 x1 s14 s15 b1)).run = some (.ret, [(.ptr 0 0), .top, .top, .top, (.d (.int .i64 (1))), (.sr 1 0 (List.length b1) 2 none), .top, (.ptr 2 0), .top, .top, .top, .top, .top, (.d (.sl (.pair (.int .i64) (.int .i64)) x1)), (.d (.int .i64 s14)), (.d (.int .i64 s15)), (.d (.bool (decide (s15 < s14)))), (.cptr [(.int .i64 (List.getD x1 (Int.toNat s15) (0, 0)).1), (.int .i64 (List.getD x1 (Int.toNat s15) (0, 0)).2)] 0), (.agg [(.d (.int .i64 (List.getD x1 (Int.toNat s15) (0, 0)).1)), (.d (.int .i64 (List.getD x1 (Int.toNat s15) (0, 0)).2))]), (.d (.bool true)), (.ptr 2 0), (.d (.int .i64 (List.getD x1 (Int.toNat s15) (0, 0)).1)), (.d (.bool (decide ((List.getD x1 (Int.toNat s15) (0, 0)).1 < 0)))), (.d (.bool (decide ((List.getD x1 (Int.toNat s15) (0, 0)).1 < 0)))), (.tup []), (.tup []), (.tup []), (.d (.bool true)), .top, .top, .top, .top, .top, .top, .top, .top, .top, .top, .top, .top, .top, .top, .top, .top, .top, .top, .top, .top, .top, .top, .top, .top, .top, .top, .top, .top, .top], [(.cells [(.d (.sl (.pair (.int .i64) (.int .i64)) x0))]), (.arr (.pair (.int .i64) (.int .i64)) b1 true), (.cells [(.d (.int .i64 (List.getD x1 (Int.toNat s15) (0, 0)).1)), (.d (.int .i64 (List.getD x1 (Int.toNat s15) (0, 0)).2))])]) := by
  exact turns_last (by simp) (M.run_of_path _ [true, true, true, true, true, true, true, true] _ _ (by kernel_rfl) (all_t c0 (all_t c1 (all_t c2 (all_t c3 (all_t c3 (all_t c3 (all_t c3 (all_t rfl all_nil))))))))) 
set_option maxHeartbeats 20000000 in
theorem l27_0_w1 (m n : Nat) (x0 : List (Int × Int)) (x1 : List (Int × Int)) (s14 : Int) (s15 : Int) (b1 : List (Int × Int)) (c0 : decide (s15 < s14) = true) (c1 : decide (0 ≤ s15) = true) (c2 : decide (s15 < (((List.length x1) : Nat) : Int)) = true) (c3 : ¬ decide ((List.getD x1 (Int.toNat s15) (0, 0)).1 < 0) = true) (c7 : decide ((List.getD x1 (Int.toNat s15) (0, 0)).1 > 1099511627776) = true) : (turns (hds 27 57377) 1 57377 (evC byref (evCall F S5 (m + 24)) (m + 24) 1 (hds 27) lbl27_0) (n + 1) (l27_0H x0 x1 s14 s15 b1) (l27_0B x0 x1 s14 s15 b1)).run = some (.ret, [(.ptr 0 0), .top, .top, .top, (.d (.int .i64 (1))), (.sr 1 0 (List.length b1) 2 none), .top, (.ptr 2 0), .top, .top, .top, .top, .top, (.d (.sl (.pair (.int .i64) (.int .i64)) x1)), (.d (.int .i64 s14)), (.d (.int .i64 s15)), (.d (.bool (decide (s15 < s14)))), (.cptr [(.int .i64 (List.getD x1 (Int.toNat s15) (0, 0)).1), (.int .i64 (List.getD x1 (Int.toNat s15) (0, 0)).2)] 0), (.agg [(.d (.int .i64 (List.getD x1 (Int.toNat s15) (0, 0)).1)), (.d (.int .i64 (List.getD x1 (Int.toNat s15) (0, 0)).2))]), (.d (.bool (decide ((List.getD x1 (Int.toNat s15) (0, 0)).1 > 1099511627776)))), (.ptr 2 0), (.d (.int .i64 (List.getD x1 (Int.toNat s15) (0, 0)).1)), (.d (.bool (decide ((List.getD x1 (Int.toNat s15) (0, 0)).1 < 0)))), (.d (.bool (decide ((List.getD x1 (Int.toNat s15) (0, 0)).1 < 0)))), (.ptr 2 0), (.d (.int .i64 (List.getD x1 (Int.toNat s15) (0, 0)).1)), (.d (.bool (decide ((List.getD x1 (Int.toNat s15) (0, 0)).1 > 1099511627776)))), (.d (.bool (decide ((List.getD x1 (Int.toNat s15) (0, 0)).1 > 1099511627776)))), .top, .top, .top, .top, .top, .top, .top, .top, .top, .top, .top, .top, .top, .top, .top, .top, .top, .top, .top, .top, .top, .top, .top, .top, .top, .top, .top, .top, .top], [(.cells [(.d (.sl (.pair (.int .i64) (.int .i64)) x0))]), (.arr (.pair (.int .i64) (.int .i64)) b1 true), (.cells [(.d (.int .i64 (List.getD x1 (Int.toNat s15) (0, 0)).1)), (.d (.int .i64 (List.getD x1 (Int.toNat s15) (0, 0)).2))])]) := by
  exact turns_last (by simp) (M.run_of_path _ [true, true, true, false, false, false, false, true] _ _ (by kernel_rfl) (all_t c0 (all_t c1 (all_t c2 (all_f c3 (all_f c3 (all_f c3 (all_f c3 (all_t c7 all_nil))))))))) 
set_option maxHeartbeats 20000000 in
theorem l27_0_w2 (m n : Nat) (x0 : List (Int × Int)) (x1 : List (Int × Int)) (s14 : Int) (s15 : Int) (b1 : List (Int × Int)) (c0 : decide (s15 < s14) = true) (c1 : decide (0 ≤ s15) = true) (c2 : decide (s15 < (((List.length x1) : Nat) : Int)) = true) (c3 : ¬ decide ((List.getD x1 (Int.toNat s15) (0, 0)).1 < 0) = true) (c7 : ¬ decide ((List.getD x1 (Int.toNat s15) (0, 0)).1 > 1099511627776) = true) (c8 : decide ((((List.length b1) : Nat) : Int) > 0) = true) (c15 : decide (0 ≤ (IntKind.wrap .i64 ((((List.length b1) : Nat) : Int) - (1)))) = true) (c16 : decide ((IntKind.wrap .i64 ((((List.length b1) : Nat) : Int) - (1))) < (((List.length b1) : Nat) : Int)) = true) (c19 : decide ((0 + (Int.toNat (IntKind.wrap .i64 ((((List.length b1) : Nat) : Int) - (1))))) < (List.length b1)) = true) (c22 : decide ((List.getD x1 (Int.toNat s15) (0, 0)).1 ≤ (List.getD b1 (0 + (Int.toNat (IntKind.wrap .i64 ((((List.length b1) : Nat) : Int) - (1))))) (0, 0)).1) = true) : (turns (hds 27 57377) 1 57377 (evC byref (evCall F S5 (m + 24)) (m + 24) 1 (hds 27) lbl27_0) (n + 1) (l27_0H x0 x1 s14 s15 b1) (l27_0B x0 x1 s14 s15 b1)).run = some (.ret, [(.ptr 0 0), .top, .top, .top, (.d (.int .i64 (2))), (.sr 1 0 (List.length b1) 2 none), .top, (.ptr 2 0), .top, .top, .top, .top, .top, (.d (.sl (.pair (.int .i64) (.int .i64)) x1)), (.d (.int .i64 s14)), (.d (.int .i64 s15)), (.d (.bool (decide (s15 < s14)))), (.cptr [(.int .i64 (List.getD x1 (Int.toNat s15) (0, 0)).1), (.int .i64 (List.getD x1 (Int.toNat s15) (0, 0)).2)] 0), (.agg [(.d (.int .i64 (List.getD x1 (Int.toNat s15) (0, 0)).1)), (.d (.int .i64 (List.getD x1 (Int.toNat s15) (0, 0)).2))]), (.d (.bool (decide ((List.getD x1 (Int.toNat s15) (0, 0)).1 > 1099511627776)))), (.ptr 2 0), (.d (.int .i64 (List.getD x1 (Int.toNat s15) (0, 0)).1)), (.d (.bool (decide ((List.getD x1 (Int.toNat s15) (0, 0)).1 < 0)))), (.d (.bool (decide ((List.getD x1 (Int.toNat s15) (0, 0)).1 < 0)))), (.ptr 2 0), (.d (.int .i64 (List.getD x1 (Int.toNat s15) (0, 0)).1)), (.d (.bool (decide ((List.getD x1 (Int.toNat s15) (0, 0)).1 > 1099511627776)))), (.d (.bool (decide ((List.getD x1 (Int.toNat s15) (0, 0)).1 > 1099511627776)))), (.d (.bool (decide ((List.getD x1 (Int.toNat s15) (0, 0)).1 ≤ (List.getD b1 (0 + (Int.toNat (IntKind.wrap .i64 ((((List.length b1) : Nat) : Int) - (1))))) (0, 0)).1)))), (.sr 1 0 (List.length b1) 2 none), (.d (.int .i64 (((List.length b1) : Nat) : Int))), (.d (.bool (decide ((((List.length b1) : Nat) : Int) > 0)))), (.d (.bool (decide ((((List.length b1) : Nat) : Int) > 0)))), (.ptr 2 0), (.d (.int .i64 (List.getD x1 (Int.toNat s15) (0, 0)).1)), (.sr 1 0 (List.length b1) 2 none), (.sr 1 0 (List.length b1) 2 none), (.d (.int .i64 (((List.length b1) : Nat) : Int))), (.d (.int .i64 (IntKind.wrap .i64 ((((List.length b1) : Nat) : Int) - (1))))), (.eptr 1 (0 + (Int.toNat (IntKind.wrap .i64 ((((List.length b1) : Nat) : Int) - (1))))) 2 0), (.eptr 1 (0 + (Int.toNat (IntKind.wrap .i64 ((((List.length b1) : Nat) : Int) - (1))))) 2 0), (.d (.int .i64 (List.getD b1 (0 + (Int.toNat (IntKind.wrap .i64 ((((List.length b1) : Nat) : Int) - (1))))) (0, 0)).1)), (.d (.bool (decide ((List.getD x1 (Int.toNat s15) (0, 0)).1 ≤ (List.getD b1 (0 + (Int.toNat (IntKind.wrap .i64 ((((List.length b1) : Nat) : Int) - (1))))) (0, 0)).1)))), (.d (.bool (decide ((List.getD x1 (Int.toNat s15) (0, 0)).1 ≤ (List.getD b1 (0 + (Int.toNat (IntKind.wrap .i64 ((((List.length b1) : Nat) : Int) - (1))))) (0, 0)).1)))), .top, .top, .top, .top, .top, .top, .top, .top, .top, .top, .top, .top, .top], [(.cells [(.d (.sl (.pair (.int .i64) (.int .i64)) x0))]), (.arr (.pair (.int .i64) (.int .i64)) b1 true), (.cells [(.d (.int .i64 (List.getD x1 (Int.toNat s15) (0, 0)).1)), (.d (.int .i64 (List.getD x1 (Int.toNat s15) (0, 0)).2))]), .dead, .dead, .dead, .dead, .dead, .dead, .dead, .dead, .dead, .dead, .dead, .dead, .dead, .dead, .dead, .dead, .dead, .dead, .dead, .dead, .dead, .dead, .dead, .dead, .dead, .dead, .dead, .dead, .dead, .dead, .dead, .dead, .dead, .dead, .dead, .dead, .dead, .dead, .dead, .dead, .dead, .dead, .dead, .dead, .dead, .dead, .dead, .dead, .dead, .dead, .dead, .dead, .dead, .dead, .dead, .dead, .dead, .dead, .dead, .dead, .dead, .dead, .dead, .dead]) := by
  exact turns_last (by simp) (M.run_of_path _ [true, true, true, false, false, false, false, false, true, true, true, true, true, true, true, true, true, true, true, true, true, true, true] _ _ (by kernel_rfl) (all_t c0 (all_t c1 (all_t c2 (all_f c3 (all_f c3 (all_f c3 (all_f c3 (all_f c7 (all_t c8 (all_t c8 (all_t c8 (all_t c8 (all_t c8 (all_t c8 (all_t c8 (all_t c15 (all_t c16 (all_t c8 (all_t c8 (all_t c19 (all_t c8 (all_t c8 (all_t c22 all_nil)))))))))))))))))))))))) 
set_option maxHeartbeats 20000000 in
theorem l27_0_w3 (m n : Nat) (x0 : List (Int × Int)) (x1 : List (Int × Int)) (s14 : Int) (s15 : Int) (b1 : List (Int × Int)) (c0 : decide (s15 < s14) = true) (c1 : decide (0 ≤ s15) = true) (c2 : decide (s15 < (((List.length x1) : Nat) : Int)) = true) (c3 : ¬ decide ((List.getD x1 (Int.toNat s15) (0, 0)).1 < 0) = true) (c7 : ¬ decide ((List.getD x1 (Int.toNat s15) (0, 0)).1 > 1099511627776) = true) (c8 : decide ((((List.length b1) : Nat) : Int) > 0) = true) (c15 : decide (0 ≤ (IntKind.wrap .i64 ((((List.length b1) : Nat) : Int) - (1)))) = true) (c16 : decide ((IntKind.wrap .i64 ((((List.length b1) : Nat) : Int) - (1))) < (((List.length b1) : Nat) : Int)) = true) (c19 : decide ((0 + (Int.toNat (IntKind.wrap .i64 ((((List.length b1) : Nat) : Int) - (1))))) < (List.length b1)) = true) (c22 : ¬ decide ((List.getD x1 (Int.toNat s15) (0, 0)).1 ≤ (List.getD b1 (0 + (Int.toNat (IntKind.wrap .i64 ((((List.length b1) : Nat) : Int) - (1))))) (0, 0)).1) = true) (c23 : ((((List.length b1) : Nat) : Int) == (200)) = true) : (turns (hds 27 57377) 1 57377 (evC byref (evCall F S5 (m + 24)) (m + 24) 1 (hds 27) lbl27_0) (n + 1) (l27_0H x0 x1 s14 s15 b1) (l27_0B x0 x1 s14 s15 b1)).run = some (.ret, [(.ptr 0 0), .top, .top, .top, (.d (.int .i64 (8))), (.sr 1 0 (List.length b1) 2 none), .top, (.ptr 2 0), .top, .top, .top, .top, .top, (.d (.sl (.pair (.int .i64) (.int .i64)) x1)), (.d (.int .i64 s14)), (.d (.int .i64 s15)), (.d (.bool (decide (s15 < s14)))), (.cptr [(.int .i64 (List.getD x1 (Int.toNat s15) (0, 0)).1), (.int .i64 (List.getD x1 (Int.toNat s15) (0, 0)).2)] 0), (.agg [(.d (.int .i64 (List.getD x1 (Int.toNat s15) (0, 0)).1)), (.d (.int .i64 (List.getD x1 (Int.toNat s15) (0, 0)).2))]), (.d (.bool (decide ((List.getD x1 (Int.toNat s15) (0, 0)).1 > 1099511627776)))), (.ptr 2 0), (.d (.int .i64 (List.getD x1 (Int.toNat s15) (0, 0)).1)), (.d (.bool (decide ((List.getD x1 (Int.toNat s15) (0, 0)).1 < 0)))), (.d (.bool (decide ((List.getD x1 (Int.toNat s15) (0, 0)).1 < 0)))), (.ptr 2 0), (.d (.int .i64 (List.getD x1 (Int.toNat s15) (0, 0)).1)), (.d (.bool (decide ((List.getD x1 (Int.toNat s15) (0, 0)).1 > 1099511627776)))), (.d (.bool (decide ((List.getD x1 (Int.toNat s15) (0, 0)).1 > 1099511627776)))), (.d (.bool (decide ((List.getD x1 (Int.toNat s15) (0, 0)).1 ≤ (List.getD b1 (0 + (Int.toNat (IntKind.wrap .i64 ((((List.length b1) : Nat) : Int) - (1))))) (0, 0)).1)))), (.sr 1 0 (List.length b1) 2 none), (.d (.int .i64 (((List.length b1) : Nat) : Int))), (.d (.bool (decide ((((List.length b1) : Nat) : Int) > 0)))), (.d (.bool (decide ((((List.length b1) : Nat) : Int) > 0)))), (.ptr 2 0), (.d (.int .i64 (List.getD x1 (Int.toNat s15) (0, 0)).1)), (.sr 1 0 (List.length b1) 2 none), (.sr 1 0 (List.length b1) 2 none), (.d (.int .i64 (((List.length b1) : Nat) : Int))), (.d (.int .i64 (IntKind.wrap .i64 ((((List.length b1) : Nat) : Int) - (1))))), (.eptr 1 (0 + (Int.toNat (IntKind.wrap .i64 ((((List.length b1) : Nat) : Int) - (1))))) 2 0), (.eptr 1 (0 + (Int.toNat (IntKind.wrap .i64 ((((List.length b1) : Nat) : Int) - (1))))) 2 0), (.d (.int .i64 (List.getD b1 (0 + (Int.toNat (IntKind.wrap .i64 ((((List.length b1) : Nat) : Int) - (1))))) (0, 0)).1)), (.d (.bool (decide ((List.getD x1 (Int.toNat s15) (0, 0)).1 ≤ (List.getD b1 (0 + (Int.toNat (IntKind.wrap .i64 ((((List.length b1) : Nat) : Int) - (1))))) (0, 0)).1)))), (.d (.bool (decide ((List.getD x1 (Int.toNat s15) (0, 0)).1 ≤ (List.getD b1 (0 + (Int.toNat (IntKind.wrap .i64 ((((List.length b1) : Nat) : Int) - (1))))) (0, 0)).1)))), (.d (.bool ((((List.length b1) : Nat) : Int) == (200)))), (.sr 1 0 (List.length b1) 2 none), (.d (.int .i64 (((List.length b1) : Nat) : Int))), (.d (.bool ((((List.length b1) : Nat) : Int) == (200)))), .top, .top, .top, .top, .top, .top, .top, .top, .top], [(.cells [(.d (.sl (.pair (.int .i64) (.int .i64)) x0))]), (.arr (.pair (.int .i64) (.int .i64)) b1 true), (.cells [(.d (.int .i64 (List.getD x1 (Int.toNat s15) (0, 0)).1)), (.d (.int .i64 (List.getD x1 (Int.toNat s15) (0, 0)).2))]), .dead, .dead, .dead, .dead, .dead, .dead, .dead, .dead, .dead, .dead, .dead, .dead, .dead, .dead, .dead, .dead, .dead, .dead, .dead, .dead, .dead, .dead, .dead, .dead, .dead, .dead, .dead, .dead, .dead, .dead, .dead, .dead, .dead, .dead, .dead, .dead, .dead, .dead, .dead, .dead, .dead, .dead, .dead, .dead, .dead, .dead, .dead, .dead, .dead, .dead, .dead, .dead, .dead, .dead, .dead, .dead, .dead, .dead, .dead, .dead, .dead, .dead, .dead, .dead]) := by
  exact turns_last (by simp) (M.run_of_path _ [true, true, true, false, false, false, false, false, true, true, true, true, true, true, true, true, true, true, true, true, true, true, false, true] _ _ (by kernel_rfl) (all_t c0 (all_t c1 (all_t c2 (all_f c3 (all_f c3 (all_f c3 (all_f c3 (all_f c7 (all_t c8 (all_t c8 (all_t c8 (all_t c8 (all_t c8 (all_t c8 (all_t c8 (all_t c15 (all_t c16 (all_t c8 (all_t c8 (all_t c19 (all_t c8 (all_t c8 (all_f c22 (all_t c23 all_nil))))))))))))))))))))))))) 
set_option maxHeartbeats 20000000 in
theorem l27_0_w4 (m n : Nat) (x0 : List (Int × Int)) (x1 : List (Int × Int)) (s14 : Int) (s15 : Int) (b1 : List (Int × Int)) (r : AEx × Env × Boxes) (c0 : decide (s15 < s14) = true) (c1 : decide (0 ≤ s15) = true) (c2 : decide (s15 < (((List.length x1) : Nat) : Int)) = true) (c3 : ¬ decide ((List.getD x1 (Int.toNat s15) (0, 0)).1 < 0) = true) (c7 : ¬ decide ((List.getD x1 (Int.toNat s15) (0, 0)).1 > 1099511627776) = true) (c8 : decide ((((List.length b1) : Nat) : Int) > 0) = true) (c15 : decide (0 ≤ (IntKind.wrap .i64 ((((List.length b1) : Nat) : Int) - (1)))) = true) (c16 : decide ((IntKind.wrap .i64 ((((List.length b1) : Nat) : Int) - (1))) < (((List.length b1) : Nat) : Int)) = true) (c19 : decide ((0 + (Int.toNat (IntKind.wrap .i64 ((((List.length b1) : Nat) : Int) - (1))))) < (List.length b1)) = true) (c22 : ¬ decide ((List.getD x1 (Int.toNat s15) (0, 0)).1 ≤ (List.getD b1 (0 + (Int.toNat (IntKind.wrap .i64 ((((List.length b1) : Nat) : Int) - (1))))) (0, 0)).1) = true) (c23 : ¬ ((((List.length b1) : Nat) : Int) == (200)) = true) (c25 : decide ((((List.length b1) + 1) * 16) ≤ 70368744177664) = true) (ih : (turns (hds 27 57377) 1 57377 (evC byref (evCall F S5 (m + 24)) (m + 24) 1 (hds 27) lbl27_0) n (l27_0H x0 x1 s14 ((IntKind.wrap .i64 (s15 + (1)))) ((b1 ++ [(List.getD x1 (Int.toNat s15) (0, 0))]))) (l27_0B x0 x1 s14 ((IntKind.wrap .i64 (s15 + (1)))) ((b1 ++ [(List.getD x1 (Int.toNat s15) (0, 0))])))).run = some r) : (turns (hds 27 57377) 1 57377 (evC byref (evCall F S5 (m + 24)) (m + 24) 1 (hds 27) lbl27_0) (n + 1) (l27_0H x0 x1 s14 s15 b1) (l27_0B x0 x1 s14 s15 b1)).run = some r := by
  have ht : (turn (hds 27 57377) 1 57377 (evC byref (evCall F S5 (m + 24)) (m + 24) 1 (hds 27) lbl27_0) (l27_0H x0 x1 s14 s15 b1) (l27_0B x0 x1 s14 s15 b1)).run = some (.normal, [(.ptr 0 0), .top, .top, .top, .top, (.sr 1 0 ((List.length b1) + 1) 2 none), .top, .top, .top, .top, .top, .top, .top, (.d (.sl (.pair (.int .i64) (.int .i64)) x1)), (.d (.int .i64 s14)), (.d (.int .i64 (IntKind.wrap .i64 (s15 + (1))))), .top, .top, .top, .top, .top, .top, .top, .top, .top, .top, .top, .top, .top, .top, .top, .top, .top, .top, .top, .top, .top, .top, .top, .top, .top, .top, .top, .top, .top, .top, .top, .top, .top, .top, .top, .top, .top, .top, .top, .top, .top], [(.cells [(.d (.sl (.pair (.int .i64) (.int .i64)) x0))]), (.arr (.pair (.int .i64) (.int .i64)) (b1 ++ [(List.getD x1 (Int.toNat s15) (0, 0))]) true)]) := M.run_of_path _ [true, true, true, false, false, false, false, false, true, true, true, true, true, true, true, true, true, true, true, true, true, true, false, false, true, true, true] _ _ (by kernel_rfl) (all_t c0 (all_t c1 (all_t c2 (all_f c3 (all_f c3 (all_f c3 (all_f c3 (all_f c7 (all_t c8 (all_t c8 (all_t c8 (all_t c8 (all_t c8 (all_t c8 (all_t c8 (all_t c15 (all_t c16 (all_t c8 (all_t c8 (all_t c19 (all_t c8 (all_t c8 (all_f c22 (all_f c23 (all_t rfl (all_t c25 (all_t (show decide ((List.length b1) = (List.length b1)) = true from decide_eq_true rfl) all_nil)))))))))))))))))))))))))))
  refine turns_step ht (turns_eq ?_ ?_ ih)
  · unfold l27_0H
    simp
  · unfold l27_0B
    simp
set_option maxHeartbeats 20000000 in
theorem l27_0_w5 (m n : Nat) (x0 : List (Int × Int)) (x1 : List (Int × Int)) (s14 : Int) (s15 : Int) (b1 : List (Int × Int)) (c0 : decide (s15 < s14) = true) (c1 : decide (0 ≤ s15) = true) (c2 : decide (s15 < (((List.length x1) : Nat) : Int)) = true) (c3 : ¬ decide ((List.getD x1 (Int.toNat s15) (0, 0)).1 < 0) = true) (c7 : ¬ decide ((List.getD x1 (Int.toNat s15) (0, 0)).1 > 1099511627776) = true) (c8 : ¬ decide ((((List.length b1) : Nat) : Int) > 0) = true) (c20 : ((((List.length b1) : Nat) : Int) == (200)) = true) : (turns (hds 27 57377) 1 57377 (evC byref (evCall F S5 (m + 24)) (m + 24) 1 (hds 27) lbl27_0) (n + 1) (l27_0H x0 x1 s14 s15 b1) (l27_0B x0 x1 s14 s15 b1)).run = some (.ret, [(.ptr 0 0), .top, .top, .top, (.d (.int .i64 (8))), (.sr 1 0 (List.length b1) 2 none), .top, (.ptr 2 0), .top, .top, .top, .top, .top, (.d (.sl (.pair (.int .i64) (.int .i64)) x1)), (.d (.int .i64 s14)), (.d (.int .i64 s15)), (.d (.bool (decide (s15 < s14)))), (.cptr [(.int .i64 (List.getD x1 (Int.toNat s15) (0, 0)).1), (.int .i64 (List.getD x1 (Int.toNat s15) (0, 0)).2)] 0), (.agg [(.d (.int .i64 (List.getD x1 (Int.toNat s15) (0, 0)).1)), (.d (.int .i64 (List.getD x1 (Int.toNat s15) (0, 0)).2))]), (.d (.bool (decide ((List.getD x1 (Int.toNat s15) (0, 0)).1 > 1099511627776)))), (.ptr 2 0), (.d (.int .i64 (List.getD x1 (Int.toNat s15) (0, 0)).1)), (.d (.bool (decide ((List.getD x1 (Int.toNat s15) (0, 0)).1 < 0)))), (.d (.bool (decide ((List.getD x1 (Int.toNat s15) (0, 0)).1 < 0)))), (.ptr 2 0), (.d (.int .i64 (List.getD x1 (Int.toNat s15) (0, 0)).1)), (.d (.bool (decide ((List.getD x1 (Int.toNat s15) (0, 0)).1 > 1099511627776)))), (.d (.bool (decide ((List.getD x1 (Int.toNat s15) (0, 0)).1 > 1099511627776)))), (.d (.bool false)), (.sr 1 0 (List.length b1) 2 none), (.d (.int .i64 (((List.length b1) : Nat) : Int))), (.d (.bool (decide ((((List.length b1) : Nat) : Int) > 0)))), (.d (.bool (decide ((((List.length b1) : Nat) : Int) > 0)))), (.tup []), (.tup []), (.tup []), (.tup []), (.tup []), (.tup []), (.tup []), (.tup []), (.tup []), (.tup []), (.d (.bool false)), (.d (.bool ((((List.length b1) : Nat) : Int) == (200)))), (.sr 1 0 (List.length b1) 2 none), (.d (.int .i64 (((List.length b1) : Nat) : Int))), (.d (.bool ((((List.length b1) : Nat) : Int) == (200)))), .top, .top, .top, .top, .top, .top, .top, .top, .top], [(.cells [(.d (.sl (.pair (.int .i64) (.int .i64)) x0))]), (.arr (.pair (.int .i64) (.int .i64)) b1 true), (.cells [(.d (.int .i64 (List.getD x1 (Int.toNat s15) (0, 0)).1)), (.d (.int .i64 (List.getD x1 (Int.toNat s15) (0, 0)).2))]), .dead, .dead, .dead, .dead, .dead, .dead, .dead, .dead, .dead, .dead, .dead, .dead, .dead, .dead, .dead, .dead, .dead, .dead, .dead, .dead, .dead, .dead, .dead, .dead, .dead, .dead, .dead, .dead, .dead, .dead, .dead, .dead, .dead, .dead, .dead, .dead, .dead, .dead, .dead, .dead, .dead, .dead, .dead, .dead, .dead, .dead, .dead, .dead, .dead, .dead, .dead, .dead, .dead, .dead, .dead, .dead, .dead, .dead, .dead, .dead, .dead, .dead, .dead, .dead]) := by
  exact turns_last (by simp) (M.run_of_path _ [true, true, true, false, false, false, false, false, false, false, false, false, false, false, false, false, false, false, false, false, true] _ _ (by kernel_rfl) (all_t c0 (all_t c1 (all_t c2 (all_f c3 (all_f c3 (all_f c3 (all_f c3 (all_f c7 (all_f c8 (all_f c8 (all_f c8 (all_f c8 (all_f c8 (all_f c8 (all_f c8 (all_f c8 (all_f c8 (all_f c8 (all_f c8 (all_f Bool.false_ne_true (all_t c20 all_nil)))))))))))))))))))))) 
set_option maxHeartbeats 20000000 in
theorem l27_0_w6 (m n : Nat) (x0 : List (Int × Int)) (x1 : List (Int × Int)) (s14 : Int) (s15 : Int) (b1 : List (Int × Int)) (r : AEx × Env × Boxes) (c0 : decide (s15 < s14) = true) (c1 : decide (0 ≤ s15) = true) (c2 : decide (s15 < (((List.length x1) : Nat) : Int)) = true) (c3 : ¬ decide ((List.getD x1 (Int.toNat s15) (0, 0)).1 < 0) = true) (c7 : ¬ decide ((List.getD x1 (Int.toNat s15) (0, 0)).1 > 1099511627776) = true) (c8 : ¬ decide ((((List.length b1) : Nat) : Int) > 0) = true) (c20 : ¬ ((((List.length b1) : Nat) : Int) == (200)) = true) (c22 : decide ((((List.length b1) + 1) * 16) ≤ 70368744177664) = true) (ih : (turns (hds 27 57377) 1 57377 (evC byref (evCall F S5 (m + 24)) (m + 24) 1 (hds 27) lbl27_0) n (l27_0H x0 x1 s14 ((IntKind.wrap .i64 (s15 + (1)))) ((b1 ++ [(List.getD x1 (Int.toNat s15) (0, 0))]))) (l27_0B x0 x1 s14 ((IntKind.wrap .i64 (s15 + (1)))) ((b1 ++ [(List.getD x1 (Int.toNat s15) (0, 0))])))).run = some r) : (turns (hds 27 57377) 1 57377 (evC byref (evCall F S5 (m + 24)) (m + 24) 1 (hds 27) lbl27_0) (n + 1) (l27_0H x0 x1 s14 s15 b1) (l27_0B x0 x1 s14 s15 b1)).run = some r := by
  have ht : (turn (hds 27 57377) 1 57377 (evC byref (evCall F S5 (m + 24)) (m + 24) 1 (hds 27) lbl27_0) (l27_0H x0 x1 s14 s15 b1) (l27_0B x0 x1 s14 s15 b1)).run = some (.normal, [(.ptr 0 0), .top, .top, .top, .top, (.sr 1 0 ((List.length b1) + 1) 2 none), .top, .top, .top, .top, .top, .top, .top, (.d (.sl (.pair (.int .i64) (.int .i64)) x1)), (.d (.int .i64 s14)), (.d (.int .i64 (IntKind.wrap .i64 (s15 + (1))))), .top, .top, .top, .top, .top, .top, .top, .top, .top, .top, .top, .top, .top, .top, .top, .top, .top, .top, .top, .top, .top, .top, .top, .top, .top, .top, .top, .top, .top, .top, .top, .top, .top, .top, .top, .top, .top, .top, .top, .top, .top], [(.cells [(.d (.sl (.pair (.int .i64) (.int .i64)) x0))]), (.arr (.pair (.int .i64) (.int .i64)) (b1 ++ [(List.getD x1 (Int.toNat s15) (0, 0))]) true)]) := M.run_of_path _ [true, true, true, false, false, false, false, false, false, false, false, false, false, false, false, false, false, false, false, false, false, true, true, true] _ _ (by kernel_rfl) (all_t c0 (all_t c1 (all_t c2 (all_f c3 (all_f c3 (all_f c3 (all_f c3 (all_f c7 (all_f c8 (all_f c8 (all_f c8 (all_f c8 (all_f c8 (all_f c8 (all_f c8 (all_f c8 (all_f c8 (all_f c8 (all_f c8 (all_f Bool.false_ne_true (all_f c20 (all_t rfl (all_t c22 (all_t (show decide ((List.length b1) = (List.length b1)) = true from decide_eq_true rfl) all_nil))))))))))))))))))))))))
  refine turns_step ht (turns_eq ?_ ?_ ih)
  · unfold l27_0H
    simp
  · unfold l27_0B
    simp
set_option maxHeartbeats 20000000 in
theorem l27_0_w7 (m n : Nat) (x0 : List (Int × Int)) (x1 : List (Int × Int)) (s14 : Int) (s15 : Int) (b1 : List (Int × Int)) (c0 : ¬ decide (s15 < s14) = true) : (turns (hds 27 57377) 1 57377 (evC byref (evCall F S5 (m + 24)) (m + 24) 1 (hds 27) lbl27_0) (n + 1) (l27_0H x0 x1 s14 s15 b1) (l27_0B x0 x1 s14 s15 b1)).run = some (.exit 0, [(.ptr 0 0), .top, .top, .top, .top, (.sr 1 0 (List.length b1) 2 none), .top, .top, .top, .top, .top, .top, .top, (.d (.sl (.pair (.int .i64) (.int .i64)) x1)), (.d (.int .i64 s14)), (.d (.int .i64 s15)), (.d (.bool (decide (s15 < s14)))), .top, .top, .top, .top, .top, .top, .top, .top, .top, .top, .top, .top, .top, .top, .top, .top, .top, .top, .top, .top, .top, .top, .top, .top, .top, .top, .top, .top, .top, .top, .top, .top, .top, .top, .top, .top, .top, .top, .top, .top], [(.cells [(.d (.sl (.pair (.int .i64) (.int .i64)) x0))]), (.arr (.pair (.int .i64) (.int .i64)) b1 true)]) := by
  exact turns_last (by simp) (M.run_of_path _ [false] _ _ (by kernel_rfl) (all_f c0 all_nil)) 

set_option maxHeartbeats 20000000 in
theorem l27_0_step (m n : Nat) (ih : ∀ (x0 : List (Int × Int)) (x1 : List (Int × Int)) (s14 : Int) (s15 : Int) (b1 : List (Int × Int)) (q : Nat × Int × (List (Int × Int))), l27_0 m n x0 x1 s14 s15 b1 = some q → (turns (hds 27 57377) 1 57377 (evC byref (evCall F S5 (m + 24)) (m + 24) 1 (hds 27) lbl27_0) n (l27_0H x0 x1 s14 s15 b1) (l27_0B x0 x1 s14 s15 b1)).run = some (l27_0E (x0) (x1) (s14) (q.2.1) (q.2.2) q.1)) (x0 : List (Int × Int)) (x1 : List (Int × Int)) (s14 : Int) (s15 : Int) (b1 : List (Int × Int)) (q : Nat × Int × (List (Int × Int))) (h : l27_0 m (n + 1) x0 x1 s14 s15 b1 = some q) : (turns (hds 27 57377) 1 57377 (evC byref (evCall F S5 (m + 24)) (m + 24) 1 (hds 27) lbl27_0) (n + 1) (l27_0H x0 x1 s14 s15 b1) (l27_0B x0 x1 s14 s15 b1)).run = some (l27_0E (x0) (x1) (s14) (q.2.1) (q.2.2) q.1) := by
  rw [l27_0] at h
  refine ite_cases h (fun c0 h => ?_) (fun c0 h => ?_)
  · skip
    refine ite_cases h (fun c1 h => ?_) (fun c1 h => ?_)
    · skip
      refine ite_cases h (fun c2 h => ?_) (fun c2 h => ?_)
      · skip
        refine ite_cases h (fun c3 h => ?_) (fun c3 h => ?_)
        · skip
          cases h
          exact l27_0_w0 m n x0 x1 s14 s15 b1 c0 c1 c2 c3
        · skip
          refine ite_cases h (fun c7 h => ?_) (fun c7 h => ?_)
          · skip
            cases h
            exact l27_0_w1 m n x0 x1 s14 s15 b1 c0 c1 c2 c3 c7
          · skip
            refine ite_cases h (fun c8 h => ?_) (fun c8 h => ?_)
            · skip
              refine ite_cases h (fun c15 h => ?_) (fun c15 h => ?_)
              · skip
                refine ite_cases h (fun c16 h => ?_) (fun c16 h => ?_)
                · skip
                  refine ite_cases h (fun c19 h => ?_) (fun c19 h => ?_)
                  · skip
                    refine ite_cases h (fun c22 h => ?_) (fun c22 h => ?_)
                    · skip
                      cases h
                      exact l27_0_w2 m n x0 x1 s14 s15 b1 c0 c1 c2 c3 c7 c8 c15 c16 c19 c22
                    · skip
                      refine ite_cases h (fun c23 h => ?_) (fun c23 h => ?_)
                      · skip
                        cases h
                        exact l27_0_w3 m n x0 x1 s14 s15 b1 c0 c1 c2 c3 c7 c8 c15 c16 c19 c22 c23
                      · skip
                        refine ite_cases h (fun c25 h => ?_) (fun c25 h => ?_)
                        · skip
                          exact l27_0_w4 m n x0 x1 s14 s15 b1 _ c0 c1 c2 c3 c7 c8 c15 c16 c19 c22 c23 c25 (ih _ _ _ _ _ q h)
                        · skip
                          cases h
                  · skip
                    cases h
                · skip
                  cases h
              · skip
                cases h
            · skip
              refine ite_cases h (fun c20 h => ?_) (fun c20 h => ?_)
              · skip
                cases h
                exact l27_0_w5 m n x0 x1 s14 s15 b1 c0 c1 c2 c3 c7 c8 c20
              · skip
                refine ite_cases h (fun c22 h => ?_) (fun c22 h => ?_)
                · skip
                  exact l27_0_w6 m n x0 x1 s14 s15 b1 _ c0 c1 c2 c3 c7 c8 c20 c22 (ih _ _ _ _ _ q h)
                · skip
                  cases h
      · skip
        cases h
    · skip
      cases h
  · skip
    cases h
    exact l27_0_w7 m n x0 x1 s14 s15 b1 c0
set_option maxHeartbeats 20000000 in
theorem l27_0_ok (m : Nat) : ∀ (n : Nat) (x0 : List (Int × Int)) (x1 : List (Int × Int)) (s14 : Int) (s15 : Int) (b1 : List (Int × Int)) (q : Nat × Int × (List (Int × Int))), l27_0 m n x0 x1 s14 s15 b1 = some q → (turns (hds 27 57377) 1 57377 (evC byref (evCall F S5 (m + 24)) (m + 24) 1 (hds 27) lbl27_0) n (l27_0H x0 x1 s14 s15 b1) (l27_0B x0 x1 s14 s15 b1)).run = some (l27_0E (x0) (x1) (s14) (q.2.1) (q.2.2) q.1)
  | 0, x0, x1, s14, s15, b1, q, h => by cases h
  | n + 1, x0, x1, s14, s15, b1, q, h => l27_0_step m n (l27_0_ok m n) x0 x1 s14 s15 b1 q h

def p27 (m : Nat) (x0 : List (Int × Int)) (x1 : List (Int × Int)) : Option (Int × (List (Int × Int))) :=
  if decide (((List.length x0) * 16) ≤ 70368744177664) = true then
    if (Option.isSome (l27_0 m (m + 24) x0 x1 ((((List.length x1) : Nat) : Int)) 0 x0)) = true then
      if ((l27_0R m (m + 24) x0 x1 ((((List.length x1) : Nat) : Int)) 0 x0).1 == 0) = true then
        some ((1), x0)
      else
        if ((l27_0R m (m + 24) x0 x1 ((((List.length x1) : Nat) : Int)) 0 x0).1 == 1) = true then
          some ((1), x0)
        else
          if ((l27_0R m (m + 24) x0 x1 ((((List.length x1) : Nat) : Int)) 0 x0).1 == 2) = true then
            some ((2), x0)
          else
            if ((l27_0R m (m + 24) x0 x1 ((((List.length x1) : Nat) : Int)) 0 x0).1 == 3) = true then
              some ((8), x0)
            else
              if ((l27_0R m (m + 24) x0 x1 ((((List.length x1) : Nat) : Int)) 0 x0).1 == 4) = true then
                some ((8), x0)
              else
                if ((l27_0R m (m + 24) x0 x1 ((((List.length x1) : Nat) : Int)) 0 x0).1 == 5) = true then
                  some ((0), (l27_0R m (m + 24) x0 x1 ((((List.length x1) : Nat) : Int)) 0 x0).2.2)
                else
                  none
    else
      none
  else
    none
set_option maxHeartbeats 20000000 in
theorem p27_ok (m : Nat) (x0 : List (Int × Int)) (x1 : List (Int × Int)) (q : Int × (List (Int × Int))) (h : p27 m x0 x1 = some q) : ∃ r B1, (evCall F S5 (m + 25) 27 [(.ptr 0 0), (.d (.sl (.pair (.int .i64) (.int .i64)) x1))] [(.cells [(.d (.sl (.pair (.int .i64) (.int .i64)) x0))])]).run = some (r, B1) ∧ 1 ≤ B1.length ∧ wkR B1 [(.cells [(.d (.sl (.pair (.int .i64) (.int .i64)) q.2))])] r (.d (.int .i64 q.1)) ∧ wkBs B1 [(.cells [(.d (.sl (.pair (.int .i64) (.int .i64)) q.2))])] 0 [(.cells [(.d (.sl (.pair (.int .i64) (.int .i64)) q.2))])] := by
  unfold p27 at h
  refine ite_cases h (fun c0 h => ?_) (fun c0 h => ?_)
  · skip
    refine ite_cases h (fun c1 h => ?_) (fun c1 h => ?_)
    · skip
      refine ite_cases h (fun c2 h => ?_) (fun c2 h => ?_)
      · skip
        cases h
        refine ⟨(.d (.int .i64 (1))), [(.cells [(.d (.sl (.pair (.int .i64) (.int .i64)) x0))])], runT_ok (LS := (fun k => if k = 57377 then some (l27_0E x0 x1 (((((List.length x1) : Nat) : Int))) ((l27_0R m (m + 24) x0 x1 ((((List.length x1) : Nat) : Int)) 0 x0).2.1) ((l27_0R m (m + 24) x0 x1 ((((List.length x1) : Nat) : Int)) 0 x0).2.2) 0) else none)) (fn := fn27) (vis := [(57377, l27_0H x0 x1 ((((List.length x1) : Nat) : Int)) 0 x0, l27_0B x0 x1 ((((List.length x1) : Nat) : Int)) 0 x0)]) (by kernel_rfl) rfl (by kernel_rfl) (M.run_of_path _ [true] _ _ (by kernel_rfl) (all_t c0 all_nil)) ?_, by simp, (wkR.one (wkV.one (wk1.eq rfl))), ⟨wkBox.cells (wkL.cons (wk1.eq rfl) wkL.nil), trivial⟩⟩
        intro p hp p2 hq
        rcases List.mem_cons.1 hp with rfl | hp
        · skip
          have h3 := l27_0_ok m (m + 24) x0 x1 ((((List.length x1) : Nat) : Int)) 0 x0 _ (some_getD (d := l27_0D) c1)
          rw [eq_of_beq c2] at h3
          exact Eq.trans (Eq.mp (by kernel_rfl) h3) hq
        cases hp
      · skip
        refine ite_cases h (fun c3 h => ?_) (fun c3 h => ?_)
        · skip
          cases h
          refine ⟨(.d (.int .i64 (1))), [(.cells [(.d (.sl (.pair (.int .i64) (.int .i64)) x0))])], runT_ok (LS := (fun k => if k = 57377 then some (l27_0E x0 x1 (((((List.length x1) : Nat) : Int))) ((l27_0R m (m + 24) x0 x1 ((((List.length x1) : Nat) : Int)) 0 x0).2.1) ((l27_0R m (m + 24) x0 x1 ((((List.length x1) : Nat) : Int)) 0 x0).2.2) 1) else none)) (fn := fn27) (vis := [(57377, l27_0H x0 x1 ((((List.length x1) : Nat) : Int)) 0 x0, l27_0B x0 x1 ((((List.length x1) : Nat) : Int)) 0 x0)]) (by kernel_rfl) rfl (by kernel_rfl) (M.run_of_path _ [true] _ _ (by kernel_rfl) (all_t c0 all_nil)) ?_, by simp, (wkR.one (wkV.one (wk1.eq rfl))), ⟨wkBox.cells (wkL.cons (wk1.eq rfl) wkL.nil), trivial⟩⟩
          intro p hp p2 hq
          rcases List.mem_cons.1 hp with rfl | hp
          · skip
            have h3 := l27_0_ok m (m + 24) x0 x1 ((((List.length x1) : Nat) : Int)) 0 x0 _ (some_getD (d := l27_0D) c1)
            rw [eq_of_beq c3] at h3
            exact Eq.trans (Eq.mp (by kernel_rfl) h3) hq
          cases hp
        · skip
          refine ite_cases h (fun c4 h => ?_) (fun c4 h => ?_)
          · skip
            cases h
            refine ⟨(.d (.int .i64 (2))), [(.cells [(.d (.sl (.pair (.int .i64) (.int .i64)) x0))])], runT_ok (LS := (fun k => if k = 57377 then some (l27_0E x0 x1 (((((List.length x1) : Nat) : Int))) ((l27_0R m (m + 24) x0 x1 ((((List.length x1) : Nat) : Int)) 0 x0).2.1) ((l27_0R m (m + 24) x0 x1 ((((List.length x1) : Nat) : Int)) 0 x0).2.2) 2) else none)) (fn := fn27) (vis := [(57377, l27_0H x0 x1 ((((List.length x1) : Nat) : Int)) 0 x0, l27_0B x0 x1 ((((List.length x1) : Nat) : Int)) 0 x0)]) (by kernel_rfl) rfl (by kernel_rfl) (M.run_of_path _ [true] _ _ (by kernel_rfl) (all_t c0 all_nil)) ?_, by simp, (wkR.one (wkV.one (wk1.eq rfl))), ⟨wkBox.cells (wkL.cons (wk1.eq rfl) wkL.nil), trivial⟩⟩
            intro p hp p2 hq
            rcases List.mem_cons.1 hp with rfl | hp
            · skip
              have h3 := l27_0_ok m (m + 24) x0 x1 ((((List.length x1) : Nat) : Int)) 0 x0 _ (some_getD (d := l27_0D) c1)
              rw [eq_of_beq c4] at h3
              exact Eq.trans (Eq.mp (by kernel_rfl) h3) hq
            cases hp
          · skip
            refine ite_cases h (fun c5 h => ?_) (fun c5 h => ?_)
            · skip
              cases h
              refine ⟨(.d (.int .i64 (8))), [(.cells [(.d (.sl (.pair (.int .i64) (.int .i64)) x0))])], runT_ok (LS := (fun k => if k = 57377 then some (l27_0E x0 x1 (((((List.length x1) : Nat) : Int))) ((l27_0R m (m + 24) x0 x1 ((((List.length x1) : Nat) : Int)) 0 x0).2.1) ((l27_0R m (m + 24) x0 x1 ((((List.length x1) : Nat) : Int)) 0 x0).2.2) 3) else none)) (fn := fn27) (vis := [(57377, l27_0H x0 x1 ((((List.length x1) : Nat) : Int)) 0 x0, l27_0B x0 x1 ((((List.length x1) : Nat) : Int)) 0 x0)]) (by kernel_rfl) rfl (by kernel_rfl) (M.run_of_path _ [true] _ _ (by kernel_rfl) (all_t c0 all_nil)) ?_, by simp, (wkR.one (wkV.one (wk1.eq rfl))), ⟨wkBox.cells (wkL.cons (wk1.eq rfl) wkL.nil), trivial⟩⟩
              intro p hp p2 hq
              rcases List.mem_cons.1 hp with rfl | hp
              · skip
                have h3 := l27_0_ok m (m + 24) x0 x1 ((((List.length x1) : Nat) : Int)) 0 x0 _ (some_getD (d := l27_0D) c1)
                rw [eq_of_beq c5] at h3
                exact Eq.trans (Eq.mp (by kernel_rfl) h3) hq
              cases hp
            · skip
              refine ite_cases h (fun c6 h => ?_) (fun c6 h => ?_)
              · skip
                cases h
                refine ⟨(.d (.int .i64 (8))), [(.cells [(.d (.sl (.pair (.int .i64) (.int .i64)) x0))])], runT_ok (LS := (fun k => if k = 57377 then some (l27_0E x0 x1 (((((List.length x1) : Nat) : Int))) ((l27_0R m (m + 24) x0 x1 ((((List.length x1) : Nat) : Int)) 0 x0).2.1) ((l27_0R m (m + 24) x0 x1 ((((List.length x1) : Nat) : Int)) 0 x0).2.2) 4) else none)) (fn := fn27) (vis := [(57377, l27_0H x0 x1 ((((List.length x1) : Nat) : Int)) 0 x0, l27_0B x0 x1 ((((List.length x1) : Nat) : Int)) 0 x0)]) (by kernel_rfl) rfl (by kernel_rfl) (M.run_of_path _ [true] _ _ (by kernel_rfl) (all_t c0 all_nil)) ?_, by simp, (wkR.one (wkV.one (wk1.eq rfl))), ⟨wkBox.cells (wkL.cons (wk1.eq rfl) wkL.nil), trivial⟩⟩
                intro p hp p2 hq
                rcases List.mem_cons.1 hp with rfl | hp
                · skip
                  have h3 := l27_0_ok m (m + 24) x0 x1 ((((List.length x1) : Nat) : Int)) 0 x0 _ (some_getD (d := l27_0D) c1)
                  rw [eq_of_beq c6] at h3
                  exact Eq.trans (Eq.mp (by kernel_rfl) h3) hq
                cases hp
              · skip
                refine ite_cases h (fun c7 h => ?_) (fun c7 h => ?_)
                · skip
                  cases h
                  refine ⟨(.d (.int .i64 (0))), [(.cells [(.sr 1 0 (List.length (l27_0R m (m + 24) x0 x1 ((((List.length x1) : Nat) : Int)) 0 x0).2.2) 2 none)]), (.arr (.pair (.int .i64) (.int .i64)) (l27_0R m (m + 24) x0 x1 ((((List.length x1) : Nat) : Int)) 0 x0).2.2 true)], runT_ok (LS := (fun k => if k = 57377 then some (l27_0E x0 x1 (((((List.length x1) : Nat) : Int))) ((l27_0R m (m + 24) x0 x1 ((((List.length x1) : Nat) : Int)) 0 x0).2.1) ((l27_0R m (m + 24) x0 x1 ((((List.length x1) : Nat) : Int)) 0 x0).2.2) 5) else none)) (fn := fn27) (vis := [(57377, l27_0H x0 x1 ((((List.length x1) : Nat) : Int)) 0 x0, l27_0B x0 x1 ((((List.length x1) : Nat) : Int)) 0 x0)]) (by kernel_rfl) rfl (by kernel_rfl) (M.run_of_path _ [true] _ _ (by kernel_rfl) (all_t c0 all_nil)) ?_, by simp, (wkR.one (wkV.one (wk1.eq rfl))), ⟨wkBox.cells (wkL.cons (wk1.whole rfl (by simp) rfl) wkL.nil), trivial⟩⟩
                  intro p hp p2 hq
                  rcases List.mem_cons.1 hp with rfl | hp
                  · skip
                    have h3 := l27_0_ok m (m + 24) x0 x1 ((((List.length x1) : Nat) : Int)) 0 x0 _ (some_getD (d := l27_0D) c1)
                    rw [eq_of_beq c7] at h3
                    exact Eq.trans (Eq.mp (by kernel_rfl) h3) hq
                  cases hp
                · skip
                  cases h
    · skip
      cases h
  · skip
    cases h

/-- Samples added one by one: a code, and what there is. -/
def addR (out : SL) : SL → Int × SL
  | [] => (0, out)
  | x :: xs => if x.1 < 0 then (1, out) else if x.1 > 1099511627776 then (1, out) else if 0 < out.length ∧ x.1 ≤ (out.getD (out.length - 1) (0, 0)).1 then (2, out) else if out.length = 200 then (8, out) else addR (out ++ [x]) xs
def addG (l xs : SL) : Int × SL := if (addR l xs).1 = 0 then (0, (addR l xs).2) else ((addR l xs).1, l)
theorem add_loop (m : Nat) (x0 x1 : SL) (hb : x1.length < 4611686018427387904) : ∀ (n k : Nat) (b : SL), k ≤ x1.length → b.length ≤ 200 → x1.length - k < n →
    ∃ e s b', l27_0 m n x0 x1 (x1.length : Nat) (k : Nat) b = some (e, s, b') ∧ ((e = 5 ∧ addR b (x1.drop k) = (0, b')) ∨ ((e = 0 ∨ e = 1) ∧ (addR b (x1.drop k)).1 = 1) ∨ (e = 2 ∧ (addR b (x1.drop k)).1 = 2) ∨ ((e = 3 ∨ e = 4) ∧ (addR b (x1.drop k)).1 = 8))
  | 0, k, b, _, _, h => by omega
  | n + 1, k, b, h1, h2, h3 => by
    rw [l27_0]
    by_cases hk : k < x1.length
    · have e1 : decide (((k : Nat) : Int) < (((List.length x1) : Nat) : Int)) = true := decide_eq_true (by omega)
      have e2 : decide ((0 : Int) ≤ ((k : Nat) : Int)) = true := decide_eq_true (by omega)
      have e7 : IntKind.wrap .i64 (((k : Nat) : Int) + (1)) = ((k + 1 : Nat) : Int) := by rw [wrap_id (by omega) (by omega)]; rfl
      rw [drop_getD x1 k (0, 0) hk, Int.toNat_natCast, e7, if_pos e1, if_pos e2, if_pos e1]
      generalize x1.getD k (0, 0) = x
      by_cases c1 : x.1 < 0
      · rw [if_pos (decide_eq_true c1)]
        exact ⟨0, _, _, rfl, .inr (.inl ⟨.inl rfl, by simp [addR, c1]⟩)⟩
      · rw [if_neg (by simpa using c1)]
        by_cases c2 : x.1 > 1099511627776
        · rw [if_pos (decide_eq_true c2)]
          exact ⟨1, _, _, rfl, .inr (.inl ⟨.inr rfl, by simp [addR, c1, c2]⟩)⟩
        · rw [if_neg (by simpa using c2)]
          have e4 : decide ((((List.length b) + 1) * 16) ≤ 70368744177664) = true := decide_eq_true (by omega)
          have e5 : decide ((List.length b) = (List.length b)) = true := decide_eq_true rfl
          have fin : b.length ≠ 200 → ¬ (0 < b.length ∧ x.1 ≤ (b.getD (b.length - 1) (0, 0)).1) → ∃ e s b', l27_0 m n x0 x1 (x1.length : Nat) ((k + 1 : Nat) : Int) (b ++ [x]) = some (e, s, b') ∧ ((e = 5 ∧ addR b (x :: x1.drop (k + 1)) = (0, b')) ∨ ((e = 0 ∨ e = 1) ∧ (addR b (x :: x1.drop (k + 1))).1 = 1) ∨ (e = 2 ∧ (addR b (x :: x1.drop (k + 1))).1 = 2) ∨ ((e = 3 ∨ e = 4) ∧ (addR b (x :: x1.drop (k + 1))).1 = 8)) := by
            intro hne hno
            obtain ⟨e, s, b', hr, he⟩ := add_loop m x0 x1 hb n (k + 1) (b ++ [x]) (by omega) (by simp; omega) (by omega)
            have : addR b (x :: x1.drop (k + 1)) = addR (b ++ [x]) (x1.drop (k + 1)) := by
              rw [addR, if_neg c1, if_neg c2, if_neg hno, if_neg hne]
            rw [this]
            exact ⟨e, s, b', hr, he⟩
          by_cases c3 : 0 < b.length
          · have f1 : decide ((((List.length b) : Nat) : Int) > 0) = true := decide_eq_true (by omega)
            have f2 : IntKind.wrap .i64 ((((List.length b) : Nat) : Int) - (1)) = ((b.length - 1 : Nat) : Int) := by rw [wrap_id (by omega) (by omega)]; omega
            have f3 : decide ((0 : Int) ≤ ((b.length - 1 : Nat) : Int)) = true := decide_eq_true (by omega)
            have f4 : decide (((b.length - 1 : Nat) : Int) < (((List.length b) : Nat) : Int)) = true := decide_eq_true (by omega)
            have f5 : decide ((0 + (b.length - 1)) < (List.length b)) = true := decide_eq_true (by omega)
            have f6 : 0 + (b.length - 1) = b.length - 1 := by omega
            have f5' : decide ((b.length - 1) < (List.length b)) = true := decide_eq_true (by omega)
            rw [f2, Int.toNat_natCast, f6, if_pos f1, if_pos f3, if_pos f4, if_pos f5']
            by_cases c4 : x.1 ≤ (b.getD (b.length - 1) (0, 0)).1
            · rw [if_pos (decide_eq_true c4)]
              exact ⟨2, _, _, rfl, .inr (.inr (.inl ⟨rfl, by rw [addR, if_neg c1, if_neg c2, if_pos ⟨c3, c4⟩]⟩))⟩
            · rw [if_neg (by simpa using c4)]
              by_cases c5 : b.length = 200
              · rw [if_pos (by simp [c5])]
                exact ⟨3, _, _, rfl, .inr (.inr (.inr ⟨.inl rfl, by rw [addR, if_neg c1, if_neg c2, if_neg (fun h => c4 h.2), if_pos c5]⟩))⟩
              · rw [if_neg (by simp; omega), if_pos e4]
                exact fin c5 fun h => c4 h.2
          · have f1 : decide ((((List.length b) : Nat) : Int) > 0) = false := decide_eq_false (by omega)
            have f2 : ((((List.length b) : Nat) : Int) == (200)) = false := by simp; omega
            rw [f1, f2, if_neg (by simp), if_neg (by simp), if_pos e4]
            exact fin (by omega) fun h => c3 h.1
    · have e1 : decide (((k : Nat) : Int) < (((List.length x1) : Nat) : Int)) = false := decide_eq_false (by omega)
      simp only [e1, ↓reduceIte, Bool.false_eq_true]
      rw [List.drop_eq_nil_of_le (by omega)]
      exact ⟨5, _, _, rfl, .inl ⟨rfl, rfl⟩⟩
theorem add27 (l xs : SL) (h : decide (l.length ≤ 200 ∧ xs.length < 4611686018427387904) = true) : ∃ m, p27 m l xs = some (addG l xs) := by
  have h := of_decide_eq_true h
  refine ⟨xs.length, ?_⟩
  obtain ⟨e, s, b', hr, he⟩ := add_loop xs.length l xs h.2 (xs.length + 24) 0 l (by omega) h.1 (by omega)
  simp only [Int.natCast_zero, List.drop_zero] at hr he
  have e1 : decide (((List.length l) * 16) ≤ 70368744177664) = true := decide_eq_true (by omega)
  unfold p27 l27_0R addG
  simp only [hr, e1, Option.isSome_some, Option.getD_some, ↓reduceIte]
  rcases he with ⟨rfl, he⟩ | ⟨rfl | rfl, he⟩ | ⟨rfl, he⟩ | ⟨rfl | rfl, he⟩ <;> simp [he]
def s27 : List AV → Boxes → M (AV × Boxes) := normS [.ptr, .val (.sl (.pair (.int .i64) (.int .i64)))] [(.sl (.pair (.int .i64) (.int .i64)))] fun xs B => match xs, B with
  | [(.ptr 0 0), (.d (.sl (.pair (.int .i64) (.int .i64)) c2))], [(.cells [(.d (.sl (.pair (.int .i64) (.int .i64)) c1))])] => .chk (decide (List.length c1 ≤ 200 ∧ List.length c2 < 4611686018427387904)) (.ret ((.d (.int .i64 (addG c1 c2).1)), [(.cells [(.d (.sl (.pair (.int .i64) (.int .i64)) (addG c1 c2).2))])]))
  | _, _ => .fail
theorem s27_at : CallAt Try.prog 27 s27 := by
  refine CallAt.norm (CallAt.weakE (g := fun n => evCall F S5 n 27) (fun n => evCall_atH mixed kinds hds S5 S5_ok n 27) fun xs B r' B' hr => ?_) _ _
  split at hr
  · rename_i c2 c1
    obtain ⟨hp, hr⟩ := (M.run_chk _ _ _).1 hr
    simp only [M.run, Option.some.injEq, Prod.mk.injEq] at hr
    obtain ⟨rfl, rfl⟩ := hr
    obtain ⟨m, hm⟩ := add27 c1 c2 hp
    obtain ⟨r, B1, h1, h2, h3, h4⟩ := p27_ok m c1 c2 _ hm
    exact ⟨m + 25, r, B1, h1, by simp, h2, h3, h4⟩
  · simp [M.run] at hr
noncomputable def S6 : FuncId → Option (List AV → Boxes → M (AV × Boxes)) := fun f => if f = 27 then some s27 else S5 f
set_option maxHeartbeats 20000000 in
theorem S6_ok : ∀ f s, S6 f = some s → CallAt Try.prog f s := by
  intro f s h
  unfold S6 at h
  split at h
  · rename_i e; subst e; cases h; exact s27_at
  · exact S5_ok f s h

end Go.Proofs.Ytkppbflmlpabjab.Dec
namespace Go.Proofs.Ytkppbflmlpabjab.Dec
open Go.Ev
set_option linter.unusedVariables false
set_option linter.unusedSimpArgs false
set_option maxRecDepth 100000
theorem clone45p : CallAt Try.prog 45 (plainS (cloneG (.pair (.int .i64) (.int .i64)) 16)) := clone_at mixed 49 49 55 (.pair (.int .i64) (.int .i64)) 16 Try.func45 (by kernel_rfl) (by kernel_rfl) (by kernel_rfl) (by kernel_rfl) (by kernel_rfl) (by kernel_rfl) (by kernel_rfl) (by kernel_rfl) (by kernel_rfl) (by kernel_rfl) (by kernel_rfl) (by kernel_rfl) (by kernel_rfl) (by kernel_rfl) (by kernel_rfl) (by kernel_rfl) (by kernel_rfl) (by kernel_rfl) (by kernel_rfl) 
def Sr : FuncId → Option (List AV → Boxes → M (AV × Boxes)) := fun f => if f = 45 then some (plainS (cloneG (.pair (.int .i64) (.int .i64)) 16)) else none
set_option maxHeartbeats 20000000 in
theorem Sr_ok : ∀ f s, Sr f = some s → CallAt Try.prog f s := by
  intro f s h
  unfold Sr at h
  split at h
  · rename_i e; subst e; cases h; exact clone45p
  · cases h
theorem runs7 : Known Try.prog 7 [] (.d (.bool true)) := known mixed (kinds := fun f => (true, f == 47)) (n := 300) Sr_ok (by kernel_rfl)
def trueG : List D → M AV
  | [] => .ret (.d (.bool true))
  | _ => .fail
theorem true7 : CallAt Try.prog 7 (plainV trueG) := by
  refine plainV_at fun ds r hr => ?_
  unfold trueG at hr
  split at hr
  · simp only [M.run, Option.some.injEq] at hr
    subst hr
    exact runs7
  · simp [M.run] at hr

noncomputable def S7 : FuncId → Option (List AV → Boxes → M (AV × Boxes)) := fun f => if f = 7 then some (plainV trueG) else S6 f
set_option maxHeartbeats 20000000 in
theorem S7_ok : ∀ f s, S7 f = some s → CallAt Try.prog f s := by
  intro f s h
  unfold S7 at h
  split at h
  · rename_i e; subst e; cases h; exact true7
  · exact S6_ok f s h

end Go.Proofs.Ytkppbflmlpabjab.Dec
namespace Go.Proofs.Ytkppbflmlpabjab.Dec
open Go.Ev
set_option linter.unusedVariables false
set_option linter.unusedSimpArgs false
set_option maxRecDepth 100000
noncomputable def fn32 : AFn := (F 32).getD ⟨0, [], .bad, false, false, noHd⟩
noncomputable def body32 : AC := fn32.body
def l32_0 (m : Nat) : Nat → List (Int × Int) → Int → Int → Int → Int → List (Int × Int) → Option (Nat × Int × (List (Int × Int)))
  | 0, _, _, _, _, _, _ => none
  | n + 1, x0, x1, x2, s14, s15, b1 => if decide (s15 < s14) = true then
      if decide (0 ≤ s15) = true then
        if decide (s15 < (((List.length x0) : Nat) : Int)) = true then
          if decide ((List.getD x0 (Int.toNat s15) (0, 0)).1 ≥ x1) = true then
            if decide ((List.getD x0 (Int.toNat s15) (0, 0)).1 ≤ x2) = true then
              if decide ((((List.length b1) + 1) * 16) ≤ 70368744177664) = true then
                l32_0 m n x0 x1 x2 s14 ((IntKind.wrap .i64 (s15 + (1)))) ((b1 ++ [(List.getD x0 (Int.toNat s15) (0, 0))]))
              else
                none
            else
              l32_0 m n x0 x1 x2 s14 ((IntKind.wrap .i64 (s15 + (1)))) b1
          else
            l32_0 m n x0 x1 x2 s14 ((IntKind.wrap .i64 (s15 + (1)))) b1
        else
          none
      else
        none
    else
      some (0, s15, b1)
def l32_0D : Nat × Int × (List (Int × Int)) := (0, 0, [])
@[reducible] def l32_0R (m n : Nat) (x0 : List (Int × Int)) (x1 : Int) (x2 : Int) (s14 : Int) (s15 : Int) (b1 : List (Int × Int)) : Nat × Int × (List (Int × Int)) := Option.getD (l32_0 m n x0 x1 x2 s14 s15 b1) l32_0D
def l32_0H (x0 : List (Int × Int)) (x1 : Int) (x2 : Int) (s14 : Int) (s15 : Int) (b1 : List (Int × Int)) : Env := [.top, (.d (.int .i64 x1)), (.d (.int .i64 x2)), .top, .top, .top, .top, (.sr 1 0 (List.length b1) 2 none), .top, .top, .top, .top, .top, (.d (.sl (.pair (.int .i64) (.int .i64)) x0)), (.d (.int .i64 s14)), (.d (.int .i64 s15)), .top, .top, .top, .top, .top, .top, .top, .top, .top, .top, .top, .top, .top, .top, .top, .top, .top, .top, .top]
def l32_0B (x0 : List (Int × Int)) (x1 : Int) (x2 : Int) (s14 : Int) (s15 : Int) (b1 : List (Int × Int)) : Boxes := [(.cells [(.d (.sl (.pair (.int .i64) (.int .i64)) x0))]), (.arr (.pair (.int .i64) (.int .i64)) b1 true)]
def l32_0E (x0 : List (Int × Int)) (x1 : Int) (x2 : Int) (s14 : Int) (s15 : Int) (b1 : List (Int × Int)) : Nat → AEx × Env × Boxes
  | _ => (.exit 0, [.top, (.d (.int .i64 x1)), (.d (.int .i64 x2)), .top, .top, .top, .top, (.sr 1 0 (List.length b1) 2 none), .top, .top, .top, .top, .top, (.d (.sl (.pair (.int .i64) (.int .i64)) x0)), (.d (.int .i64 s14)), (.d (.int .i64 s15)), (.d (.bool (decide (s15 < s14)))), .top, .top, .top, .top, .top, .top, .top, .top, .top, .top, .top, .top, .top, .top, .top, .top, .top, .top], [(.cells [(.d (.sl (.pair (.int .i64) (.int .i64)) x0))]), (.arr (.pair (.int .i64) (.int .i64)) b1 true)])
noncomputable def lbl32_0 : AC := loopBody 57478 body32

set_option maxHeartbeats 20000000 in
theorem l32_0_w0 (m n : Nat) (x0 : List (Int × Int)) (x1 : Int) (x2 : Int) (s14 : Int) (s15 : Int) (b1 : List (Int × Int)) (r : AEx × Env × Boxes) (c0 : decide (s15 < s14) = true) (c1 : decide (0 ≤ s15) = true) (c2 : decide (s15 < (((List.length x0) : Nat) : Int)) = true) (c3 : decide ((List.getD x0 (Int.toNat s15) (0, 0)).1 ≥ x1) = true) (c8 : decide ((List.getD x0 (Int.toNat s15) (0, 0)).1 ≤ x2) = true) (c10 : decide ((((List.length b1) + 1) * 16) ≤ 70368744177664) = true) (ih : (turns (hds 32 57478) 1 57478 (evC byref (evCall F S7 (m + 24)) (m + 24) 1 (hds 32) lbl32_0) n (l32_0H x0 x1 x2 s14 ((IntKind.wrap .i64 (s15 + (1)))) ((b1 ++ [(List.getD x0 (Int.toNat s15) (0, 0))]))) (l32_0B x0 x1 x2 s14 ((IntKind.wrap .i64 (s15 + (1)))) ((b1 ++ [(List.getD x0 (Int.toNat s15) (0, 0))])))).run = some r) : (turns (hds 32 57478) 1 57478 (evC byref (evCall F S7 (m + 24)) (m + 24) 1 (hds 32) lbl32_0) (n + 1) (l32_0H x0 x1 x2 s14 s15 b1) (l32_0B x0 x1 x2 s14 s15 b1)).run = some r := by
  have ht : (turn (hds 32 57478) 1 57478 (evC byref (evCall F S7 (m + 24)) (m + 24) 1 (hds 32) lbl32_0) (l32_0H x0 x1 x2 s14 s15 b1) (l32_0B x0 x1 x2 s14 s15 b1)).run = some (.normal, [.top, (.d (.int .i64 x1)), (.d (.int .i64 x2)), .top, .top, .top, .top, (.sr 1 0 ((List.length b1) + 1) 2 none), .top, .top, .top, .top, .top, (.d (.sl (.pair (.int .i64) (.int .i64)) x0)), (.d (.int .i64 s14)), (.d (.int .i64 (IntKind.wrap .i64 (s15 + (1))))), .top, .top, .top, .top, .top, .top, .top, .top, .top, .top, .top, .top, .top, .top, .top, .top, .top, .top, .top], [(.cells [(.d (.sl (.pair (.int .i64) (.int .i64)) x0))]), (.arr (.pair (.int .i64) (.int .i64)) (b1 ++ [(List.getD x0 (Int.toNat s15) (0, 0))]) true)]) := M.run_of_path _ [true, true, true, true, true, true, true, true, true, true, true, true] _ _ (by kernel_rfl) (all_t c0 (all_t c1 (all_t c2 (all_t c3 (all_t c3 (all_t c3 (all_t c3 (all_t c3 (all_t c8 (all_t rfl (all_t c10 (all_t (show decide ((List.length b1) = (List.length b1)) = true from decide_eq_true rfl) all_nil))))))))))))
  refine turns_step ht (turns_eq ?_ ?_ ih)
  · unfold l32_0H
    simp
  · unfold l32_0B
    simp
set_option maxHeartbeats 20000000 in
theorem l32_0_w1 (m n : Nat) (x0 : List (Int × Int)) (x1 : Int) (x2 : Int) (s14 : Int) (s15 : Int) (b1 : List (Int × Int)) (r : AEx × Env × Boxes) (c0 : decide (s15 < s14) = true) (c1 : decide (0 ≤ s15) = true) (c2 : decide (s15 < (((List.length x0) : Nat) : Int)) = true) (c3 : decide ((List.getD x0 (Int.toNat s15) (0, 0)).1 ≥ x1) = true) (c8 : ¬ decide ((List.getD x0 (Int.toNat s15) (0, 0)).1 ≤ x2) = true) (ih : (turns (hds 32 57478) 1 57478 (evC byref (evCall F S7 (m + 24)) (m + 24) 1 (hds 32) lbl32_0) n (l32_0H x0 x1 x2 s14 ((IntKind.wrap .i64 (s15 + (1)))) b1) (l32_0B x0 x1 x2 s14 ((IntKind.wrap .i64 (s15 + (1)))) b1)).run = some r) : (turns (hds 32 57478) 1 57478 (evC byref (evCall F S7 (m + 24)) (m + 24) 1 (hds 32) lbl32_0) (n + 1) (l32_0H x0 x1 x2 s14 s15 b1) (l32_0B x0 x1 x2 s14 s15 b1)).run = some r := by
  exact turns_step (M.run_of_path _ [true, true, true, true, true, true, true, true, false] _ _ (by kernel_rfl) (all_t c0 (all_t c1 (all_t c2 (all_t c3 (all_t c3 (all_t c3 (all_t c3 (all_t c3 (all_f c8 all_nil)))))))))) ih
set_option maxHeartbeats 20000000 in
theorem l32_0_w2 (m n : Nat) (x0 : List (Int × Int)) (x1 : Int) (x2 : Int) (s14 : Int) (s15 : Int) (b1 : List (Int × Int)) (r : AEx × Env × Boxes) (c0 : decide (s15 < s14) = true) (c1 : decide (0 ≤ s15) = true) (c2 : decide (s15 < (((List.length x0) : Nat) : Int)) = true) (c3 : ¬ decide ((List.getD x0 (Int.toNat s15) (0, 0)).1 ≥ x1) = true) (ih : (turns (hds 32 57478) 1 57478 (evC byref (evCall F S7 (m + 24)) (m + 24) 1 (hds 32) lbl32_0) n (l32_0H x0 x1 x2 s14 ((IntKind.wrap .i64 (s15 + (1)))) b1) (l32_0B x0 x1 x2 s14 ((IntKind.wrap .i64 (s15 + (1)))) b1)).run = some r) : (turns (hds 32 57478) 1 57478 (evC byref (evCall F S7 (m + 24)) (m + 24) 1 (hds 32) lbl32_0) (n + 1) (l32_0H x0 x1 x2 s14 s15 b1) (l32_0B x0 x1 x2 s14 s15 b1)).run = some r := by
  exact turns_step (M.run_of_path _ [true, true, true, false, false, false, false, false, false] _ _ (by kernel_rfl) (all_t c0 (all_t c1 (all_t c2 (all_f c3 (all_f c3 (all_f c3 (all_f c3 (all_f c3 (all_f Bool.false_ne_true all_nil)))))))))) ih
set_option maxHeartbeats 20000000 in
theorem l32_0_w3 (m n : Nat) (x0 : List (Int × Int)) (x1 : Int) (x2 : Int) (s14 : Int) (s15 : Int) (b1 : List (Int × Int)) (c0 : ¬ decide (s15 < s14) = true) : (turns (hds 32 57478) 1 57478 (evC byref (evCall F S7 (m + 24)) (m + 24) 1 (hds 32) lbl32_0) (n + 1) (l32_0H x0 x1 x2 s14 s15 b1) (l32_0B x0 x1 x2 s14 s15 b1)).run = some (.exit 0, [.top, (.d (.int .i64 x1)), (.d (.int .i64 x2)), .top, .top, .top, .top, (.sr 1 0 (List.length b1) 2 none), .top, .top, .top, .top, .top, (.d (.sl (.pair (.int .i64) (.int .i64)) x0)), (.d (.int .i64 s14)), (.d (.int .i64 s15)), (.d (.bool (decide (s15 < s14)))), .top, .top, .top, .top, .top, .top, .top, .top, .top, .top, .top, .top, .top, .top, .top, .top, .top, .top], [(.cells [(.d (.sl (.pair (.int .i64) (.int .i64)) x0))]), (.arr (.pair (.int .i64) (.int .i64)) b1 true)]) := by
  exact turns_last (by simp) (M.run_of_path _ [false] _ _ (by kernel_rfl) (all_f c0 all_nil)) 

set_option maxHeartbeats 20000000 in
theorem l32_0_step (m n : Nat) (ih : ∀ (x0 : List (Int × Int)) (x1 : Int) (x2 : Int) (s14 : Int) (s15 : Int) (b1 : List (Int × Int)) (q : Nat × Int × (List (Int × Int))), l32_0 m n x0 x1 x2 s14 s15 b1 = some q → (turns (hds 32 57478) 1 57478 (evC byref (evCall F S7 (m + 24)) (m + 24) 1 (hds 32) lbl32_0) n (l32_0H x0 x1 x2 s14 s15 b1) (l32_0B x0 x1 x2 s14 s15 b1)).run = some (l32_0E (x0) (x1) (x2) (s14) (q.2.1) (q.2.2) q.1)) (x0 : List (Int × Int)) (x1 : Int) (x2 : Int) (s14 : Int) (s15 : Int) (b1 : List (Int × Int)) (q : Nat × Int × (List (Int × Int))) (h : l32_0 m (n + 1) x0 x1 x2 s14 s15 b1 = some q) : (turns (hds 32 57478) 1 57478 (evC byref (evCall F S7 (m + 24)) (m + 24) 1 (hds 32) lbl32_0) (n + 1) (l32_0H x0 x1 x2 s14 s15 b1) (l32_0B x0 x1 x2 s14 s15 b1)).run = some (l32_0E (x0) (x1) (x2) (s14) (q.2.1) (q.2.2) q.1) := by
  rw [l32_0] at h
  refine ite_cases h (fun c0 h => ?_) (fun c0 h => ?_)
  · skip
    refine ite_cases h (fun c1 h => ?_) (fun c1 h => ?_)
    · skip
      refine ite_cases h (fun c2 h => ?_) (fun c2 h => ?_)
      · skip
        refine ite_cases h (fun c3 h => ?_) (fun c3 h => ?_)
        · skip
          refine ite_cases h (fun c8 h => ?_) (fun c8 h => ?_)
          · skip
            refine ite_cases h (fun c10 h => ?_) (fun c10 h => ?_)
            · skip
              exact l32_0_w0 m n x0 x1 x2 s14 s15 b1 _ c0 c1 c2 c3 c8 c10 (ih _ _ _ _ _ _ q h)
            · skip
              cases h
          · skip
            exact l32_0_w1 m n x0 x1 x2 s14 s15 b1 _ c0 c1 c2 c3 c8 (ih _ _ _ _ _ _ q h)
        · skip
          exact l32_0_w2 m n x0 x1 x2 s14 s15 b1 _ c0 c1 c2 c3 (ih _ _ _ _ _ _ q h)
      · skip
        cases h
    · skip
      cases h
  · skip
    cases h
    exact l32_0_w3 m n x0 x1 x2 s14 s15 b1 c0
set_option maxHeartbeats 20000000 in
theorem l32_0_ok (m : Nat) : ∀ (n : Nat) (x0 : List (Int × Int)) (x1 : Int) (x2 : Int) (s14 : Int) (s15 : Int) (b1 : List (Int × Int)) (q : Nat × Int × (List (Int × Int))), l32_0 m n x0 x1 x2 s14 s15 b1 = some q → (turns (hds 32 57478) 1 57478 (evC byref (evCall F S7 (m + 24)) (m + 24) 1 (hds 32) lbl32_0) n (l32_0H x0 x1 x2 s14 s15 b1) (l32_0B x0 x1 x2 s14 s15 b1)).run = some (l32_0E (x0) (x1) (x2) (s14) (q.2.1) (q.2.2) q.1)
  | 0, x0, x1, x2, s14, s15, b1, q, h => by cases h
  | n + 1, x0, x1, x2, s14, s15, b1, q, h => l32_0_step m n (l32_0_ok m n) x0 x1 x2 s14 s15 b1 q h

def p32 (m : Nat) (x0 : List (Int × Int)) (x1 : Int) (x2 : Int) : Option ((List (Int × Int)) × (List (Int × Int))) :=
  if (Option.isSome (l32_0 m (m + 24) x0 x1 x2 ((((List.length x0) : Nat) : Int)) 0 (([] : List (Int × Int))))) = true then
    some ((List.take (List.length (l32_0R m (m + 24) x0 x1 x2 ((((List.length x0) : Nat) : Int)) 0 (([] : List (Int × Int)))).2.2) (List.drop 0 (l32_0R m (m + 24) x0 x1 x2 ((((List.length x0) : Nat) : Int)) 0 (([] : List (Int × Int)))).2.2)), x0)
  else
    none
set_option maxHeartbeats 20000000 in
theorem p32_ok (m : Nat) (x0 : List (Int × Int)) (x1 : Int) (x2 : Int) (q : (List (Int × Int)) × (List (Int × Int))) (h : p32 m x0 x1 x2 = some q) : ∃ r B1, (evCall F S7 (m + 25) 32 [(.ptr 0 0), (.d (.int .i64 x1)), (.d (.int .i64 x2))] [(.cells [(.d (.sl (.pair (.int .i64) (.int .i64)) x0))])]).run = some (r, B1) ∧ 1 ≤ B1.length ∧ wkR B1 [(.cells [(.d (.sl (.pair (.int .i64) (.int .i64)) q.2))])] r (.d (.sl (.pair (.int .i64) (.int .i64)) q.1)) ∧ wkBs B1 [(.cells [(.d (.sl (.pair (.int .i64) (.int .i64)) q.2))])] 0 [(.cells [(.d (.sl (.pair (.int .i64) (.int .i64)) q.2))])] := by
  unfold p32 at h
  refine ite_cases h (fun c0 h => ?_) (fun c0 h => ?_)
  · skip
    cases h
    refine ⟨(.d (.sl (.pair (.int .i64) (.int .i64)) (List.take (List.length (l32_0R m (m + 24) x0 x1 x2 ((((List.length x0) : Nat) : Int)) 0 (([] : List (Int × Int)))).2.2) (List.drop 0 (l32_0R m (m + 24) x0 x1 x2 ((((List.length x0) : Nat) : Int)) 0 (([] : List (Int × Int)))).2.2)))), [(.cells [(.d (.sl (.pair (.int .i64) (.int .i64)) x0))])], runT_ok (LS := (fun k => if k = 57478 then some (l32_0E x0 x1 x2 (((((List.length x0) : Nat) : Int))) ((l32_0R m (m + 24) x0 x1 x2 ((((List.length x0) : Nat) : Int)) 0 (([] : List (Int × Int)))).2.1) ((l32_0R m (m + 24) x0 x1 x2 ((((List.length x0) : Nat) : Int)) 0 (([] : List (Int × Int)))).2.2) 0) else none)) (fn := fn32) (vis := [(57478, l32_0H x0 x1 x2 ((((List.length x0) : Nat) : Int)) 0 (([] : List (Int × Int))), l32_0B x0 x1 x2 ((((List.length x0) : Nat) : Int)) 0 (([] : List (Int × Int))))]) (by kernel_rfl) rfl (by kernel_rfl) (M.run_of_path _ [true] _ _ (by kernel_rfl) (all_t (show decide ((0 + (List.length (l32_0R m (m + 24) x0 x1 x2 ((((List.length x0) : Nat) : Int)) 0 (([] : List (Int × Int)))).2.2)) ≤ (List.length (l32_0R m (m + 24) x0 x1 x2 ((((List.length x0) : Nat) : Int)) 0 (([] : List (Int × Int)))).2.2)) = true from decide_eq_true (Nat.le_of_eq (Nat.zero_add _))) all_nil)) ?_, by simp, (wkR.one (wkV.one (wk1.eq rfl))), ⟨wkBox.cells (wkL.cons (wk1.eq rfl) wkL.nil), trivial⟩⟩
    intro p hp p2 hq
    rcases List.mem_cons.1 hp with rfl | hp
    · skip
      have h3 := l32_0_ok m (m + 24) x0 x1 x2 ((((List.length x0) : Nat) : Int)) 0 (([] : List (Int × Int))) _ (some_getD (d := l32_0D) c0)
      exact Eq.trans (Eq.mp (by kernel_rfl) h3) hq
    cases hp
  · skip
    cases h

/-- Samples between two times. -/
def betG (l : SL) (lo hi : Int) : SL := l.filter fun x => decide (x.1 ≥ lo) && decide (x.1 ≤ hi)
theorem bet_loop (m : Nat) (l : SL) (lo hi : Int) (hb : l.length ≤ 1000000) : ∀ (n k : Nat) (acc : SL), k ≤ l.length → acc.length ≤ k → l.length - k < n → ∃ s, l32_0 m n l lo hi (l.length : Nat) (k : Nat) acc = some (0, s, acc ++ betG (l.drop k) lo hi)
  | 0, k, acc, _, _, h => by omega
  | n + 1, k, acc, h1, h2, h3 => by
    rw [l32_0]
    by_cases hk : k < l.length
    · have e1 : decide (((k : Nat) : Int) < (((List.length l) : Nat) : Int)) = true := decide_eq_true (by omega)
      have e2 : decide ((0 : Int) ≤ ((k : Nat) : Int)) = true := decide_eq_true (by omega)
      have e7 : IntKind.wrap .i64 (((k : Nat) : Int) + (1)) = ((k + 1 : Nat) : Int) := by rw [wrap_id (by omega) (by omega)]; rfl
      have e4 : decide ((((List.length acc) + 1) * 16) ≤ 70368744177664) = true := decide_eq_true (by omega)
      rw [drop_getD l k (0, 0) hk, Int.toNat_natCast, e7, if_pos e1, if_pos e2, if_pos e1, if_pos e4]
      generalize l.getD k (0, 0) = x
      have go := bet_loop m l lo hi hb n (k + 1)
      by_cases c1 : x.1 ≥ lo
      · by_cases c2 : x.1 ≤ hi
        · rw [if_pos (decide_eq_true c1), if_pos (decide_eq_true c2)]
          obtain ⟨s, hs⟩ := go (acc ++ [x]) (by omega) (by simp; omega) (by omega)
          refine ⟨s, ?_⟩
          rw [hs]
          simp [betG, c1, c2]
        · rw [if_pos (decide_eq_true c1), if_neg (by simpa using c2)]
          obtain ⟨s, hs⟩ := go acc (by omega) (by omega) (by omega)
          refine ⟨s, ?_⟩
          rw [hs]
          simp [betG, c2]
      · rw [if_neg (by simpa using c1)]
        obtain ⟨s, hs⟩ := go acc (by omega) (by omega) (by omega)
        refine ⟨s, ?_⟩
        rw [hs]
        simp [betG, c1]
    · have e1 : decide (((k : Nat) : Int) < (((List.length l) : Nat) : Int)) = false := decide_eq_false (by omega)
      rw [e1, if_neg (by simp), List.drop_eq_nil_of_le (by omega)]
      exact ⟨((k : Nat) : Int), by simp [betG]⟩
theorem bet32 (l : SL) (lo hi : Int) (h : decide (l.length ≤ 1000000) = true) : ∃ m, p32 m l lo hi = some (betG l lo hi, l) := by
  refine ⟨l.length, ?_⟩
  obtain ⟨s, hs⟩ := bet_loop l.length l lo hi (of_decide_eq_true h) (l.length + 24) 0 [] (by omega) (by simp) (by omega)
  simp only [Int.natCast_zero, List.drop_zero, List.nil_append] at hs
  unfold p32 l32_0R
  rw [hs]
  simp
def s32 : List AV → Boxes → M (AV × Boxes) := normS [.ptr, .val (.int .i64), .val (.int .i64)] [(.sl (.pair (.int .i64) (.int .i64)))] fun xs B => match xs, B with
  | [(.ptr 0 0), (.d (.int .i64 c2)), (.d (.int .i64 c3))], [(.cells [(.d (.sl (.pair (.int .i64) (.int .i64)) c1))])] => .chk (decide (List.length c1 ≤ 1000000)) (.ret ((.d (.sl (.pair (.int .i64) (.int .i64)) (betG c1 c2 c3))), [(.cells [(.d (.sl (.pair (.int .i64) (.int .i64)) c1))])]))
  | _, _ => .fail
theorem s32_at : CallAt Try.prog 32 s32 := by
  refine CallAt.norm (CallAt.weakE (g := fun n => evCall F S7 n 32) (fun n => evCall_atH mixed kinds hds S7 S7_ok n 32) fun xs B r' B' hr => ?_) _ _
  split at hr
  · rename_i c2 c3 c1
    obtain ⟨hp, hr⟩ := (M.run_chk _ _ _).1 hr
    simp only [M.run, Option.some.injEq, Prod.mk.injEq] at hr
    obtain ⟨rfl, rfl⟩ := hr
    obtain ⟨m, hm⟩ := bet32 c1 c2 c3 hp
    obtain ⟨r, B1, h1, h2, h3, h4⟩ := p32_ok m c1 c2 c3 _ hm
    exact ⟨m + 25, r, B1, h1, by simp, h2, h3, h4⟩
  · simp [M.run] at hr
noncomputable def S8 : FuncId → Option (List AV → Boxes → M (AV × Boxes)) := fun f => if f = 32 then some s32 else S7 f
set_option maxHeartbeats 20000000 in
theorem S8_ok : ∀ f s, S8 f = some s → CallAt Try.prog f s := by
  intro f s h
  unfold S8 at h
  split at h
  · rename_i e; subst e; cases h; exact s32_at
  · exact S7_ok f s h

noncomputable def fn34 : AFn := (F 34).getD ⟨0, [], .bad, false, false, noHd⟩
noncomputable def body34 : AC := fn34.body
def l34_0 (m : Nat) : Nat → List (Int × Int) → Int → Int → Option (Nat × Int)
  | 0, _, _, _ => none
  | n + 1, x0, x1, s5 => if decide (s5 < (((List.length x0) : Nat) : Int)) = true then
      if decide (0 ≤ s5) = true then
        if decide ((List.getD x0 (Int.toNat s5) (0, 0)).1 < x1) = true then
          l34_0 m n x0 x1 ((IntKind.wrap .i64 (s5 + (1))))
        else
          some (0, s5)
      else
        none
    else
      some (1, s5)
def l34_0D : Nat × Int := (0, 0)
@[reducible] def l34_0R (m n : Nat) (x0 : List (Int × Int)) (x1 : Int) (s5 : Int) : Nat × Int := Option.getD (l34_0 m n x0 x1 s5) l34_0D
def l34_0H (x0 : List (Int × Int)) (x1 : Int) (s5 : Int) : Env := [(.ptr 0 0), (.d (.int .i64 x1)), .top, .top, .top, (.d (.int .i64 s5)), .top, .top, .top, .top, .top, .top, .top, .top, .top, .top, .top, .top, .top, .top, .top, .top, .top, .top, .top, .top, .top, .top, .top, .top, .top, .top, .top, .top, .top, .top, .top, .top]
def l34_0B (x0 : List (Int × Int)) (x1 : Int) (s5 : Int) : Boxes := [(.cells [(.d (.sl (.pair (.int .i64) (.int .i64)) x0))])]
def l34_0E (x0 : List (Int × Int)) (x1 : Int) (s5 : Int) : Nat → AEx × Env × Boxes
  | 0 => (.exit 0, [(.ptr 0 0), (.d (.int .i64 x1)), .top, .top, .top, (.d (.int .i64 s5)), (.d (.int .i64 s5)), (.ptr 0 0), (.ptr 0 0), (.ptr 0 0), (.d (.sl (.pair (.int .i64) (.int .i64)) x0)), (.d (.int .i64 (((List.length x0) : Nat) : Int))), (.d (.bool (decide (s5 < (((List.length x0) : Nat) : Int))))), (.d (.bool (decide (s5 < (((List.length x0) : Nat) : Int))))), (.ptr 0 0), (.ptr 0 0), (.ptr 0 0), (.d (.sl (.pair (.int .i64) (.int .i64)) x0)), (.d (.int .i64 s5)), (.cptr [(.int .i64 (List.getD x0 (Int.toNat s5) (0, 0)).1), (.int .i64 (List.getD x0 (Int.toNat s5) (0, 0)).2)] 0), (.cptr [(.int .i64 (List.getD x0 (Int.toNat s5) (0, 0)).1), (.int .i64 (List.getD x0 (Int.toNat s5) (0, 0)).2)] 0), (.d (.int .i64 (List.getD x0 (Int.toNat s5) (0, 0)).1)), (.d (.int .i64 x1)), (.d (.bool (decide ((List.getD x0 (Int.toNat s5) (0, 0)).1 < x1)))), (.d (.bool (decide ((List.getD x0 (Int.toNat s5) (0, 0)).1 < x1)))), .top, .top, .top, .top, .top, .top, .top, .top, .top, .top, .top, .top, .top], [(.cells [(.d (.sl (.pair (.int .i64) (.int .i64)) x0))])])
  | _ => (.exit 0, [(.ptr 0 0), (.d (.int .i64 x1)), .top, .top, .top, (.d (.int .i64 s5)), (.d (.int .i64 s5)), (.ptr 0 0), (.ptr 0 0), (.ptr 0 0), (.d (.sl (.pair (.int .i64) (.int .i64)) x0)), (.d (.int .i64 (((List.length x0) : Nat) : Int))), (.d (.bool (decide (s5 < (((List.length x0) : Nat) : Int))))), (.d (.bool (decide (s5 < (((List.length x0) : Nat) : Int))))), (.tup []), (.tup []), (.tup []), (.tup []), (.tup []), (.tup []), (.tup []), (.tup []), (.tup []), (.tup []), (.d (.bool false)), .top, .top, .top, .top, .top, .top, .top, .top, .top, .top, .top, .top, .top], [(.cells [(.d (.sl (.pair (.int .i64) (.int .i64)) x0))])])
noncomputable def lbl34_0 : AC := loopBody 35 body34

set_option maxHeartbeats 20000000 in
theorem l34_0_w0 (m n : Nat) (x0 : List (Int × Int)) (x1 : Int) (s5 : Int) (r : AEx × Env × Boxes) (c0 : decide (s5 < (((List.length x0) : Nat) : Int)) = true) (c6 : decide (0 ≤ s5) = true) (c13 : decide ((List.getD x0 (Int.toNat s5) (0, 0)).1 < x1) = true) (ih : (turns (hds 34 35) 1 35 (evC byref (evCall F S8 (m + 24)) (m + 24) 1 (hds 34) lbl34_0) n (l34_0H x0 x1 ((IntKind.wrap .i64 (s5 + (1))))) (l34_0B x0 x1 ((IntKind.wrap .i64 (s5 + (1)))))).run = some r) : (turns (hds 34 35) 1 35 (evC byref (evCall F S8 (m + 24)) (m + 24) 1 (hds 34) lbl34_0) (n + 1) (l34_0H x0 x1 s5) (l34_0B x0 x1 s5)).run = some r := by
  exact turns_step (M.run_of_path _ [true, true, true, true, true, true, true, true, true, true, true, true, true, true] _ _ (by kernel_rfl) (all_t c0 (all_t c0 (all_t c0 (all_t c0 (all_t c0 (all_t c0 (all_t c6 (all_t c0 (all_t c0 (all_t c0 (all_t c0 (all_t c0 (all_t c0 (all_t c13 all_nil))))))))))))))) ih
set_option maxHeartbeats 20000000 in
theorem l34_0_w1 (m n : Nat) (x0 : List (Int × Int)) (x1 : Int) (s5 : Int) (c0 : decide (s5 < (((List.length x0) : Nat) : Int)) = true) (c6 : decide (0 ≤ s5) = true) (c13 : ¬ decide ((List.getD x0 (Int.toNat s5) (0, 0)).1 < x1) = true) : (turns (hds 34 35) 1 35 (evC byref (evCall F S8 (m + 24)) (m + 24) 1 (hds 34) lbl34_0) (n + 1) (l34_0H x0 x1 s5) (l34_0B x0 x1 s5)).run = some (.exit 0, [(.ptr 0 0), (.d (.int .i64 x1)), .top, .top, .top, (.d (.int .i64 s5)), (.d (.int .i64 s5)), (.ptr 0 0), (.ptr 0 0), (.ptr 0 0), (.d (.sl (.pair (.int .i64) (.int .i64)) x0)), (.d (.int .i64 (((List.length x0) : Nat) : Int))), (.d (.bool (decide (s5 < (((List.length x0) : Nat) : Int))))), (.d (.bool (decide (s5 < (((List.length x0) : Nat) : Int))))), (.ptr 0 0), (.ptr 0 0), (.ptr 0 0), (.d (.sl (.pair (.int .i64) (.int .i64)) x0)), (.d (.int .i64 s5)), (.cptr [(.int .i64 (List.getD x0 (Int.toNat s5) (0, 0)).1), (.int .i64 (List.getD x0 (Int.toNat s5) (0, 0)).2)] 0), (.cptr [(.int .i64 (List.getD x0 (Int.toNat s5) (0, 0)).1), (.int .i64 (List.getD x0 (Int.toNat s5) (0, 0)).2)] 0), (.d (.int .i64 (List.getD x0 (Int.toNat s5) (0, 0)).1)), (.d (.int .i64 x1)), (.d (.bool (decide ((List.getD x0 (Int.toNat s5) (0, 0)).1 < x1)))), (.d (.bool (decide ((List.getD x0 (Int.toNat s5) (0, 0)).1 < x1)))), .top, .top, .top, .top, .top, .top, .top, .top, .top, .top, .top, .top, .top], [(.cells [(.d (.sl (.pair (.int .i64) (.int .i64)) x0))])]) := by
  exact turns_last (by simp) (M.run_of_path _ [true, true, true, true, true, true, true, true, true, true, true, true, true, false] _ _ (by kernel_rfl) (all_t c0 (all_t c0 (all_t c0 (all_t c0 (all_t c0 (all_t c0 (all_t c6 (all_t c0 (all_t c0 (all_t c0 (all_t c0 (all_t c0 (all_t c0 (all_f c13 all_nil))))))))))))))) 
set_option maxHeartbeats 20000000 in
theorem l34_0_w2 (m n : Nat) (x0 : List (Int × Int)) (x1 : Int) (s5 : Int) (c0 : ¬ decide (s5 < (((List.length x0) : Nat) : Int)) = true) : (turns (hds 34 35) 1 35 (evC byref (evCall F S8 (m + 24)) (m + 24) 1 (hds 34) lbl34_0) (n + 1) (l34_0H x0 x1 s5) (l34_0B x0 x1 s5)).run = some (.exit 0, [(.ptr 0 0), (.d (.int .i64 x1)), .top, .top, .top, (.d (.int .i64 s5)), (.d (.int .i64 s5)), (.ptr 0 0), (.ptr 0 0), (.ptr 0 0), (.d (.sl (.pair (.int .i64) (.int .i64)) x0)), (.d (.int .i64 (((List.length x0) : Nat) : Int))), (.d (.bool (decide (s5 < (((List.length x0) : Nat) : Int))))), (.d (.bool (decide (s5 < (((List.length x0) : Nat) : Int))))), (.tup []), (.tup []), (.tup []), (.tup []), (.tup []), (.tup []), (.tup []), (.tup []), (.tup []), (.tup []), (.d (.bool false)), .top, .top, .top, .top, .top, .top, .top, .top, .top, .top, .top, .top, .top], [(.cells [(.d (.sl (.pair (.int .i64) (.int .i64)) x0))])]) := by
  exact turns_last (by simp) (M.run_of_path _ [false, false, false, false, false, false, false, false, false, false, false, false] _ _ (by kernel_rfl) (all_f c0 (all_f c0 (all_f c0 (all_f c0 (all_f c0 (all_f c0 (all_f c0 (all_f c0 (all_f c0 (all_f c0 (all_f c0 (all_f Bool.false_ne_true all_nil))))))))))))) 

set_option maxHeartbeats 20000000 in
theorem l34_0_step (m n : Nat) (ih : ∀ (x0 : List (Int × Int)) (x1 : Int) (s5 : Int) (q : Nat × Int), l34_0 m n x0 x1 s5 = some q → (turns (hds 34 35) 1 35 (evC byref (evCall F S8 (m + 24)) (m + 24) 1 (hds 34) lbl34_0) n (l34_0H x0 x1 s5) (l34_0B x0 x1 s5)).run = some (l34_0E (x0) (x1) (q.2) q.1)) (x0 : List (Int × Int)) (x1 : Int) (s5 : Int) (q : Nat × Int) (h : l34_0 m (n + 1) x0 x1 s5 = some q) : (turns (hds 34 35) 1 35 (evC byref (evCall F S8 (m + 24)) (m + 24) 1 (hds 34) lbl34_0) (n + 1) (l34_0H x0 x1 s5) (l34_0B x0 x1 s5)).run = some (l34_0E (x0) (x1) (q.2) q.1) := by
  rw [l34_0] at h
  refine ite_cases h (fun c0 h => ?_) (fun c0 h => ?_)
  · skip
    refine ite_cases h (fun c6 h => ?_) (fun c6 h => ?_)
    · skip
      refine ite_cases h (fun c13 h => ?_) (fun c13 h => ?_)
      · skip
        exact l34_0_w0 m n x0 x1 s5 _ c0 c6 c13 (ih _ _ _ q h)
      · skip
        cases h
        exact l34_0_w1 m n x0 x1 s5 c0 c6 c13
    · skip
      cases h
  · skip
    cases h
    exact l34_0_w2 m n x0 x1 s5 c0
set_option maxHeartbeats 20000000 in
theorem l34_0_ok (m : Nat) : ∀ (n : Nat) (x0 : List (Int × Int)) (x1 : Int) (s5 : Int) (q : Nat × Int), l34_0 m n x0 x1 s5 = some q → (turns (hds 34 35) 1 35 (evC byref (evCall F S8 (m + 24)) (m + 24) 1 (hds 34) lbl34_0) n (l34_0H x0 x1 s5) (l34_0B x0 x1 s5)).run = some (l34_0E (x0) (x1) (q.2) q.1)
  | 0, x0, x1, s5, q, h => by cases h
  | n + 1, x0, x1, s5, q, h => l34_0_step m n (l34_0_ok m n) x0 x1 s5 q h

def p34 (m : Nat) (x0 : List (Int × Int)) (x1 : Int) : Option (Int × (List (Int × Int))) :=
  if (Option.isSome (l34_0 m (m + 24) x0 x1 0)) = true then
    if ((l34_0R m (m + 24) x0 x1 0).1 == 0) = true then
      if (decide (0 ≤ (l34_0R m (m + 24) x0 x1 0).2) && decide ((l34_0R m (m + 24) x0 x1 0).2 ≤ (((List.length x0) : Nat) : Int))) = true then
        if decide (((List.length (List.drop (Int.toNat (l34_0R m (m + 24) x0 x1 0).2) (List.take (List.length x0) x0))) * 16) ≤ 70368744177664) = true then
          some ((l34_0R m (m + 24) x0 x1 0).2, (List.drop (Int.toNat (l34_0R m (m + 24) x0 x1 0).2) (List.take (List.length x0) x0)))
        else
          none
      else
        none
    else
      if ((l34_0R m (m + 24) x0 x1 0).1 == 1) = true then
        if (decide (0 ≤ (l34_0R m (m + 24) x0 x1 0).2) && decide ((l34_0R m (m + 24) x0 x1 0).2 ≤ (((List.length x0) : Nat) : Int))) = true then
          if decide (((List.length (List.drop (Int.toNat (l34_0R m (m + 24) x0 x1 0).2) (List.take (List.length x0) x0))) * 16) ≤ 70368744177664) = true then
            some ((l34_0R m (m + 24) x0 x1 0).2, (List.drop (Int.toNat (l34_0R m (m + 24) x0 x1 0).2) (List.take (List.length x0) x0)))
          else
            none
        else
          none
      else
        none
  else
    none
set_option maxHeartbeats 20000000 in
theorem p34_ok (m : Nat) (x0 : List (Int × Int)) (x1 : Int) (q : Int × (List (Int × Int))) (h : p34 m x0 x1 = some q) : ∃ r B1, (evCall F S8 (m + 25) 34 [(.ptr 0 0), (.d (.int .i64 x1))] [(.cells [(.d (.sl (.pair (.int .i64) (.int .i64)) x0))])]).run = some (r, B1) ∧ 1 ≤ B1.length ∧ wkR B1 [(.cells [(.d (.sl (.pair (.int .i64) (.int .i64)) q.2))])] r (.d (.int .i64 q.1)) ∧ wkBs B1 [(.cells [(.d (.sl (.pair (.int .i64) (.int .i64)) q.2))])] 0 [(.cells [(.d (.sl (.pair (.int .i64) (.int .i64)) q.2))])] := by
  unfold p34 at h
  refine ite_cases h (fun c0 h => ?_) (fun c0 h => ?_)
  · skip
    refine ite_cases h (fun c1 h => ?_) (fun c1 h => ?_)
    · skip
      refine ite_cases h (fun c2 h => ?_) (fun c2 h => ?_)
      · skip
        refine ite_cases h (fun c3 h => ?_) (fun c3 h => ?_)
        · skip
          cases h
          refine ⟨(.d (.int .i64 (l34_0R m (m + 24) x0 x1 0).2)), [(.cells [(.sr 1 0 (List.length (List.drop (Int.toNat (l34_0R m (m + 24) x0 x1 0).2) (List.take (List.length x0) x0))) 2 none)]), (.arr (.pair (.int .i64) (.int .i64)) (List.drop (Int.toNat (l34_0R m (m + 24) x0 x1 0).2) (List.take (List.length x0) x0)) true)], runT_ok (LS := (fun k => if k = 35 then some (l34_0E x0 x1 ((l34_0R m (m + 24) x0 x1 0).2) 0) else none)) (fn := fn34) (vis := [(35, l34_0H x0 x1 0, l34_0B x0 x1 0)]) (by kernel_rfl) rfl (by kernel_rfl) (M.run_of_path _ [true, true] _ _ (by kernel_rfl) (all_t c2 (all_t c3 all_nil))) ?_, by simp, (wkR.one (wkV.one (wk1.eq rfl))), ⟨wkBox.cells (wkL.cons (wk1.whole rfl (by simp) rfl) wkL.nil), trivial⟩⟩
          intro p hp p2 hq
          rcases List.mem_cons.1 hp with rfl | hp
          · skip
            have h3 := l34_0_ok m (m + 24) x0 x1 0 _ (some_getD (d := l34_0D) c0)
            rw [eq_of_beq c1] at h3
            exact Eq.trans (Eq.mp (by kernel_rfl) h3) hq
          cases hp
        · skip
          cases h
      · skip
        cases h
    · skip
      refine ite_cases h (fun c2 h => ?_) (fun c2 h => ?_)
      · skip
        refine ite_cases h (fun c3 h => ?_) (fun c3 h => ?_)
        · skip
          refine ite_cases h (fun c4 h => ?_) (fun c4 h => ?_)
          · skip
            cases h
            refine ⟨(.d (.int .i64 (l34_0R m (m + 24) x0 x1 0).2)), [(.cells [(.sr 1 0 (List.length (List.drop (Int.toNat (l34_0R m (m + 24) x0 x1 0).2) (List.take (List.length x0) x0))) 2 none)]), (.arr (.pair (.int .i64) (.int .i64)) (List.drop (Int.toNat (l34_0R m (m + 24) x0 x1 0).2) (List.take (List.length x0) x0)) true)], runT_ok (LS := (fun k => if k = 35 then some (l34_0E x0 x1 ((l34_0R m (m + 24) x0 x1 0).2) 1) else none)) (fn := fn34) (vis := [(35, l34_0H x0 x1 0, l34_0B x0 x1 0)]) (by kernel_rfl) rfl (by kernel_rfl) (M.run_of_path _ [true, true] _ _ (by kernel_rfl) (all_t c3 (all_t c4 all_nil))) ?_, by simp, (wkR.one (wkV.one (wk1.eq rfl))), ⟨wkBox.cells (wkL.cons (wk1.whole rfl (by simp) rfl) wkL.nil), trivial⟩⟩
            intro p hp p2 hq
            rcases List.mem_cons.1 hp with rfl | hp
            · skip
              have h3 := l34_0_ok m (m + 24) x0 x1 0 _ (some_getD (d := l34_0D) c0)
              rw [eq_of_beq c2] at h3
              exact Eq.trans (Eq.mp (by kernel_rfl) h3) hq
            cases hp
          · skip
            cases h
        · skip
          cases h
      · skip
        cases h
  · skip
    cases h

/-- How many samples are before a time. -/
def cutN (l : SL) (b : Int) : Nat := uptoG l (b - 1)
theorem cut_loop (m : Nat) (l : SL) (b : Int) (hb : l.length ≤ 1000000) : ∀ (n k : Nat), k ≤ l.length → l.length - k < n → ∃ e, l34_0 m n l b (k : Nat) = some (e, ((k + cutN (l.drop k) b : Nat) : Int)) ∧ (e = 0 ∨ e = 1)
  | 0, k, _, h => by omega
  | n + 1, k, h1, h2 => by
    rw [l34_0]
    by_cases hk : k < l.length
    · have e1 : decide (((k : Nat) : Int) < (((List.length l) : Nat) : Int)) = true := decide_eq_true (by omega)
      have e2 : decide ((0 : Int) ≤ ((k : Nat) : Int)) = true := decide_eq_true (by omega)
      have e7 : IntKind.wrap .i64 (((k : Nat) : Int) + (1)) = ((k + 1 : Nat) : Int) := by rw [wrap_id (by omega) (by omega)]; rfl
      rw [drop_getD l k (0, 0) hk, Int.toNat_natCast, e7, if_pos e1, if_pos e2]
      generalize l.getD k (0, 0) = x
      unfold cutN
      by_cases hc : x.1 < b
      · obtain ⟨e, hr, he⟩ := cut_loop m l b hb n (k + 1) (by omega) (by omega)
        refine ⟨e, ?_, he⟩
        rw [if_pos (decide_eq_true hc), hr, upto_cons, if_pos (by omega)]
        unfold cutN
        rw [show k + 1 + uptoG (l.drop (k + 1)) (b - 1) = k + (uptoG (l.drop (k + 1)) (b - 1) + 1) by omega]
      · refine ⟨0, ?_, .inl rfl⟩
        rw [if_neg (by simpa using hc), upto_cons, if_neg (by omega)]
        rfl
    · have e1 : decide (((k : Nat) : Int) < (((List.length l) : Nat) : Int)) = false := decide_eq_false (by omega)
      rw [e1, if_neg (by simp), List.drop_eq_nil_of_le (by omega)]
      exact ⟨1, rfl, .inr rfl⟩
theorem cut34 (l : SL) (b : Int) (h : decide (l.length ≤ 1000000) = true) : ∃ m, p34 m l b = some (((cutN l b : Nat) : Int), l.drop (cutN l b)) := by
  have h := of_decide_eq_true h
  refine ⟨l.length, ?_⟩
  obtain ⟨e, hr, he⟩ := cut_loop l.length l b h (l.length + 24) 0 (by omega) (by omega)
  simp only [Int.natCast_zero, List.drop_zero, Nat.zero_add] at hr
  have hle : cutN l b ≤ l.length := upto_le l _
  unfold p34 l34_0R
  rw [hr]
  generalize cutN l b = k at hle
  have e1 : (decide ((0 : Int) ≤ ((k : Nat) : Int)) && decide (((k : Nat) : Int) ≤ (((List.length l) : Nat) : Int))) = true := by simp; omega
  have e2 : decide (((List.length (List.drop (Int.toNat ((k : Nat) : Int)) (List.take (List.length l) l))) * 16) ≤ 70368744177664) = true := decide_eq_true (by simp; omega)
  rcases he with rfl | rfl
  · simp only [e1, e2, Option.isSome_some, Option.getD_some, ↓reduceIte, beq_self_eq_true]
    simp
  · simp only [e1, e2, Option.isSome_some, Option.getD_some, ↓reduceIte, beq_self_eq_true]
    simp
def s34 : List AV → Boxes → M (AV × Boxes) := normS [.ptr, .val (.int .i64)] [(.sl (.pair (.int .i64) (.int .i64)))] fun xs B => match xs, B with
  | [(.ptr 0 0), (.d (.int .i64 c2))], [(.cells [(.d (.sl (.pair (.int .i64) (.int .i64)) c1))])] => .chk (decide (List.length c1 ≤ 1000000)) (.ret ((.d (.int .i64 ((cutN c1 c2 : Nat) : Int))), [(.cells [(.d (.sl (.pair (.int .i64) (.int .i64)) (List.drop (cutN c1 c2) c1)))])]))
  | _, _ => .fail
theorem s34_at : CallAt Try.prog 34 s34 := by
  refine CallAt.norm (CallAt.weakE (g := fun n => evCall F S8 n 34) (fun n => evCall_atH mixed kinds hds S8 S8_ok n 34) fun xs B r' B' hr => ?_) _ _
  split at hr
  · rename_i c2 c1
    obtain ⟨hp, hr⟩ := (M.run_chk _ _ _).1 hr
    simp only [M.run, Option.some.injEq, Prod.mk.injEq] at hr
    obtain ⟨rfl, rfl⟩ := hr
    obtain ⟨m, hm⟩ := cut34 c1 c2 hp
    obtain ⟨r, B1, h1, h2, h3, h4⟩ := p34_ok m c1 c2 _ hm
    exact ⟨m + 25, r, B1, h1, by simp, h2, h3, h4⟩
  · simp [M.run] at hr
noncomputable def S9 : FuncId → Option (List AV → Boxes → M (AV × Boxes)) := fun f => if f = 34 then some s34 else S8 f
set_option maxHeartbeats 20000000 in
theorem S9_ok : ∀ f s, S9 f = some s → CallAt Try.prog f s := by
  intro f s h
  unfold S9 at h
  split at h
  · rename_i e; subst e; cases h; exact s34_at
  · exact S8_ok f s h

noncomputable def fn35 : AFn := (F 35).getD ⟨0, [], .bad, false, false, noHd⟩
noncomputable def body35 : AC := fn35.body
def p35 (m : Nat) (x0 : List (Int × Int)) : Option ((List (Int × Int)) × (List (Int × Int))) :=
  if decide (((List.length x0) * 16) ≤ 70368744177664) = true then
    some ((List.take (List.length x0) (List.drop 0 x0)), x0)
  else
    none
set_option maxHeartbeats 20000000 in
theorem p35_ok (m : Nat) (x0 : List (Int × Int)) (q : (List (Int × Int)) × (List (Int × Int))) (h : p35 m x0 = some q) : ∃ r B1, (evCall F S9 (m + 25) 35 [(.ptr 0 0)] [(.cells [(.d (.sl (.pair (.int .i64) (.int .i64)) x0))])]).run = some (r, B1) ∧ 1 ≤ B1.length ∧ wkR B1 [(.cells [(.d (.sl (.pair (.int .i64) (.int .i64)) q.2))])] r (.d (.sl (.pair (.int .i64) (.int .i64)) q.1)) ∧ wkBs B1 [(.cells [(.d (.sl (.pair (.int .i64) (.int .i64)) q.2))])] 0 [(.cells [(.d (.sl (.pair (.int .i64) (.int .i64)) q.2))])] := by
  unfold p35 at h
  refine ite_cases h (fun c0 h => ?_) (fun c0 h => ?_)
  · skip
    cases h
    refine ⟨(.d (.sl (.pair (.int .i64) (.int .i64)) (List.take (List.length x0) (List.drop 0 x0)))), [(.cells [(.d (.sl (.pair (.int .i64) (.int .i64)) x0))])], runT_ok (LS := (fun k => none)) (fn := fn35) (vis := []) (by kernel_rfl) rfl (by kernel_rfl) (M.run_of_path _ [true, true] _ _ (by kernel_rfl) (all_t c0 (all_t (show decide ((0 + (List.length x0)) ≤ (List.length x0)) = true from decide_eq_true (Nat.le_of_eq (Nat.zero_add _))) all_nil))) ?_, by simp, (wkR.one (wkV.one (wk1.eq rfl))), ⟨wkBox.cells (wkL.cons (wk1.eq rfl) wkL.nil), trivial⟩⟩
    intro p hp; cases hp
  · skip
    cases h

theorem all35 (l : SL) (h : decide (l.length ≤ 1000000) = true) : ∃ m, p35 m l = some (l, l) := by
  have h := of_decide_eq_true h
  refine ⟨0, ?_⟩
  have e1 : decide (((List.length l) * 16) ≤ 70368744177664) = true := decide_eq_true (by omega)
  unfold p35
  rw [if_pos e1]
  simp
def s35 : List AV → Boxes → M (AV × Boxes) := normS [.ptr] [(.sl (.pair (.int .i64) (.int .i64)))] fun xs B => match xs, B with
  | [(.ptr 0 0)], [(.cells [(.d (.sl (.pair (.int .i64) (.int .i64)) c1))])] => .chk (decide (List.length c1 ≤ 1000000)) (.ret ((.d (.sl (.pair (.int .i64) (.int .i64)) c1)), [(.cells [(.d (.sl (.pair (.int .i64) (.int .i64)) c1))])]))
  | _, _ => .fail
theorem s35_at : CallAt Try.prog 35 s35 := by
  refine CallAt.norm (CallAt.weakE (g := fun n => evCall F S9 n 35) (fun n => evCall_atH mixed kinds hds S9 S9_ok n 35) fun xs B r' B' hr => ?_) _ _
  split at hr
  · rename_i c1
    obtain ⟨hp, hr⟩ := (M.run_chk _ _ _).1 hr
    simp only [M.run, Option.some.injEq, Prod.mk.injEq] at hr
    obtain ⟨rfl, rfl⟩ := hr
    obtain ⟨m, hm⟩ := all35 c1 hp
    obtain ⟨r, B1, h1, h2, h3, h4⟩ := p35_ok m c1 _ hm
    exact ⟨m + 25, r, B1, h1, by simp, h2, h3, h4⟩
  · simp [M.run] at hr
noncomputable def S10 : FuncId → Option (List AV → Boxes → M (AV × Boxes)) := fun f => if f = 35 then some s35 else S9 f
set_option maxHeartbeats 20000000 in
theorem S10_ok : ∀ f s, S10 f = some s → CallAt Try.prog f s := by
  intro f s h
  unfold S10 at h
  split at h
  · rename_i e; subst e; cases h; exact s35_at
  · exact S9_ok f s h

end Go.Proofs.Ytkppbflmlpabjab.Dec
namespace Go.Proofs.Ytkppbflmlpabjab.Dec
open Go.Ev
set_option linter.unusedVariables false
set_option linter.unusedSimpArgs false
set_option maxRecDepth 100000
noncomputable def fn33 : AFn := (F 33).getD ⟨0, [], .bad, false, false, noHd⟩
noncomputable def body33 : AC := fn33.body
def l33_0 (m : Nat) : Nat → List (Int × Int) → List (Int × Int) → Int → Option (Nat × Int)
  | 0, _, _, _ => none
  | n + 1, x0, x1, s5 => if decide (s5 < (((List.length x0) : Nat) : Int)) = true then
      if decide (0 ≤ s5) = true then
        if decide (s5 < (((List.length x1) : Nat) : Int)) = true then
          if (((List.getD x0 (Int.toNat s5) (0, 0)).1 == (List.getD x1 (Int.toNat s5) (0, 0)).1) && (((List.getD x0 (Int.toNat s5) (0, 0)).2 == (List.getD x1 (Int.toNat s5) (0, 0)).2) && true)) = true then
            l33_0 m n x0 x1 ((IntKind.wrap .i64 (s5 + (1))))
          else
            some (0, s5)
        else
          none
      else
        none
    else
      some (1, s5)
def l33_0D : Nat × Int := (0, 0)
@[reducible] def l33_0R (m n : Nat) (x0 : List (Int × Int)) (x1 : List (Int × Int)) (s5 : Int) : Nat × Int := Option.getD (l33_0 m n x0 x1 s5) l33_0D
def l33_0H (x0 : List (Int × Int)) (x1 : List (Int × Int)) (s5 : Int) : Env := [(.d (.sl (.pair (.int .i64) (.int .i64)) x0)), (.d (.sl (.pair (.int .i64) (.int .i64)) x1)), .top, .top, .top, (.d (.int .i64 s5)), .top, .top, .top, .top, .top, .top, .top, .top, .top, .top, .top, .top, .top, .top, .top, .top, .top, .top, .top, .top]
def l33_0B (x0 : List (Int × Int)) (x1 : List (Int × Int)) (s5 : Int) : Boxes := []
def l33_0E (x0 : List (Int × Int)) (x1 : List (Int × Int)) (s5 : Int) : Nat → AEx × Env × Boxes
  | 0 => (.ret, [(.d (.sl (.pair (.int .i64) (.int .i64)) x0)), (.d (.sl (.pair (.int .i64) (.int .i64)) x1)), .top, .top, (.d (.bool false)), (.d (.int .i64 s5)), .top, .top, .top, .top, .top, (.d (.int .i64 s5)), (.d (.sl (.pair (.int .i64) (.int .i64)) x0)), (.d (.int .i64 (((List.length x0) : Nat) : Int))), (.d (.bool (decide (s5 < (((List.length x0) : Nat) : Int))))), .top, .top, (.d (.sl (.pair (.int .i64) (.int .i64)) x0)), (.d (.int .i64 s5)), (.cptr [(.int .i64 (List.getD x0 (Int.toNat s5) (0, 0)).1), (.int .i64 (List.getD x0 (Int.toNat s5) (0, 0)).2)] 0), (.agg [(.d (.int .i64 (List.getD x0 (Int.toNat s5) (0, 0)).1)), (.d (.int .i64 (List.getD x0 (Int.toNat s5) (0, 0)).2))]), (.d (.sl (.pair (.int .i64) (.int .i64)) x1)), (.d (.int .i64 s5)), (.cptr [(.int .i64 (List.getD x1 (Int.toNat s5) (0, 0)).1), (.int .i64 (List.getD x1 (Int.toNat s5) (0, 0)).2)] 0), (.agg [(.d (.int .i64 (List.getD x1 (Int.toNat s5) (0, 0)).1)), (.d (.int .i64 (List.getD x1 (Int.toNat s5) (0, 0)).2))]), (.d (.bool (!(((List.getD x0 (Int.toNat s5) (0, 0)).1 == (List.getD x1 (Int.toNat s5) (0, 0)).1) && (((List.getD x0 (Int.toNat s5) (0, 0)).2 == (List.getD x1 (Int.toNat s5) (0, 0)).2) && true)))))], [.dead, .dead, .dead, .dead, .dead, .dead, .dead, .dead, .dead, .dead, .dead, .dead, .dead, .dead, .dead, .dead, .dead, .dead, .dead, .dead, .dead, .dead, .dead, .dead, .dead, .dead, .dead, .dead, .dead, .dead, .dead, .dead, .dead, .dead, .dead, .dead])
  | _ => (.exit 0, [(.d (.sl (.pair (.int .i64) (.int .i64)) x0)), (.d (.sl (.pair (.int .i64) (.int .i64)) x1)), .top, .top, .top, (.d (.int .i64 s5)), .top, .top, .top, .top, .top, (.d (.int .i64 s5)), (.d (.sl (.pair (.int .i64) (.int .i64)) x0)), (.d (.int .i64 (((List.length x0) : Nat) : Int))), (.d (.bool (decide (s5 < (((List.length x0) : Nat) : Int))))), .top, .top, .top, .top, .top, .top, .top, .top, .top, .top, .top], [])
noncomputable def lbl33_0 : AC := loopBody 35 body33

set_option maxHeartbeats 20000000 in
theorem l33_0_w0 (m n : Nat) (x0 : List (Int × Int)) (x1 : List (Int × Int)) (s5 : Int) (r : AEx × Env × Boxes) (c0 : decide (s5 < (((List.length x0) : Nat) : Int)) = true) (c1 : decide (0 ≤ s5) = true) (c4 : decide (s5 < (((List.length x1) : Nat) : Int)) = true) (c5 : (((List.getD x0 (Int.toNat s5) (0, 0)).1 == (List.getD x1 (Int.toNat s5) (0, 0)).1) && (((List.getD x0 (Int.toNat s5) (0, 0)).2 == (List.getD x1 (Int.toNat s5) (0, 0)).2) && true)) = true) (ih : (turns (hds 33 35) 0 35 (evC byref (evCall F S10 (m + 24)) (m + 24) 0 (hds 33) lbl33_0) n (l33_0H x0 x1 ((IntKind.wrap .i64 (s5 + (1))))) (l33_0B x0 x1 ((IntKind.wrap .i64 (s5 + (1)))))).run = some r) : (turns (hds 33 35) 0 35 (evC byref (evCall F S10 (m + 24)) (m + 24) 0 (hds 33) lbl33_0) (n + 1) (l33_0H x0 x1 s5) (l33_0B x0 x1 s5)).run = some r := by
  exact turns_step (M.run_of_path _ [true, true, true, true, true, false] _ _ (by kernel_rfl) (all_t c0 (all_t c1 (all_t c0 (all_t c1 (all_t c4 (all_nt c5 all_nil))))))) ih
set_option maxHeartbeats 20000000 in
theorem l33_0_w1 (m n : Nat) (x0 : List (Int × Int)) (x1 : List (Int × Int)) (s5 : Int) (c0 : decide (s5 < (((List.length x0) : Nat) : Int)) = true) (c1 : decide (0 ≤ s5) = true) (c4 : decide (s5 < (((List.length x1) : Nat) : Int)) = true) (c5 : ¬ (((List.getD x0 (Int.toNat s5) (0, 0)).1 == (List.getD x1 (Int.toNat s5) (0, 0)).1) && (((List.getD x0 (Int.toNat s5) (0, 0)).2 == (List.getD x1 (Int.toNat s5) (0, 0)).2) && true)) = true) : (turns (hds 33 35) 0 35 (evC byref (evCall F S10 (m + 24)) (m + 24) 0 (hds 33) lbl33_0) (n + 1) (l33_0H x0 x1 s5) (l33_0B x0 x1 s5)).run = some (.ret, [(.d (.sl (.pair (.int .i64) (.int .i64)) x0)), (.d (.sl (.pair (.int .i64) (.int .i64)) x1)), .top, .top, (.d (.bool false)), (.d (.int .i64 s5)), .top, .top, .top, .top, .top, (.d (.int .i64 s5)), (.d (.sl (.pair (.int .i64) (.int .i64)) x0)), (.d (.int .i64 (((List.length x0) : Nat) : Int))), (.d (.bool (decide (s5 < (((List.length x0) : Nat) : Int))))), .top, .top, (.d (.sl (.pair (.int .i64) (.int .i64)) x0)), (.d (.int .i64 s5)), (.cptr [(.int .i64 (List.getD x0 (Int.toNat s5) (0, 0)).1), (.int .i64 (List.getD x0 (Int.toNat s5) (0, 0)).2)] 0), (.agg [(.d (.int .i64 (List.getD x0 (Int.toNat s5) (0, 0)).1)), (.d (.int .i64 (List.getD x0 (Int.toNat s5) (0, 0)).2))]), (.d (.sl (.pair (.int .i64) (.int .i64)) x1)), (.d (.int .i64 s5)), (.cptr [(.int .i64 (List.getD x1 (Int.toNat s5) (0, 0)).1), (.int .i64 (List.getD x1 (Int.toNat s5) (0, 0)).2)] 0), (.agg [(.d (.int .i64 (List.getD x1 (Int.toNat s5) (0, 0)).1)), (.d (.int .i64 (List.getD x1 (Int.toNat s5) (0, 0)).2))]), (.d (.bool (!(((List.getD x0 (Int.toNat s5) (0, 0)).1 == (List.getD x1 (Int.toNat s5) (0, 0)).1) && (((List.getD x0 (Int.toNat s5) (0, 0)).2 == (List.getD x1 (Int.toNat s5) (0, 0)).2) && true)))))], [.dead, .dead, .dead, .dead, .dead, .dead, .dead, .dead, .dead, .dead, .dead, .dead, .dead, .dead, .dead, .dead, .dead, .dead, .dead, .dead, .dead, .dead, .dead, .dead, .dead, .dead, .dead, .dead, .dead, .dead, .dead, .dead, .dead, .dead, .dead, .dead]) := by
  exact turns_last (by simp) (M.run_of_path _ [true, true, true, true, true, true] _ _ (by kernel_rfl) (all_t c0 (all_t c1 (all_t c0 (all_t c1 (all_t c4 (all_nf c5 all_nil))))))) 
set_option maxHeartbeats 20000000 in
theorem l33_0_w2 (m n : Nat) (x0 : List (Int × Int)) (x1 : List (Int × Int)) (s5 : Int) (c0 : ¬ decide (s5 < (((List.length x0) : Nat) : Int)) = true) : (turns (hds 33 35) 0 35 (evC byref (evCall F S10 (m + 24)) (m + 24) 0 (hds 33) lbl33_0) (n + 1) (l33_0H x0 x1 s5) (l33_0B x0 x1 s5)).run = some (.exit 0, [(.d (.sl (.pair (.int .i64) (.int .i64)) x0)), (.d (.sl (.pair (.int .i64) (.int .i64)) x1)), .top, .top, .top, (.d (.int .i64 s5)), .top, .top, .top, .top, .top, (.d (.int .i64 s5)), (.d (.sl (.pair (.int .i64) (.int .i64)) x0)), (.d (.int .i64 (((List.length x0) : Nat) : Int))), (.d (.bool (decide (s5 < (((List.length x0) : Nat) : Int))))), .top, .top, .top, .top, .top, .top, .top, .top, .top, .top, .top], []) := by
  exact turns_last (by simp) (M.run_of_path _ [false] _ _ (by kernel_rfl) (all_f c0 all_nil)) 

set_option maxHeartbeats 20000000 in
theorem l33_0_step (m n : Nat) (ih : ∀ (x0 : List (Int × Int)) (x1 : List (Int × Int)) (s5 : Int) (q : Nat × Int), l33_0 m n x0 x1 s5 = some q → (turns (hds 33 35) 0 35 (evC byref (evCall F S10 (m + 24)) (m + 24) 0 (hds 33) lbl33_0) n (l33_0H x0 x1 s5) (l33_0B x0 x1 s5)).run = some (l33_0E (x0) (x1) (q.2) q.1)) (x0 : List (Int × Int)) (x1 : List (Int × Int)) (s5 : Int) (q : Nat × Int) (h : l33_0 m (n + 1) x0 x1 s5 = some q) : (turns (hds 33 35) 0 35 (evC byref (evCall F S10 (m + 24)) (m + 24) 0 (hds 33) lbl33_0) (n + 1) (l33_0H x0 x1 s5) (l33_0B x0 x1 s5)).run = some (l33_0E (x0) (x1) (q.2) q.1) := by
  rw [l33_0] at h
  refine ite_cases h (fun c0 h => ?_) (fun c0 h => ?_)
  · skip
    refine ite_cases h (fun c1 h => ?_) (fun c1 h => ?_)
    · skip
      refine ite_cases h (fun c4 h => ?_) (fun c4 h => ?_)
      · skip
        refine ite_cases h (fun c5 h => ?_) (fun c5 h => ?_)
        · skip
          exact l33_0_w0 m n x0 x1 s5 _ c0 c1 c4 c5 (ih _ _ _ q h)
        · skip
          cases h
          exact l33_0_w1 m n x0 x1 s5 c0 c1 c4 c5
      · skip
        cases h
    · skip
      cases h
  · skip
    cases h
    exact l33_0_w2 m n x0 x1 s5 c0
set_option maxHeartbeats 20000000 in
theorem l33_0_ok (m : Nat) : ∀ (n : Nat) (x0 : List (Int × Int)) (x1 : List (Int × Int)) (s5 : Int) (q : Nat × Int), l33_0 m n x0 x1 s5 = some q → (turns (hds 33 35) 0 35 (evC byref (evCall F S10 (m + 24)) (m + 24) 0 (hds 33) lbl33_0) n (l33_0H x0 x1 s5) (l33_0B x0 x1 s5)).run = some (l33_0E (x0) (x1) (q.2) q.1)
  | 0, x0, x1, s5, q, h => by cases h
  | n + 1, x0, x1, s5, q, h => l33_0_step m n (l33_0_ok m n) x0 x1 s5 q h

def p33 (m : Nat) (x0 : List (Int × Int)) (x1 : List (Int × Int)) : Option (Bool) :=
  if ((((List.length x0) : Nat) : Int) != (((List.length x1) : Nat) : Int)) = true then
    some (false)
  else
    if (Option.isSome (l33_0 m (m + 24) x0 x1 0)) = true then
      if ((l33_0R m (m + 24) x0 x1 0).1 == 0) = true then
        some (false)
      else
        if ((l33_0R m (m + 24) x0 x1 0).1 == 1) = true then
          some (true)
        else
          none
    else
      none
set_option maxHeartbeats 20000000 in
theorem p33_ok (m : Nat) (x0 : List (Int × Int)) (x1 : List (Int × Int)) (q : Bool) (h : p33 m x0 x1 = some q) : ∃ r B1, (evCall F S10 (m + 25) 33 [(.d (.sl (.pair (.int .i64) (.int .i64)) x0)), (.d (.sl (.pair (.int .i64) (.int .i64)) x1))] []).run = some (r, B1) ∧ 0 ≤ B1.length ∧ wkR B1 [] r (.d (.bool (q))) ∧ wkBs B1 [] 0 [] := by
  unfold p33 at h
  refine ite_cases h (fun c0 h => ?_) (fun c0 h => ?_)
  · skip
    cases h
    refine ⟨(.d (.bool false)), [], runT_ok (LS := (fun k => none)) (fn := fn33) (vis := []) (by kernel_rfl) rfl (by kernel_rfl) (M.run_of_path _ [true] _ _ (by kernel_rfl) (all_t c0 all_nil)) ?_, by simp, (wkR.one (wkV.one (wk1.eq rfl))), trivial⟩
    intro p hp; cases hp
  · skip
    refine ite_cases h (fun c1 h => ?_) (fun c1 h => ?_)
    · skip
      refine ite_cases h (fun c2 h => ?_) (fun c2 h => ?_)
      · skip
        cases h
        refine ⟨(.d (.bool false)), [], runT_ok (LS := (fun k => if k = 35 then some (l33_0E x0 x1 ((l33_0R m (m + 24) x0 x1 0).2) 0) else none)) (fn := fn33) (vis := [(35, l33_0H x0 x1 0, l33_0B x0 x1 0)]) (by kernel_rfl) rfl (by kernel_rfl) (M.run_of_path _ [false] _ _ (by kernel_rfl) (all_f c0 all_nil)) ?_, by simp, (wkR.one (wkV.one (wk1.eq rfl))), trivial⟩
        intro p hp p2 hq
        rcases List.mem_cons.1 hp with rfl | hp
        · skip
          have h3 := l33_0_ok m (m + 24) x0 x1 0 _ (some_getD (d := l33_0D) c1)
          rw [eq_of_beq c2] at h3
          exact Eq.trans (Eq.mp (by kernel_rfl) h3) hq
        cases hp
      · skip
        refine ite_cases h (fun c3 h => ?_) (fun c3 h => ?_)
        · skip
          cases h
          refine ⟨(.d (.bool true)), [], runT_ok (LS := (fun k => if k = 35 then some (l33_0E x0 x1 ((l33_0R m (m + 24) x0 x1 0).2) 1) else none)) (fn := fn33) (vis := [(35, l33_0H x0 x1 0, l33_0B x0 x1 0)]) (by kernel_rfl) rfl (by kernel_rfl) (M.run_of_path _ [false] _ _ (by kernel_rfl) (all_f c0 all_nil)) ?_, by simp, (wkR.one (wkV.one (wk1.eq rfl))), trivial⟩
          intro p hp p2 hq
          rcases List.mem_cons.1 hp with rfl | hp
          · skip
            have h3 := l33_0_ok m (m + 24) x0 x1 0 _ (some_getD (d := l33_0D) c1)
            rw [eq_of_beq c3] at h3
            exact Eq.trans (Eq.mp (by kernel_rfl) h3) hq
          cases hp
        · skip
          cases h
    · skip
      cases h

theorem eq33_loop (m : Nat) (a b : List (Int × Int)) (hl : a.length = b.length) (hb : a.length < 4611686018427387904) : ∀ n k, k ≤ a.length → a.length - k < n → ∃ j, l33_0 m n a b (k : Nat) = some (if a.drop k == b.drop k then 1 else 0, j)
  | 0, k, _, h => by omega
  | n + 1, k, hk, hn => by
    rw [l33_0]
    by_cases h : k < a.length
    · have hs : ∀ u v : Int × Int, ((u.1 == v.1) && ((u.2 == v.2) && true)) = (u == v) := fun u v => by rw [Bool.and_true]; rfl
      have e1 : decide (((k : Nat) : Int) < ((a.length : Nat) : Int)) = true := decide_eq_true (by omega)
      have e2 : decide ((0 : Int) ≤ ((k : Nat) : Int)) = true := decide_eq_true (by omega)
      have e3 : decide (((k : Nat) : Int) < ((b.length : Nat) : Int)) = true := decide_eq_true (by omega)
      simp only [e1, e2, e3, if_true, Int.toNat_natCast,hs]
      rw [drop_getD a k (0, 0) h, drop_getD b k (0, 0) (by omega)]
      have ew : IntKind.wrap .i64 (((k : Nat) : Int) + (1)) = ((k + 1 : Nat) : Int) := by rw [wrap_id (by omega) (by omega)]; rfl
      rw [ew]
      obtain ⟨j, hj⟩ := eq33_loop m a b hl hb n (k + 1) (by omega) (by omega)
      have hc : ((a.getD k (0, 0)) :: a.drop (k + 1) == (b.getD k (0, 0)) :: b.drop (k + 1)) = (((a.getD k (0, 0)) == (b.getD k (0, 0))) && (a.drop (k + 1) == b.drop (k + 1))) := rfl
      rw [hc]
      rcases Bool.eq_false_or_eq_true ((a.getD k (0, 0)) == (b.getD k (0, 0))) with he | he
      · exact ⟨j, by simp only [he, hj]; simp⟩
      · exact ⟨(k : Nat), by simp only [he]; simp⟩
    · have e1 : decide (((k : Nat) : Int) < ((a.length : Nat) : Int)) = false := decide_eq_false (by omega)
      refine ⟨(k : Nat), ?_⟩
      simp only [e1, Bool.false_eq_true, if_false]
      rw [List.drop_eq_nil_of_le (by omega), List.drop_eq_nil_of_le (by omega)]
      rfl
theorem eq33 (a b : List (Int × Int)) (h : decide (List.length a < 4611686018427387904) = true) : ∃ m, p33 m a b = some (a == b) := by
  have hb := of_decide_eq_true h
  refine ⟨a.length, ?_⟩
  unfold p33 l33_0R
  by_cases hl : a.length = b.length
  · have e0 : ((((List.length a) : Nat) : Int) != (((List.length b) : Nat) : Int)) = false := by simp [hl]
    obtain ⟨j, hj⟩ := eq33_loop a.length a b hl hb (a.length + 24) 0 (by omega) (by omega)
    simp only [Int.natCast_zero, List.drop_zero] at hj
    rw [e0]
    simp only [Bool.false_eq_true, if_false]
    rw [hj]
    cases hab : a == b <;> simp [hab]
  · have e0 : ((((List.length a) : Nat) : Int) != (((List.length b) : Nat) : Int)) = true := by simp; omega
    rw [e0]
    have : (a == b) = false := by
      rw [beq_eq_false_iff_ne]
      intro e; rw [e] at hl; exact hl rfl
    simp [this]
def s33 : List AV → Boxes → M (AV × Boxes) := normS [.val (.sl (.pair (.int .i64) (.int .i64))), .val (.sl (.pair (.int .i64) (.int .i64)))] [] fun xs B => match xs, B with
  | [(.d (.sl (.pair (.int .i64) (.int .i64)) c1)), (.d (.sl (.pair (.int .i64) (.int .i64)) c2))], [] => .chk (decide (List.length c1 < 4611686018427387904)) (.ret ((.d (.bool ((show List (Int × Int) from c1) == c2))), []))
  | _, _ => .fail
theorem s33_at : CallAt Try.prog 33 s33 := by
  refine CallAt.norm (CallAt.weakE (g := fun n => evCall F S10 n 33) (fun n => evCall_atH mixed kinds hds S10 S10_ok n 33) fun xs B r' B' hr => ?_) _ _
  split at hr
  · rename_i c1 c2
    obtain ⟨hp, hr⟩ := (M.run_chk _ _ _).1 hr
    simp only [M.run, Option.some.injEq, Prod.mk.injEq] at hr
    obtain ⟨rfl, rfl⟩ := hr
    obtain ⟨m, hm⟩ := eq33 c1 c2 hp
    obtain ⟨r, B1, h1, h2, h3, h4⟩ := p33_ok m c1 c2 _ hm
    exact ⟨m + 25, r, B1, h1, by simp, h2, h3, h4⟩
  · simp [M.run] at hr
noncomputable def S11 : FuncId → Option (List AV → Boxes → M (AV × Boxes)) := fun f => if f = 33 then some s33 else S10 f
set_option maxHeartbeats 20000000 in
theorem S11_ok : ∀ f s, S11 f = some s → CallAt Try.prog f s := by
  intro f s h
  unfold S11 at h
  split at h
  · rename_i e; subst e; cases h; exact s33_at
  · exact S10_ok f s h

end Go.Proofs.Ytkppbflmlpabjab.Dec
namespace Go.Proofs.Ytkppbflmlpabjab.Dec
open Go.Ev
set_option linter.unusedVariables false
set_option linter.unusedSimpArgs false
set_option maxRecDepth 100000
noncomputable def fn36 : AFn := (F 36).getD ⟨0, [], .bad, false, false, noHd⟩
noncomputable def body36 : AC := fn36.body
def l36_0 (m : Nat) : Nat → Int × Int → Int → List (Int × Int) → Option (Nat × Int × (List (Int × Int)))
  | 0, _, _, _ => none
  | n + 1, x1, s6, b1 => if decide (s6 < (((List.length b1) : Nat) : Int)) = true then
      if decide (0 ≤ s6) = true then
        if decide ((0 + (Int.toNat s6)) < (List.length b1)) = true then
          l36_0 m n x1 ((IntKind.wrap .i64 (s6 + (1)))) ((List.set b1 (0 + (Int.toNat s6)) x1))
        else
          none
      else
        none
    else
      some (0, s6, b1)
def l36_0D : Nat × Int × (List (Int × Int)) := (0, 0, [])
@[reducible] def l36_0R (m n : Nat) (x1 : Int × Int) (s6 : Int) (b1 : List (Int × Int)) : Nat × Int × (List (Int × Int)) := Option.getD (l36_0 m n x1 s6 b1) l36_0D
def l36_0H (x1 : Int × Int) (s6 : Int) (b1 : List (Int × Int)) : Env := [.top, .top, .top, (.ptr 0 0), .top, (.sr 1 0 (List.length b1) 2 none), (.d (.int .i64 s6)), .top, .top, .top, .top, .top, .top, .top, .top, .top, .top, .top, .top, .top, .top, .top, .top, .top, .top, .top, .top]
def l36_0B (x1 : Int × Int) (s6 : Int) (b1 : List (Int × Int)) : Boxes := [(.cells [(.d (.int .i64 x1.1)), (.d (.int .i64 x1.2))]), (.arr (.pair (.int .i64) (.int .i64)) b1 true)]
def l36_0E (x1 : Int × Int) (s6 : Int) (b1 : List (Int × Int)) : Nat → AEx × Env × Boxes
  | _ => (.exit 0, [.top, .top, .top, (.ptr 0 0), .top, (.sr 1 0 (List.length b1) 2 none), (.d (.int .i64 s6)), .top, .top, .top, .top, .top, .top, .top, .top, .top, (.d (.int .i64 s6)), (.sr 1 0 (List.length b1) 2 none), (.d (.int .i64 (((List.length b1) : Nat) : Int))), (.d (.bool (decide (s6 < (((List.length b1) : Nat) : Int))))), .top, .top, .top, .top, .top, .top, .top], [(.cells [(.d (.int .i64 x1.1)), (.d (.int .i64 x1.2))]), (.arr (.pair (.int .i64) (.int .i64)) b1 true)])
noncomputable def lbl36_0 : AC := loopBody 104 body36

set_option maxHeartbeats 20000000 in
theorem l36_0_w0 (m n : Nat) (x1 : Int × Int) (s6 : Int) (b1 : List (Int × Int)) (r : AEx × Env × Boxes) (c0 : decide (s6 < (((List.length b1) : Nat) : Int)) = true) (c1 : decide (0 ≤ s6) = true) (c3 : decide ((0 + (Int.toNat s6)) < (List.length b1)) = true) (ih : (turns (hds 36 104) 0 104 (evC byref (evCall F S11 (m + 24)) (m + 24) 0 (hds 36) lbl36_0) n (l36_0H x1 ((IntKind.wrap .i64 (s6 + (1)))) ((List.set b1 (0 + (Int.toNat s6)) x1))) (l36_0B x1 ((IntKind.wrap .i64 (s6 + (1)))) ((List.set b1 (0 + (Int.toNat s6)) x1)))).run = some r) : (turns (hds 36 104) 0 104 (evC byref (evCall F S11 (m + 24)) (m + 24) 0 (hds 36) lbl36_0) (n + 1) (l36_0H x1 s6 b1) (l36_0B x1 s6 b1)).run = some r := by
  have ht : (turn (hds 36 104) 0 104 (evC byref (evCall F S11 (m + 24)) (m + 24) 0 (hds 36) lbl36_0) (l36_0H x1 s6 b1) (l36_0B x1 s6 b1)).run = some (.normal, [.top, .top, .top, (.ptr 0 0), .top, (.sr 1 0 (List.length b1) 2 none), (.d (.int .i64 (IntKind.wrap .i64 (s6 + (1))))), .top, .top, .top, .top, .top, .top, .top, .top, .top, .top, .top, .top, .top, .top, .top, .top, .top, .top, .top, .top], [(.cells [(.d (.int .i64 x1.1)), (.d (.int .i64 x1.2))]), (.arr (.pair (.int .i64) (.int .i64)) (List.set b1 (0 + (Int.toNat s6)) x1) true)]) := M.run_of_path _ [true, true, true, true] _ _ (by kernel_rfl) (all_t c0 (all_t c1 (all_t c0 (all_t c3 all_nil))))
  refine turns_step ht (turns_eq ?_ ?_ ih)
  · unfold l36_0H
    simp
  · unfold l36_0B
    simp
set_option maxHeartbeats 20000000 in
theorem l36_0_w1 (m n : Nat) (x1 : Int × Int) (s6 : Int) (b1 : List (Int × Int)) (c0 : ¬ decide (s6 < (((List.length b1) : Nat) : Int)) = true) : (turns (hds 36 104) 0 104 (evC byref (evCall F S11 (m + 24)) (m + 24) 0 (hds 36) lbl36_0) (n + 1) (l36_0H x1 s6 b1) (l36_0B x1 s6 b1)).run = some (.exit 0, [.top, .top, .top, (.ptr 0 0), .top, (.sr 1 0 (List.length b1) 2 none), (.d (.int .i64 s6)), .top, .top, .top, .top, .top, .top, .top, .top, .top, (.d (.int .i64 s6)), (.sr 1 0 (List.length b1) 2 none), (.d (.int .i64 (((List.length b1) : Nat) : Int))), (.d (.bool (decide (s6 < (((List.length b1) : Nat) : Int))))), .top, .top, .top, .top, .top, .top, .top], [(.cells [(.d (.int .i64 x1.1)), (.d (.int .i64 x1.2))]), (.arr (.pair (.int .i64) (.int .i64)) b1 true)]) := by
  exact turns_last (by simp) (M.run_of_path _ [false] _ _ (by kernel_rfl) (all_f c0 all_nil)) 

set_option maxHeartbeats 20000000 in
theorem l36_0_step (m n : Nat) (ih : ∀ (x1 : Int × Int) (s6 : Int) (b1 : List (Int × Int)) (q : Nat × Int × (List (Int × Int))), l36_0 m n x1 s6 b1 = some q → (turns (hds 36 104) 0 104 (evC byref (evCall F S11 (m + 24)) (m + 24) 0 (hds 36) lbl36_0) n (l36_0H x1 s6 b1) (l36_0B x1 s6 b1)).run = some (l36_0E (x1) (q.2.1) (q.2.2) q.1)) (x1 : Int × Int) (s6 : Int) (b1 : List (Int × Int)) (q : Nat × Int × (List (Int × Int))) (h : l36_0 m (n + 1) x1 s6 b1 = some q) : (turns (hds 36 104) 0 104 (evC byref (evCall F S11 (m + 24)) (m + 24) 0 (hds 36) lbl36_0) (n + 1) (l36_0H x1 s6 b1) (l36_0B x1 s6 b1)).run = some (l36_0E (x1) (q.2.1) (q.2.2) q.1) := by
  rw [l36_0] at h
  refine ite_cases h (fun c0 h => ?_) (fun c0 h => ?_)
  · skip
    refine ite_cases h (fun c1 h => ?_) (fun c1 h => ?_)
    · skip
      refine ite_cases h (fun c3 h => ?_) (fun c3 h => ?_)
      · skip
        exact l36_0_w0 m n x1 s6 b1 _ c0 c1 c3 (ih _ _ _ q h)
      · skip
        cases h
    · skip
      cases h
  · skip
    cases h
    exact l36_0_w1 m n x1 s6 b1 c0
set_option maxHeartbeats 20000000 in
theorem l36_0_ok (m : Nat) : ∀ (n : Nat) (x1 : Int × Int) (s6 : Int) (b1 : List (Int × Int)) (q : Nat × Int × (List (Int × Int))), l36_0 m n x1 s6 b1 = some q → (turns (hds 36 104) 0 104 (evC byref (evCall F S11 (m + 24)) (m + 24) 0 (hds 36) lbl36_0) n (l36_0H x1 s6 b1) (l36_0B x1 s6 b1)).run = some (l36_0E (x1) (q.2.1) (q.2.2) q.1)
  | 0, x1, s6, b1, q, h => by cases h
  | n + 1, x1, s6, b1, q, h => l36_0_step m n (l36_0_ok m n) x1 s6 b1 q h

def p36 (m : Nat) (x0 : List (Int × Int)) (x1 : Int × Int) : Option ((List (Int × Int))) :=
  if (decide (0 ≤ (IntKind.wrap .i64 ((((List.length x0) : Nat) : Int) + (80)))) && decide ((IntKind.wrap .i64 ((((List.length x0) : Nat) : Int) + (80))) ≤ (IntKind.wrap .i64 ((((List.length x0) : Nat) : Int) + (80))))) = true then
    if (decide (((IntKind.wrap .i64 ((((List.length x0) : Nat) : Int) + (80))) * 16) ≤ 70368744177664) && decide ((IntKind.wrap .i64 ((((List.length x0) : Nat) : Int) + (80))) ≤ 70368744177664)) = true then
      if decide (0 ≤ (List.length (List.replicate (Int.toNat (IntKind.wrap .i64 ((((List.length x0) : Nat) : Int) + (80)))) (0, 0)))) = true then
        if decide ((min (List.length x0) (Int.toNat (IntKind.wrap .i64 ((((List.length x0) : Nat) : Int) + (80))))) ≤ (List.length x0)) = true then
          if (Option.isSome (l36_0 m (m + 24) x1 ((((List.length x0) : Nat) : Int)) ((splice (List.replicate (Int.toNat (IntKind.wrap .i64 ((((List.length x0) : Nat) : Int) + (80)))) (0, 0)) 0 (List.take (min (List.length x0) (Int.toNat (IntKind.wrap .i64 ((((List.length x0) : Nat) : Int) + (80))))) x0))))) = true then
            some ((List.take (List.length (l36_0R m (m + 24) x1 ((((List.length x0) : Nat) : Int)) ((splice (List.replicate (Int.toNat (IntKind.wrap .i64 ((((List.length x0) : Nat) : Int) + (80)))) (0, 0)) 0 (List.take (min (List.length x0) (Int.toNat (IntKind.wrap .i64 ((((List.length x0) : Nat) : Int) + (80))))) x0)))).2.2) (List.drop 0 (l36_0R m (m + 24) x1 ((((List.length x0) : Nat) : Int)) ((splice (List.replicate (Int.toNat (IntKind.wrap .i64 ((((List.length x0) : Nat) : Int) + (80)))) (0, 0)) 0 (List.take (min (List.length x0) (Int.toNat (IntKind.wrap .i64 ((((List.length x0) : Nat) : Int) + (80))))) x0)))).2.2)))
          else
            none
        else
          none
      else
        none
    else
      none
  else
    none
set_option maxHeartbeats 20000000 in
theorem p36_ok (m : Nat) (x0 : List (Int × Int)) (x1 : Int × Int) (q : (List (Int × Int))) (h : p36 m x0 x1 = some q) : ∃ r B1, (evCall F S11 (m + 25) 36 [(.d (.sl (.pair (.int .i64) (.int .i64)) x0)), (.agg [(.d (.int .i64 x1.1)), (.d (.int .i64 x1.2))])] []).run = some (r, B1) ∧ 0 ≤ B1.length ∧ wkR B1 [] r (.d (.sl (.pair (.int .i64) (.int .i64)) q)) ∧ wkBs B1 [] 0 [] := by
  unfold p36 at h
  refine ite_cases h (fun c0 h => ?_) (fun c0 h => ?_)
  · skip
    refine ite_cases h (fun c1 h => ?_) (fun c1 h => ?_)
    · skip
      refine ite_cases h (fun c2 h => ?_) (fun c2 h => ?_)
      · skip
        refine ite_cases h (fun c3 h => ?_) (fun c3 h => ?_)
        · skip
          refine ite_cases h (fun c4 h => ?_) (fun c4 h => ?_)
          · skip
            cases h
            refine ⟨(.d (.sl (.pair (.int .i64) (.int .i64)) (List.take (List.length (l36_0R m (m + 24) x1 ((((List.length x0) : Nat) : Int)) ((splice (List.replicate (Int.toNat (IntKind.wrap .i64 ((((List.length x0) : Nat) : Int) + (80)))) (0, 0)) 0 (List.take (min (List.length x0) (Int.toNat (IntKind.wrap .i64 ((((List.length x0) : Nat) : Int) + (80))))) x0)))).2.2) (List.drop 0 (l36_0R m (m + 24) x1 ((((List.length x0) : Nat) : Int)) ((splice (List.replicate (Int.toNat (IntKind.wrap .i64 ((((List.length x0) : Nat) : Int) + (80)))) (0, 0)) 0 (List.take (min (List.length x0) (Int.toNat (IntKind.wrap .i64 ((((List.length x0) : Nat) : Int) + (80))))) x0)))).2.2)))), [], runT_ok (LS := (fun k => if k = 104 then some (l36_0E x1 ((l36_0R m (m + 24) x1 ((((List.length x0) : Nat) : Int)) ((splice (List.replicate (Int.toNat (IntKind.wrap .i64 ((((List.length x0) : Nat) : Int) + (80)))) (0, 0)) 0 (List.take (min (List.length x0) (Int.toNat (IntKind.wrap .i64 ((((List.length x0) : Nat) : Int) + (80))))) x0)))).2.1) ((l36_0R m (m + 24) x1 ((((List.length x0) : Nat) : Int)) ((splice (List.replicate (Int.toNat (IntKind.wrap .i64 ((((List.length x0) : Nat) : Int) + (80)))) (0, 0)) 0 (List.take (min (List.length x0) (Int.toNat (IntKind.wrap .i64 ((((List.length x0) : Nat) : Int) + (80))))) x0)))).2.2) 0) else none)) (fn := fn36) (vis := [(104, [.top, .top, .top, (.ptr 0 0), .top, (.sr 1 0 (Int.toNat (IntKind.wrap .i64 ((((List.length x0) : Nat) : Int) + (80)))) 2 none), (.d (.int .i64 (((List.length x0) : Nat) : Int))), .top, .top, .top, .top, .top, .top, .top, .top, .top, .top, .top, .top, .top, .top, .top, .top, .top, .top, .top, .top], [(.cells [(.d (.int .i64 x1.1)), (.d (.int .i64 x1.2))]), (.arr (.pair (.int .i64) (.int .i64)) (splice (List.replicate (Int.toNat (IntKind.wrap .i64 ((((List.length x0) : Nat) : Int) + (80)))) (0, 0)) 0 (List.take (min (List.length x0) (Int.toNat (IntKind.wrap .i64 ((((List.length x0) : Nat) : Int) + (80))))) x0)) true)])]) (by kernel_rfl) rfl (by kernel_rfl) (M.run_of_path _ [true, true, true, true, true] _ _ (by kernel_rfl) (all_t c0 (all_t c1 (all_t c2 (all_t c3 (all_t (show decide ((0 + (List.length (l36_0R m (m + 24) x1 ((((List.length x0) : Nat) : Int)) ((splice (List.replicate (Int.toNat (IntKind.wrap .i64 ((((List.length x0) : Nat) : Int) + (80)))) (0, 0)) 0 (List.take (min (List.length x0) (Int.toNat (IntKind.wrap .i64 ((((List.length x0) : Nat) : Int) + (80))))) x0)))).2.2)) ≤ (List.length (l36_0R m (m + 24) x1 ((((List.length x0) : Nat) : Int)) ((splice (List.replicate (Int.toNat (IntKind.wrap .i64 ((((List.length x0) : Nat) : Int) + (80)))) (0, 0)) 0 (List.take (min (List.length x0) (Int.toNat (IntKind.wrap .i64 ((((List.length x0) : Nat) : Int) + (80))))) x0)))).2.2)) = true from decide_eq_true (Nat.le_of_eq (Nat.zero_add _))) all_nil)))))) ?_, by simp, (wkR.one (wkV.one (wk1.eq rfl))), trivial⟩
            intro p hp p2 hq
            rcases List.mem_cons.1 hp with rfl | hp
            · skip
              have h3 := l36_0_ok m (m + 24) x1 ((((List.length x0) : Nat) : Int)) ((splice (List.replicate (Int.toNat (IntKind.wrap .i64 ((((List.length x0) : Nat) : Int) + (80)))) (0, 0)) 0 (List.take (min (List.length x0) (Int.toNat (IntKind.wrap .i64 ((((List.length x0) : Nat) : Int) + (80))))) x0))) _ (some_getD (d := l36_0D) c4)
              have h3 := turns_eq (e := [.top, .top, .top, (.ptr 0 0), .top, (.sr 1 0 (Int.toNat (IntKind.wrap .i64 ((((List.length x0) : Nat) : Int) + (80)))) 2 none), (.d (.int .i64 (((List.length x0) : Nat) : Int))), .top, .top, .top, .top, .top, .top, .top, .top, .top, .top, .top, .top, .top, .top, .top, .top, .top, .top, .top, .top]) (B := [(.cells [(.d (.int .i64 x1.1)), (.d (.int .i64 x1.2))]), (.arr (.pair (.int .i64) (.int .i64)) (splice (List.replicate (Int.toNat (IntKind.wrap .i64 ((((List.length x0) : Nat) : Int) + (80)))) (0, 0)) 0 (List.take (min (List.length x0) (Int.toNat (IntKind.wrap .i64 ((((List.length x0) : Nat) : Int) + (80))))) x0)) true)]) (by unfold l36_0H; (try rw [show (List.length (splice (List.replicate (Int.toNat (IntKind.wrap .i64 ((((List.length x0) : Nat) : Int) + (80)))) (0, 0)) 0 (List.take (min (List.length x0) (Int.toNat (IntKind.wrap .i64 ((((List.length x0) : Nat) : Int) + (80))))) x0))) = (Int.toNat (IntKind.wrap .i64 ((((List.length x0) : Nat) : Int) + (80)))) from by simp [splice] <;> omega])) rfl h3
              exact Eq.trans (Eq.mp (by kernel_rfl) h3) hq
            cases hp
          · skip
            cases h
        · skip
          cases h
      · skip
        cases h
    · skip
      cases h
  · skip
    cases h

/-- A list with room behind it. -/
def sroomyG (l : SL) (z : Int × Int) : SL := l ++ List.replicate 80 z
theorem sroomy_loop (m : Nat) (z : Int × Int) : ∀ (n : Nat) (pre post : SL), post.length < n → pre.length + post.length ≤ 2000000 → ∃ j, l36_0 m n z ((pre.length : Nat) : Int) (pre ++ post) = some (0, j, pre ++ List.replicate post.length z)
  | 0, pre, post, h, _ => by omega
  | n + 1, pre, [], h, hb => by
    rw [l36_0]
    have e1 : decide (((pre.length : Nat) : Int) < (((List.length (pre ++ [])) : Nat) : Int)) = false := decide_eq_false (by simp)
    rw [e1, if_neg (by simp)]
    exact ⟨_, rfl⟩
  | n + 1, pre, x :: post, h, hb => by
    rw [l36_0]
    simp only [List.length_cons] at h hb
    have e1 : decide (((pre.length : Nat) : Int) < (((List.length (pre ++ x :: post)) : Nat) : Int)) = true := decide_eq_true (by simp; omega)
    have e2 : decide ((0 : Int) ≤ ((pre.length : Nat) : Int)) = true := decide_eq_true (by omega)
    have e3 : decide ((0 + pre.length) < (List.length (pre ++ x :: post))) = true := decide_eq_true (by simp)
    have e7 : IntKind.wrap .i64 (((pre.length : Nat) : Int) + (1)) = (((pre ++ [z]).length : Nat) : Int) := by rw [wrap_id (by omega) (by omega)]; simp
    have e8 : (pre ++ x :: post).set (0 + pre.length) z = (pre ++ [z]) ++ post := by simp
    rw [show Int.toNat ((pre.length : Nat) : Int) = pre.length from rfl, e7, e8, if_pos e1, if_pos e2, if_pos e3]
    obtain ⟨j, hj⟩ := sroomy_loop m z n (pre ++ [z]) post (by omega) (by simp; omega)
    exact ⟨j, by rw [hj]; simp [List.replicate_succ]⟩
theorem sroomy36 (l : SL) (z : Int × Int) (h : decide (l.length ≤ 1000000) = true) : ∃ m, p36 m l z = some (sroomyG l z) := by
  have h := of_decide_eq_true h
  refine ⟨100, ?_⟩
  have ew : IntKind.wrap .i64 ((((List.length l) : Nat) : Int) + (80)) = ((l.length + 80 : Nat) : Int) := by rw [wrap_id (by omega) (by omega)]; rfl
  have et : Int.toNat ((l.length + 80 : Nat) : Int) = l.length + 80 := rfl
  have em : min (List.length l) (l.length + 80) = l.length := by omega
  have es : splice (List.replicate (l.length + 80) ((0, 0) : Int × Int)) 0 (List.take l.length l) = l ++ List.replicate 80 ((0, 0) : Int × Int) := by
    simp [splice, List.drop_replicate]
  obtain ⟨j, hj⟩ := sroomy_loop 100 z (100 + 24) l (List.replicate 80 ((0, 0) : Int × Int)) (by simp) (by simp; omega)
  simp only [List.length_replicate] at hj
  have e1 : (decide ((0 : Int) ≤ ((l.length + 80 : Nat) : Int)) && decide (((l.length + 80 : Nat) : Int) ≤ ((l.length + 80 : Nat) : Int))) = true := by simp; omega
  have e2 : (decide ((((l.length + 80 : Nat) : Int) * 16) ≤ 70368744177664) && decide (((l.length + 80 : Nat) : Int) ≤ 70368744177664)) = true := by simp; omega
  have e3 : decide (0 ≤ (List.length (List.replicate (l.length + 80) ((0, 0) : Int × Int)))) = true := decide_eq_true (by omega)
  have e4 : decide (l.length ≤ l.length) = true := decide_eq_true (by omega)
  unfold p36 l36_0R sroomyG
  generalize List.replicate 80 z = R at *
  simp only [ew, et, em, es, e1, e2, e3, e4, hj, Option.isSome_some, Option.getD_some, ↓reduceIte]
  rw [List.drop_zero, List.take_length]
  rfl
def s36 : List AV → Boxes → M (AV × Boxes) := normS [.val (.sl (.pair (.int .i64) (.int .i64))), .val (.pair (.int .i64) (.int .i64))] [] fun xs B => match xs, B with
  | [(.d (.sl (.pair (.int .i64) (.int .i64)) c1)), (.agg [(.d (.int .i64 c2)), (.d (.int .i64 c3))])], [] => .chk (decide (List.length c1 ≤ 1000000)) (.ret ((.d (.sl (.pair (.int .i64) (.int .i64)) (sroomyG c1 ((c2, c3))))), []))
  | _, _ => .fail
theorem s36_at : CallAt Try.prog 36 s36 := by
  refine CallAt.norm (CallAt.weakE (g := fun n => evCall F S11 n 36) (fun n => evCall_atH mixed kinds hds S11 S11_ok n 36) fun xs B r' B' hr => ?_) _ _
  split at hr
  · rename_i c1 c2 c3
    obtain ⟨hp, hr⟩ := (M.run_chk _ _ _).1 hr
    simp only [M.run, Option.some.injEq, Prod.mk.injEq] at hr
    obtain ⟨rfl, rfl⟩ := hr
    obtain ⟨m, hm⟩ := sroomy36 c1 ((c2, c3)) hp
    obtain ⟨r, B1, h1, h2, h3, h4⟩ := p36_ok m c1 ((c2, c3)) _ hm
    exact ⟨m + 25, r, B1, h1, by simp, h2, h3, h4⟩
  · simp [M.run] at hr
noncomputable def S12 : FuncId → Option (List AV → Boxes → M (AV × Boxes)) := fun f => if f = 36 then some s36 else S11 f
set_option maxHeartbeats 20000000 in
theorem S12_ok : ∀ f s, S12 f = some s → CallAt Try.prog f s := by
  intro f s h
  unfold S12 at h
  split at h
  · rename_i e; subst e; cases h; exact s36_at
  · exact S11_ok f s h

noncomputable def fn37 : AFn := (F 37).getD ⟨0, [], .bad, false, false, noHd⟩
noncomputable def body37 : AC := fn37.body
def l37_0 (m : Nat) : Nat → List (Int × Int) → Int × Int → Int → Option (Nat × Int)
  | 0, _, _, _ => none
  | n + 1, x0, x2, s7 => if decide (s7 < (((List.length x0) : Nat) : Int)) = true then
      if decide (0 ≤ s7) = true then
        if (((List.getD x0 (Int.toNat s7) (0, 0)).1 == x2.1) && (((List.getD x0 (Int.toNat s7) (0, 0)).2 == x2.2) && true)) = true then
          l37_0 m n x0 x2 ((IntKind.wrap .i64 (s7 + (1))))
        else
          some (0, s7)
      else
        none
    else
      some (1, s7)
def l37_0D : Nat × Int := (0, 0)
@[reducible] def l37_0R (m n : Nat) (x0 : List (Int × Int)) (x2 : Int × Int) (s7 : Int) : Nat × Int := Option.getD (l37_0 m n x0 x2 s7) l37_0D
def l37_0H (x0 : List (Int × Int)) (x2 : Int × Int) (s7 : Int) : Env := [(.d (.sl (.pair (.int .i64) (.int .i64)) x0)), .top, .top, .top, .top, (.ptr 0 0), .top, (.d (.int .i64 s7)), .top, .top, .top, .top, .top, .top, .top, .top, .top, .top, .top, .top, .top, .top, .top, .top, .top, .top, .top, .top, .top, .top, .top, .top, .top, .top, .top, .top, .top]
def l37_0B (x0 : List (Int × Int)) (x2 : Int × Int) (s7 : Int) : Boxes := [(.cells [(.d (.int .i64 x2.1)), (.d (.int .i64 x2.2))])]
def l37_0E (x0 : List (Int × Int)) (x2 : Int × Int) (s7 : Int) : Nat → AEx × Env × Boxes
  | 0 => (.ret, [(.d (.sl (.pair (.int .i64) (.int .i64)) x0)), .top, .top, .top, .top, (.ptr 0 0), (.d (.bool false)), (.d (.int .i64 s7)), .top, .top, .top, .top, .top, .top, .top, .top, .top, .top, .top, .top, .top, .top, .top, .top, .top, (.d (.int .i64 s7)), (.d (.sl (.pair (.int .i64) (.int .i64)) x0)), (.d (.int .i64 (((List.length x0) : Nat) : Int))), (.d (.bool (decide (s7 < (((List.length x0) : Nat) : Int))))), .top, .top, (.d (.sl (.pair (.int .i64) (.int .i64)) x0)), (.d (.int .i64 s7)), (.cptr [(.int .i64 (List.getD x0 (Int.toNat s7) (0, 0)).1), (.int .i64 (List.getD x0 (Int.toNat s7) (0, 0)).2)] 0), (.agg [(.d (.int .i64 (List.getD x0 (Int.toNat s7) (0, 0)).1)), (.d (.int .i64 (List.getD x0 (Int.toNat s7) (0, 0)).2))]), (.agg [(.d (.int .i64 x2.1)), (.d (.int .i64 x2.2))]), (.d (.bool (!(((List.getD x0 (Int.toNat s7) (0, 0)).1 == x2.1) && (((List.getD x0 (Int.toNat s7) (0, 0)).2 == x2.2) && true)))))], [(.cells [(.d (.int .i64 x2.1)), (.d (.int .i64 x2.2))]), .dead, .dead, .dead, .dead, .dead, .dead, .dead, .dead, .dead, .dead, .dead, .dead, .dead, .dead, .dead, .dead, .dead, .dead, .dead, .dead, .dead, .dead, .dead, .dead])
  | _ => (.exit 0, [(.d (.sl (.pair (.int .i64) (.int .i64)) x0)), .top, .top, .top, .top, (.ptr 0 0), .top, (.d (.int .i64 s7)), .top, .top, .top, .top, .top, .top, .top, .top, .top, .top, .top, .top, .top, .top, .top, .top, .top, (.d (.int .i64 s7)), (.d (.sl (.pair (.int .i64) (.int .i64)) x0)), (.d (.int .i64 (((List.length x0) : Nat) : Int))), (.d (.bool (decide (s7 < (((List.length x0) : Nat) : Int))))), .top, .top, .top, .top, .top, .top, .top, .top], [(.cells [(.d (.int .i64 x2.1)), (.d (.int .i64 x2.2))])])
noncomputable def lbl37_0 : AC := loopBody 161 body37

set_option maxHeartbeats 20000000 in
theorem l37_0_w0 (m n : Nat) (x0 : List (Int × Int)) (x2 : Int × Int) (s7 : Int) (r : AEx × Env × Boxes) (c0 : decide (s7 < (((List.length x0) : Nat) : Int)) = true) (c1 : decide (0 ≤ s7) = true) (c3 : (((List.getD x0 (Int.toNat s7) (0, 0)).1 == x2.1) && (((List.getD x0 (Int.toNat s7) (0, 0)).2 == x2.2) && true)) = true) (ih : (turns (hds 37 161) 0 161 (evC byref (evCall F S12 (m + 24)) (m + 24) 0 (hds 37) lbl37_0) n (l37_0H x0 x2 ((IntKind.wrap .i64 (s7 + (1))))) (l37_0B x0 x2 ((IntKind.wrap .i64 (s7 + (1)))))).run = some r) : (turns (hds 37 161) 0 161 (evC byref (evCall F S12 (m + 24)) (m + 24) 0 (hds 37) lbl37_0) (n + 1) (l37_0H x0 x2 s7) (l37_0B x0 x2 s7)).run = some r := by
  exact turns_step (M.run_of_path _ [true, true, true, false] _ _ (by kernel_rfl) (all_t c0 (all_t c1 (all_t c0 (all_nt c3 all_nil))))) ih
set_option maxHeartbeats 20000000 in
theorem l37_0_w1 (m n : Nat) (x0 : List (Int × Int)) (x2 : Int × Int) (s7 : Int) (c0 : decide (s7 < (((List.length x0) : Nat) : Int)) = true) (c1 : decide (0 ≤ s7) = true) (c3 : ¬ (((List.getD x0 (Int.toNat s7) (0, 0)).1 == x2.1) && (((List.getD x0 (Int.toNat s7) (0, 0)).2 == x2.2) && true)) = true) : (turns (hds 37 161) 0 161 (evC byref (evCall F S12 (m + 24)) (m + 24) 0 (hds 37) lbl37_0) (n + 1) (l37_0H x0 x2 s7) (l37_0B x0 x2 s7)).run = some (.ret, [(.d (.sl (.pair (.int .i64) (.int .i64)) x0)), .top, .top, .top, .top, (.ptr 0 0), (.d (.bool false)), (.d (.int .i64 s7)), .top, .top, .top, .top, .top, .top, .top, .top, .top, .top, .top, .top, .top, .top, .top, .top, .top, (.d (.int .i64 s7)), (.d (.sl (.pair (.int .i64) (.int .i64)) x0)), (.d (.int .i64 (((List.length x0) : Nat) : Int))), (.d (.bool (decide (s7 < (((List.length x0) : Nat) : Int))))), .top, .top, (.d (.sl (.pair (.int .i64) (.int .i64)) x0)), (.d (.int .i64 s7)), (.cptr [(.int .i64 (List.getD x0 (Int.toNat s7) (0, 0)).1), (.int .i64 (List.getD x0 (Int.toNat s7) (0, 0)).2)] 0), (.agg [(.d (.int .i64 (List.getD x0 (Int.toNat s7) (0, 0)).1)), (.d (.int .i64 (List.getD x0 (Int.toNat s7) (0, 0)).2))]), (.agg [(.d (.int .i64 x2.1)), (.d (.int .i64 x2.2))]), (.d (.bool (!(((List.getD x0 (Int.toNat s7) (0, 0)).1 == x2.1) && (((List.getD x0 (Int.toNat s7) (0, 0)).2 == x2.2) && true)))))], [(.cells [(.d (.int .i64 x2.1)), (.d (.int .i64 x2.2))]), .dead, .dead, .dead, .dead, .dead, .dead, .dead, .dead, .dead, .dead, .dead, .dead, .dead, .dead, .dead, .dead, .dead, .dead, .dead, .dead, .dead, .dead, .dead, .dead]) := by
  exact turns_last (by simp) (M.run_of_path _ [true, true, true, true] _ _ (by kernel_rfl) (all_t c0 (all_t c1 (all_t c0 (all_nf c3 all_nil))))) 
set_option maxHeartbeats 20000000 in
theorem l37_0_w2 (m n : Nat) (x0 : List (Int × Int)) (x2 : Int × Int) (s7 : Int) (c0 : ¬ decide (s7 < (((List.length x0) : Nat) : Int)) = true) : (turns (hds 37 161) 0 161 (evC byref (evCall F S12 (m + 24)) (m + 24) 0 (hds 37) lbl37_0) (n + 1) (l37_0H x0 x2 s7) (l37_0B x0 x2 s7)).run = some (.exit 0, [(.d (.sl (.pair (.int .i64) (.int .i64)) x0)), .top, .top, .top, .top, (.ptr 0 0), .top, (.d (.int .i64 s7)), .top, .top, .top, .top, .top, .top, .top, .top, .top, .top, .top, .top, .top, .top, .top, .top, .top, (.d (.int .i64 s7)), (.d (.sl (.pair (.int .i64) (.int .i64)) x0)), (.d (.int .i64 (((List.length x0) : Nat) : Int))), (.d (.bool (decide (s7 < (((List.length x0) : Nat) : Int))))), .top, .top, .top, .top, .top, .top, .top, .top], [(.cells [(.d (.int .i64 x2.1)), (.d (.int .i64 x2.2))])]) := by
  exact turns_last (by simp) (M.run_of_path _ [false] _ _ (by kernel_rfl) (all_f c0 all_nil)) 

set_option maxHeartbeats 20000000 in
theorem l37_0_step (m n : Nat) (ih : ∀ (x0 : List (Int × Int)) (x2 : Int × Int) (s7 : Int) (q : Nat × Int), l37_0 m n x0 x2 s7 = some q → (turns (hds 37 161) 0 161 (evC byref (evCall F S12 (m + 24)) (m + 24) 0 (hds 37) lbl37_0) n (l37_0H x0 x2 s7) (l37_0B x0 x2 s7)).run = some (l37_0E (x0) (x2) (q.2) q.1)) (x0 : List (Int × Int)) (x2 : Int × Int) (s7 : Int) (q : Nat × Int) (h : l37_0 m (n + 1) x0 x2 s7 = some q) : (turns (hds 37 161) 0 161 (evC byref (evCall F S12 (m + 24)) (m + 24) 0 (hds 37) lbl37_0) (n + 1) (l37_0H x0 x2 s7) (l37_0B x0 x2 s7)).run = some (l37_0E (x0) (x2) (q.2) q.1) := by
  rw [l37_0] at h
  refine ite_cases h (fun c0 h => ?_) (fun c0 h => ?_)
  · skip
    refine ite_cases h (fun c1 h => ?_) (fun c1 h => ?_)
    · skip
      refine ite_cases h (fun c3 h => ?_) (fun c3 h => ?_)
      · skip
        exact l37_0_w0 m n x0 x2 s7 _ c0 c1 c3 (ih _ _ _ q h)
      · skip
        cases h
        exact l37_0_w1 m n x0 x2 s7 c0 c1 c3
    · skip
      cases h
  · skip
    cases h
    exact l37_0_w2 m n x0 x2 s7 c0
set_option maxHeartbeats 20000000 in
theorem l37_0_ok (m : Nat) : ∀ (n : Nat) (x0 : List (Int × Int)) (x2 : Int × Int) (s7 : Int) (q : Nat × Int), l37_0 m n x0 x2 s7 = some q → (turns (hds 37 161) 0 161 (evC byref (evCall F S12 (m + 24)) (m + 24) 0 (hds 37) lbl37_0) n (l37_0H x0 x2 s7) (l37_0B x0 x2 s7)).run = some (l37_0E (x0) (x2) (q.2) q.1)
  | 0, x0, x2, s7, q, h => by cases h
  | n + 1, x0, x2, s7, q, h => l37_0_step m n (l37_0_ok m n) x0 x2 s7 q h

def p37 (m : Nat) (x0 : List (Int × Int)) (x1 : List (Int × Int)) (x2 : Int × Int) : Option (Bool) :=
  if ((((List.length x0) : Nat) : Int) != (IntKind.wrap .i64 ((((List.length x1) : Nat) : Int) + (80)))) = true then
    some (false)
  else
    if (decide (0 ≤ (((List.length x1) : Nat) : Int)) && decide ((((List.length x1) : Nat) : Int) ≤ (((List.length x0) : Nat) : Int))) = true then
      if decide (List.length (List.drop 0 (List.take (Int.toNat (((List.length x1) : Nat) : Int)) x0)) < 4611686018427387904) = true then
        if ((show List (Int × Int) from (List.drop 0 (List.take (Int.toNat (((List.length x1) : Nat) : Int)) x0))) == x1) = true then
          if (Option.isSome (l37_0 m (m + 24) x0 x2 ((((List.length x1) : Nat) : Int)))) = true then
            if ((l37_0R m (m + 24) x0 x2 ((((List.length x1) : Nat) : Int))).1 == 0) = true then
              some (false)
            else
              if ((l37_0R m (m + 24) x0 x2 ((((List.length x1) : Nat) : Int))).1 == 1) = true then
                some (true)
              else
                none
          else
            none
        else
          some (false)
      else
        none
    else
      none
set_option maxHeartbeats 20000000 in
theorem p37_ok (m : Nat) (x0 : List (Int × Int)) (x1 : List (Int × Int)) (x2 : Int × Int) (q : Bool) (h : p37 m x0 x1 x2 = some q) : ∃ r B1, (evCall F S12 (m + 25) 37 [(.d (.sl (.pair (.int .i64) (.int .i64)) x0)), (.d (.sl (.pair (.int .i64) (.int .i64)) x1)), (.agg [(.d (.int .i64 x2.1)), (.d (.int .i64 x2.2))])] []).run = some (r, B1) ∧ 0 ≤ B1.length ∧ wkR B1 [] r (.d (.bool (q))) ∧ wkBs B1 [] 0 [] := by
  unfold p37 at h
  refine ite_cases h (fun c0 h => ?_) (fun c0 h => ?_)
  · skip
    cases h
    refine ⟨(.d (.bool false)), [], runT_ok (LS := (fun k => none)) (fn := fn37) (vis := []) (by kernel_rfl) rfl (by kernel_rfl) (M.run_of_path _ [true, true, true, true, true, true, true, true, true] _ _ (by kernel_rfl) (all_t c0 (all_t c0 (all_t c0 (all_t c0 (all_t c0 (all_t c0 (all_t c0 (all_t c0 (all_t rfl all_nil)))))))))) ?_, by simp, (wkR.one (wkV.one (wk1.eq rfl))), trivial⟩
    intro p hp; cases hp
  · skip
    refine ite_cases h (fun c4 h => ?_) (fun c4 h => ?_)
    · skip
      refine ite_cases h (fun c7 h => ?_) (fun c7 h => ?_)
      · skip
        refine ite_cases h (fun c10 h => ?_) (fun c10 h => ?_)
        · skip
          refine ite_cases h (fun c11 h => ?_) (fun c11 h => ?_)
          · skip
            refine ite_cases h (fun c12 h => ?_) (fun c12 h => ?_)
            · skip
              cases h
              refine ⟨(.d (.bool false)), [], runT_ok (LS := (fun k => if k = 161 then some (l37_0E x0 x2 ((l37_0R m (m + 24) x0 x2 ((((List.length x1) : Nat) : Int))).2) 0) else none)) (fn := fn37) (vis := [(161, l37_0H x0 x2 ((((List.length x1) : Nat) : Int)), l37_0B x0 x2 ((((List.length x1) : Nat) : Int)))]) (by kernel_rfl) rfl (by kernel_rfl) (M.run_of_path _ [false, false, false, false, true, false, false, true, false, false, false] _ _ (by kernel_rfl) (all_f c0 (all_f c0 (all_f c0 (all_f c0 (all_t c4 (all_f c0 (all_f c0 (all_t c7 (all_f c0 (all_f c0 (all_nt c10 all_nil)))))))))))) ?_, by simp, (wkR.one (wkV.one (wk1.eq rfl))), trivial⟩
              intro p hp p2 hq
              rcases List.mem_cons.1 hp with rfl | hp
              · skip
                have h3 := l37_0_ok m (m + 24) x0 x2 ((((List.length x1) : Nat) : Int)) _ (some_getD (d := l37_0D) c11)
                rw [eq_of_beq c12] at h3
                exact Eq.trans (Eq.mp (by kernel_rfl) h3) hq
              cases hp
            · skip
              refine ite_cases h (fun c13 h => ?_) (fun c13 h => ?_)
              · skip
                cases h
                refine ⟨(.d (.bool true)), [], runT_ok (LS := (fun k => if k = 161 then some (l37_0E x0 x2 ((l37_0R m (m + 24) x0 x2 ((((List.length x1) : Nat) : Int))).2) 1) else none)) (fn := fn37) (vis := [(161, l37_0H x0 x2 ((((List.length x1) : Nat) : Int)), l37_0B x0 x2 ((((List.length x1) : Nat) : Int)))]) (by kernel_rfl) rfl (by kernel_rfl) (M.run_of_path _ [false, false, false, false, true, false, false, true, false, false, false] _ _ (by kernel_rfl) (all_f c0 (all_f c0 (all_f c0 (all_f c0 (all_t c4 (all_f c0 (all_f c0 (all_t c7 (all_f c0 (all_f c0 (all_nt c10 all_nil)))))))))))) ?_, by simp, (wkR.one (wkV.one (wk1.eq rfl))), trivial⟩
                intro p hp p2 hq
                rcases List.mem_cons.1 hp with rfl | hp
                · skip
                  have h3 := l37_0_ok m (m + 24) x0 x2 ((((List.length x1) : Nat) : Int)) _ (some_getD (d := l37_0D) c11)
                  rw [eq_of_beq c13] at h3
                  exact Eq.trans (Eq.mp (by kernel_rfl) h3) hq
                cases hp
              · skip
                cases h
          · skip
            cases h
        · skip
          cases h
          refine ⟨(.d (.bool false)), [], runT_ok (LS := (fun k => none)) (fn := fn37) (vis := []) (by kernel_rfl) rfl (by kernel_rfl) (M.run_of_path _ [false, false, false, false, true, false, false, true, false, false, true] _ _ (by kernel_rfl) (all_f c0 (all_f c0 (all_f c0 (all_f c0 (all_t c4 (all_f c0 (all_f c0 (all_t c7 (all_f c0 (all_f c0 (all_nf c10 all_nil)))))))))))) ?_, by simp, (wkR.one (wkV.one (wk1.eq rfl))), trivial⟩
          intro p hp; cases hp
      · skip
        cases h
    · skip
      cases h

/-- Is such a list as it was? -/
def sintactG (f was : SL) (z : Int × Int) : Bool := decide (f = was ++ List.replicate 80 z)
theorem sintact_loop (m : Nat) (f : SL) (z : Int × Int) (hb : f.length ≤ 1000000) : ∀ (n k : Nat), k ≤ f.length → f.length - k < n → ∃ j, l37_0 m n f z ((k : Nat) : Int) = some (if f.drop k = List.replicate (f.length - k) z then 1 else 0, j)
  | 0, k, _, h => by omega
  | n + 1, k, h1, h2 => by
    rw [l37_0]
    by_cases hk : k < f.length
    · have e1 : decide (((k : Nat) : Int) < (((List.length f) : Nat) : Int)) = true := decide_eq_true (by omega)
      have e2 : decide ((0 : Int) ≤ ((k : Nat) : Int)) = true := decide_eq_true (by omega)
      have e7 : IntKind.wrap .i64 (((k : Nat) : Int) + (1)) = ((k + 1 : Nat) : Int) := by rw [wrap_id (by omega) (by omega)]; rfl
      rw [drop_getD f k (0, 0) hk, e7, if_pos e1, if_pos e2, show f.length - k = (f.length - (k + 1)) + 1 by omega, List.replicate_succ, show Int.toNat ((k : Nat) : Int) = k from rfl]
      by_cases hc : f.getD k (0, 0) = z
      · have e3 : (((f.getD k (0, 0)).1 == z.1) && (((f.getD k (0, 0)).2 == z.2) && true)) = true := by rw [hc]; simp
        rw [if_pos e3]
        obtain ⟨j, hj⟩ := sintact_loop m f z hb n (k + 1) (by omega) (by omega)
        refine ⟨j, ?_⟩
        rw [hj]
        have hc' : (f.getD k (0, 0) :: f.drop (k + 1) = z :: List.replicate (f.length - (k + 1)) z) = (f.drop (k + 1) = List.replicate (f.length - (k + 1)) z) := by rw [List.cons.injEq]; simp only [hc, true_and]
        simp only [hc']
      · have e3 : ¬ (((f.getD k (0, 0)).1 == z.1) && (((f.getD k (0, 0)).2 == z.2) && true)) = true := by
          intro h; simp at h; exact hc (Prod.ext h.1 h.2)
        rw [if_neg e3, if_neg (by simp only [List.cons.injEq, hc, false_and, not_false_eq_true])]
        exact ⟨_, rfl⟩
    · have e1 : decide (((k : Nat) : Int) < (((List.length f) : Nat) : Int)) = false := decide_eq_false (by omega)
      rw [e1, if_neg (by simp), List.drop_eq_nil_of_le (by omega), show f.length - k = 0 by omega]
      exact ⟨_, rfl⟩
theorem sintact37 (f was : SL) (z : Int × Int) (h : decide (f.length ≤ 1000000 ∧ was.length ≤ 1000000) = true) : ∃ m, p37 m f was z = some (sintactG f was z) := by
  have ⟨h, hw⟩ := of_decide_eq_true h
  refine ⟨f.length, ?_⟩
  unfold p37 l37_0R sintactG
  by_cases hl : f.length = was.length + 80
  · have ew : IntKind.wrap .i64 ((((List.length was) : Nat) : Int) + (80)) = (((List.length f) : Nat) : Int) := by rw [wrap_id (by omega) (by omega)]; omega
    have e1 : (decide ((0 : Int) ≤ (((List.length was) : Nat) : Int)) && decide ((((List.length was) : Nat) : Int) ≤ (((List.length f) : Nat) : Int))) = true := by simp; omega
    have e2 : decide (List.length (List.drop 0 (List.take was.length f)) < 4611686018427387904) = true := decide_eq_true (by simp; omega)
    have e3 : ((((List.length f) : Nat) : Int) != (((List.length f) : Nat) : Int)) = false := by simp
    obtain ⟨j, hj⟩ := sintact_loop f.length f z h (f.length + 24) was.length (by omega) (by omega)
    rw [show f.length - was.length = 80 by omega] at hj
    have split : f = was ++ List.replicate 80 z ↔ f.take was.length = was ∧ f.drop was.length = List.replicate 80 z := by
      constructor
      · intro e; rw [e]; simp
      · rintro ⟨q1, q2⟩; rw [← q1, ← q2] ; simp
    have hno0 : f.take was.length ≠ was → ¬ f = was ++ List.replicate 80 z := fun q e => q (split.1 e).1
    generalize List.replicate 80 z = R at *
    rw [show Int.toNat ((was.length : Nat) : Int) = was.length from rfl, ew]
    simp only [e1, e2, e3, hj, Option.isSome_some, Option.getD_some, ↓reduceIte, Bool.false_eq_true]
    by_cases q1 : f.take was.length = was
    · by_cases q2 : f.drop was.length = R
      · simp [split, q1, q2]
      · simp [split, q1, q2]
    · simp [split, q1]
  · have ew : ((((List.length f) : Nat) : Int) != IntKind.wrap .i64 ((((List.length was) : Nat) : Int) + (80))) = true := by
      rw [wrap_id (by omega) (by omega)]; simp; omega
    have hno : ¬ f = was ++ List.replicate 80 z := fun e => hl (by rw [e]; simp)
    generalize List.replicate 80 z = R at *
    rw [if_pos ew]
    simp [hno]
def s37 : List AV → Boxes → M (AV × Boxes) := normS [.val (.sl (.pair (.int .i64) (.int .i64))), .val (.sl (.pair (.int .i64) (.int .i64))), .val (.pair (.int .i64) (.int .i64))] [] fun xs B => match xs, B with
  | [(.d (.sl (.pair (.int .i64) (.int .i64)) c1)), (.d (.sl (.pair (.int .i64) (.int .i64)) c2)), (.agg [(.d (.int .i64 c3)), (.d (.int .i64 c4))])], [] => .chk (decide (List.length c1 ≤ 1000000 ∧ List.length c2 ≤ 1000000)) (.ret ((.d (.bool (sintactG c1 c2 ((c3, c4))))), []))
  | _, _ => .fail
theorem s37_at : CallAt Try.prog 37 s37 := by
  refine CallAt.norm (CallAt.weakE (g := fun n => evCall F S12 n 37) (fun n => evCall_atH mixed kinds hds S12 S12_ok n 37) fun xs B r' B' hr => ?_) _ _
  split at hr
  · rename_i c1 c2 c3 c4
    obtain ⟨hp, hr⟩ := (M.run_chk _ _ _).1 hr
    simp only [M.run, Option.some.injEq, Prod.mk.injEq] at hr
    obtain ⟨rfl, rfl⟩ := hr
    obtain ⟨m, hm⟩ := sintact37 c1 c2 ((c3, c4)) hp
    obtain ⟨r, B1, h1, h2, h3, h4⟩ := p37_ok m c1 c2 ((c3, c4)) _ hm
    exact ⟨m + 25, r, B1, h1, by simp, h2, h3, h4⟩
  · simp [M.run] at hr
noncomputable def S13 : FuncId → Option (List AV → Boxes → M (AV × Boxes)) := fun f => if f = 37 then some s37 else S12 f
set_option maxHeartbeats 20000000 in
theorem S13_ok : ∀ f s, S13 f = some s → CallAt Try.prog f s := by
  intro f s h
  unfold S13 at h
  split at h
  · rename_i e; subst e; cases h; exact s37_at
  · exact S12_ok f s h

noncomputable def fn38 : AFn := (F 38).getD ⟨0, [], .bad, false, false, noHd⟩
noncomputable def body38 : AC := fn38.body
def l38_0 (m : Nat) : Nat → List (Int × Int) → Int → Int → Int → Option (Nat × Int)
  | 0, _, _, _, _ => none
  | n + 1, x0, x1, x2, s8 => if decide (s8 ≥ 0) = true then
      if decide (0 ≤ s8) = true then
        if decide (s8 < (((List.length x0) : Nat) : Int)) = true then
          if decide ((List.getD x0 (Int.toNat s8) (0, 0)).1 ≤ x1) = true then
            some (0, s8)
          else
            l38_0 m n x0 x1 x2 ((IntKind.wrap .i64 (s8 - (1))))
        else
          none
      else
        none
    else
      some (1, s8)
def l38_0D : Nat × Int := (0, 0)
@[reducible] def l38_0R (m n : Nat) (x0 : List (Int × Int)) (x1 : Int) (x2 : Int) (s8 : Int) : Nat × Int := Option.getD (l38_0 m n x0 x1 x2 s8) l38_0D
def l38_0H (x0 : List (Int × Int)) (x1 : Int) (x2 : Int) (s8 : Int) : Env := [(.d (.sl (.pair (.int .i64) (.int .i64)) x0)), (.d (.int .i64 x1)), (.d (.int .i64 x2)), .top, .top, .top, .top, .top, (.d (.int .i64 s8)), .top, .top, .top, .top, .top, .top, .top, .top, .top, .top, .top, .top, .top, .top, .top, .top, .top, .top, .top, .top, .top, .top, .top, .top, .top, .top, .top, .top]
def l38_0B (x0 : List (Int × Int)) (x1 : Int) (x2 : Int) (s8 : Int) : Boxes := []
def l38_0E (x0 : List (Int × Int)) (x1 : Int) (x2 : Int) (s8 : Int) : Nat → AEx × Env × Boxes
  | 0 => (.ret, [(.d (.sl (.pair (.int .i64) (.int .i64)) x0)), (.d (.int .i64 x1)), (.d (.int .i64 x2)), .top, .top, .top, (.d (.int .i64 (List.getD x0 (Int.toNat s8) (0, 0)).2)), (.d (.bool (decide ((List.getD x0 (Int.toNat s8) (0, 0)).1 > (IntKind.wrap .i64 (x1 - x2)))))), (.d (.int .i64 s8)), .top, .top, .top, (.d (.int .i64 s8)), (.d (.bool (decide (s8 ≥ 0)))), .top, .top, (.d (.sl (.pair (.int .i64) (.int .i64)) x0)), (.d (.int .i64 s8)), (.cptr [(.int .i64 (List.getD x0 (Int.toNat s8) (0, 0)).1), (.int .i64 (List.getD x0 (Int.toNat s8) (0, 0)).2)] 0), (.cptr [(.int .i64 (List.getD x0 (Int.toNat s8) (0, 0)).1), (.int .i64 (List.getD x0 (Int.toNat s8) (0, 0)).2)] 0), (.d (.int .i64 (List.getD x0 (Int.toNat s8) (0, 0)).1)), (.d (.int .i64 x1)), (.d (.bool (decide ((List.getD x0 (Int.toNat s8) (0, 0)).1 ≤ x1)))), (.d (.sl (.pair (.int .i64) (.int .i64)) x0)), (.d (.int .i64 s8)), (.cptr [(.int .i64 (List.getD x0 (Int.toNat s8) (0, 0)).1), (.int .i64 (List.getD x0 (Int.toNat s8) (0, 0)).2)] 0), (.cptr [(.int .i64 (List.getD x0 (Int.toNat s8) (0, 0)).1), (.int .i64 (List.getD x0 (Int.toNat s8) (0, 0)).2)] 1), (.d (.int .i64 (List.getD x0 (Int.toNat s8) (0, 0)).2)), (.d (.sl (.pair (.int .i64) (.int .i64)) x0)), (.d (.int .i64 s8)), (.cptr [(.int .i64 (List.getD x0 (Int.toNat s8) (0, 0)).1), (.int .i64 (List.getD x0 (Int.toNat s8) (0, 0)).2)] 0), (.cptr [(.int .i64 (List.getD x0 (Int.toNat s8) (0, 0)).1), (.int .i64 (List.getD x0 (Int.toNat s8) (0, 0)).2)] 0), (.d (.int .i64 (List.getD x0 (Int.toNat s8) (0, 0)).1)), (.d (.int .i64 x1)), (.d (.int .i64 x2)), (.d (.int .i64 (IntKind.wrap .i64 (x1 - x2)))), (.d (.bool (decide ((List.getD x0 (Int.toNat s8) (0, 0)).1 > (IntKind.wrap .i64 (x1 - x2))))))], [.dead, .dead, .dead, .dead, .dead, .dead, .dead, .dead, .dead, .dead, .dead, .dead, .dead, .dead, .dead, .dead, .dead, .dead, .dead, .dead, .dead, .dead, .dead, .dead, .dead, .dead, .dead, .dead, .dead, .dead, .dead, .dead, .dead, .dead, .dead, .dead, .dead, .dead, .dead, .dead, .dead, .dead, .dead, .dead, .dead, .dead, .dead, .dead, .dead, .dead, .dead, .dead, .dead, .dead, .dead, .dead, .dead, .dead, .dead, .dead, .dead, .dead, .dead, .dead])
  | _ => (.exit 0, [(.d (.sl (.pair (.int .i64) (.int .i64)) x0)), (.d (.int .i64 x1)), (.d (.int .i64 x2)), .top, .top, .top, .top, .top, (.d (.int .i64 s8)), .top, .top, .top, (.d (.int .i64 s8)), (.d (.bool (decide (s8 ≥ 0)))), .top, .top, .top, .top, .top, .top, .top, .top, .top, .top, .top, .top, .top, .top, .top, .top, .top, .top, .top, .top, .top, .top, .top], [])
noncomputable def lbl38_0 : AC := loopBody 263 body38

set_option maxHeartbeats 20000000 in
theorem l38_0_w0 (m n : Nat) (x0 : List (Int × Int)) (x1 : Int) (x2 : Int) (s8 : Int) (c0 : decide (s8 ≥ 0) = true) (c1 : decide (0 ≤ s8) = true) (c2 : decide (s8 < (((List.length x0) : Nat) : Int)) = true) (c3 : decide ((List.getD x0 (Int.toNat s8) (0, 0)).1 ≤ x1) = true) : (turns (hds 38 263) 0 263 (evC byref (evCall F S13 (m + 24)) (m + 24) 0 (hds 38) lbl38_0) (n + 1) (l38_0H x0 x1 x2 s8) (l38_0B x0 x1 x2 s8)).run = some (.ret, [(.d (.sl (.pair (.int .i64) (.int .i64)) x0)), (.d (.int .i64 x1)), (.d (.int .i64 x2)), .top, .top, .top, (.d (.int .i64 (List.getD x0 (Int.toNat s8) (0, 0)).2)), (.d (.bool (decide ((List.getD x0 (Int.toNat s8) (0, 0)).1 > (IntKind.wrap .i64 (x1 - x2)))))), (.d (.int .i64 s8)), .top, .top, .top, (.d (.int .i64 s8)), (.d (.bool (decide (s8 ≥ 0)))), .top, .top, (.d (.sl (.pair (.int .i64) (.int .i64)) x0)), (.d (.int .i64 s8)), (.cptr [(.int .i64 (List.getD x0 (Int.toNat s8) (0, 0)).1), (.int .i64 (List.getD x0 (Int.toNat s8) (0, 0)).2)] 0), (.cptr [(.int .i64 (List.getD x0 (Int.toNat s8) (0, 0)).1), (.int .i64 (List.getD x0 (Int.toNat s8) (0, 0)).2)] 0), (.d (.int .i64 (List.getD x0 (Int.toNat s8) (0, 0)).1)), (.d (.int .i64 x1)), (.d (.bool (decide ((List.getD x0 (Int.toNat s8) (0, 0)).1 ≤ x1)))), (.d (.sl (.pair (.int .i64) (.int .i64)) x0)), (.d (.int .i64 s8)), (.cptr [(.int .i64 (List.getD x0 (Int.toNat s8) (0, 0)).1), (.int .i64 (List.getD x0 (Int.toNat s8) (0, 0)).2)] 0), (.cptr [(.int .i64 (List.getD x0 (Int.toNat s8) (0, 0)).1), (.int .i64 (List.getD x0 (Int.toNat s8) (0, 0)).2)] 1), (.d (.int .i64 (List.getD x0 (Int.toNat s8) (0, 0)).2)), (.d (.sl (.pair (.int .i64) (.int .i64)) x0)), (.d (.int .i64 s8)), (.cptr [(.int .i64 (List.getD x0 (Int.toNat s8) (0, 0)).1), (.int .i64 (List.getD x0 (Int.toNat s8) (0, 0)).2)] 0), (.cptr [(.int .i64 (List.getD x0 (Int.toNat s8) (0, 0)).1), (.int .i64 (List.getD x0 (Int.toNat s8) (0, 0)).2)] 0), (.d (.int .i64 (List.getD x0 (Int.toNat s8) (0, 0)).1)), (.d (.int .i64 x1)), (.d (.int .i64 x2)), (.d (.int .i64 (IntKind.wrap .i64 (x1 - x2)))), (.d (.bool (decide ((List.getD x0 (Int.toNat s8) (0, 0)).1 > (IntKind.wrap .i64 (x1 - x2))))))], [.dead, .dead, .dead, .dead, .dead, .dead, .dead, .dead, .dead, .dead, .dead, .dead, .dead, .dead, .dead, .dead, .dead, .dead, .dead, .dead, .dead, .dead, .dead, .dead, .dead, .dead, .dead, .dead, .dead, .dead, .dead, .dead, .dead, .dead, .dead, .dead, .dead, .dead, .dead, .dead, .dead, .dead, .dead, .dead, .dead, .dead, .dead, .dead, .dead, .dead, .dead, .dead, .dead, .dead, .dead, .dead, .dead, .dead, .dead, .dead, .dead, .dead, .dead, .dead]) := by
  exact turns_last (by simp) (M.run_of_path _ [true, true, true, true, true, true, true, true] _ _ (by kernel_rfl) (all_t c0 (all_t c1 (all_t c2 (all_t c3 (all_t c1 (all_t c2 (all_t c1 (all_t c2 all_nil))))))))) 
set_option maxHeartbeats 20000000 in
theorem l38_0_w1 (m n : Nat) (x0 : List (Int × Int)) (x1 : Int) (x2 : Int) (s8 : Int) (r : AEx × Env × Boxes) (c0 : decide (s8 ≥ 0) = true) (c1 : decide (0 ≤ s8) = true) (c2 : decide (s8 < (((List.length x0) : Nat) : Int)) = true) (c3 : ¬ decide ((List.getD x0 (Int.toNat s8) (0, 0)).1 ≤ x1) = true) (ih : (turns (hds 38 263) 0 263 (evC byref (evCall F S13 (m + 24)) (m + 24) 0 (hds 38) lbl38_0) n (l38_0H x0 x1 x2 ((IntKind.wrap .i64 (s8 - (1))))) (l38_0B x0 x1 x2 ((IntKind.wrap .i64 (s8 - (1)))))).run = some r) : (turns (hds 38 263) 0 263 (evC byref (evCall F S13 (m + 24)) (m + 24) 0 (hds 38) lbl38_0) (n + 1) (l38_0H x0 x1 x2 s8) (l38_0B x0 x1 x2 s8)).run = some r := by
  exact turns_step (M.run_of_path _ [true, true, true, false] _ _ (by kernel_rfl) (all_t c0 (all_t c1 (all_t c2 (all_f c3 all_nil))))) ih
set_option maxHeartbeats 20000000 in
theorem l38_0_w2 (m n : Nat) (x0 : List (Int × Int)) (x1 : Int) (x2 : Int) (s8 : Int) (c0 : ¬ decide (s8 ≥ 0) = true) : (turns (hds 38 263) 0 263 (evC byref (evCall F S13 (m + 24)) (m + 24) 0 (hds 38) lbl38_0) (n + 1) (l38_0H x0 x1 x2 s8) (l38_0B x0 x1 x2 s8)).run = some (.exit 0, [(.d (.sl (.pair (.int .i64) (.int .i64)) x0)), (.d (.int .i64 x1)), (.d (.int .i64 x2)), .top, .top, .top, .top, .top, (.d (.int .i64 s8)), .top, .top, .top, (.d (.int .i64 s8)), (.d (.bool (decide (s8 ≥ 0)))), .top, .top, .top, .top, .top, .top, .top, .top, .top, .top, .top, .top, .top, .top, .top, .top, .top, .top, .top, .top, .top, .top, .top], []) := by
  exact turns_last (by simp) (M.run_of_path _ [false] _ _ (by kernel_rfl) (all_f c0 all_nil)) 

set_option maxHeartbeats 20000000 in
theorem l38_0_step (m n : Nat) (ih : ∀ (x0 : List (Int × Int)) (x1 : Int) (x2 : Int) (s8 : Int) (q : Nat × Int), l38_0 m n x0 x1 x2 s8 = some q → (turns (hds 38 263) 0 263 (evC byref (evCall F S13 (m + 24)) (m + 24) 0 (hds 38) lbl38_0) n (l38_0H x0 x1 x2 s8) (l38_0B x0 x1 x2 s8)).run = some (l38_0E (x0) (x1) (x2) (q.2) q.1)) (x0 : List (Int × Int)) (x1 : Int) (x2 : Int) (s8 : Int) (q : Nat × Int) (h : l38_0 m (n + 1) x0 x1 x2 s8 = some q) : (turns (hds 38 263) 0 263 (evC byref (evCall F S13 (m + 24)) (m + 24) 0 (hds 38) lbl38_0) (n + 1) (l38_0H x0 x1 x2 s8) (l38_0B x0 x1 x2 s8)).run = some (l38_0E (x0) (x1) (x2) (q.2) q.1) := by
  rw [l38_0] at h
  refine ite_cases h (fun c0 h => ?_) (fun c0 h => ?_)
  · skip
    refine ite_cases h (fun c1 h => ?_) (fun c1 h => ?_)
    · skip
      refine ite_cases h (fun c2 h => ?_) (fun c2 h => ?_)
      · skip
        refine ite_cases h (fun c3 h => ?_) (fun c3 h => ?_)
        · skip
          cases h
          exact l38_0_w0 m n x0 x1 x2 s8 c0 c1 c2 c3
        · skip
          exact l38_0_w1 m n x0 x1 x2 s8 _ c0 c1 c2 c3 (ih _ _ _ _ q h)
      · skip
        cases h
    · skip
      cases h
  · skip
    cases h
    exact l38_0_w2 m n x0 x1 x2 s8 c0
set_option maxHeartbeats 20000000 in
theorem l38_0_ok (m : Nat) : ∀ (n : Nat) (x0 : List (Int × Int)) (x1 : Int) (x2 : Int) (s8 : Int) (q : Nat × Int), l38_0 m n x0 x1 x2 s8 = some q → (turns (hds 38 263) 0 263 (evC byref (evCall F S13 (m + 24)) (m + 24) 0 (hds 38) lbl38_0) n (l38_0H x0 x1 x2 s8) (l38_0B x0 x1 x2 s8)).run = some (l38_0E (x0) (x1) (x2) (q.2) q.1)
  | 0, x0, x1, x2, s8, q, h => by cases h
  | n + 1, x0, x1, x2, s8, q, h => l38_0_step m n (l38_0_ok m n) x0 x1 x2 s8 q h

def p38 (m : Nat) (x0 : List (Int × Int)) (x1 : Int) (x2 : Int) : Option (Int × Bool) :=
  if (Option.isSome (l38_0 m (m + 24) x0 x1 x2 ((IntKind.wrap .i64 ((((List.length x0) : Nat) : Int) - (1)))))) = true then
    if ((l38_0R m (m + 24) x0 x1 x2 ((IntKind.wrap .i64 ((((List.length x0) : Nat) : Int) - (1))))).1 == 0) = true then
      some ((List.getD x0 (Int.toNat (l38_0R m (m + 24) x0 x1 x2 ((IntKind.wrap .i64 ((((List.length x0) : Nat) : Int) - (1))))).2) (0, 0)).2, decide ((List.getD x0 (Int.toNat (l38_0R m (m + 24) x0 x1 x2 ((IntKind.wrap .i64 ((((List.length x0) : Nat) : Int) - (1))))).2) (0, 0)).1 > (IntKind.wrap .i64 (x1 - x2))))
    else
      if ((l38_0R m (m + 24) x0 x1 x2 ((IntKind.wrap .i64 ((((List.length x0) : Nat) : Int) - (1))))).1 == 1) = true then
        some ((0), false)
      else
        none
  else
    none
set_option maxHeartbeats 20000000 in
theorem p38_ok (m : Nat) (x0 : List (Int × Int)) (x1 : Int) (x2 : Int) (q : Int × Bool) (h : p38 m x0 x1 x2 = some q) : ∃ r B1, (evCall F S13 (m + 25) 38 [(.d (.sl (.pair (.int .i64) (.int .i64)) x0)), (.d (.int .i64 x1)), (.d (.int .i64 x2))] []).run = some (r, B1) ∧ 0 ≤ B1.length ∧ wkR B1 [] r (.tup [(.d (.int .i64 q.1)), (.d (.bool (q.2)))]) ∧ wkBs B1 [] 0 [] := by
  unfold p38 at h
  refine ite_cases h (fun c0 h => ?_) (fun c0 h => ?_)
  · skip
    refine ite_cases h (fun c1 h => ?_) (fun c1 h => ?_)
    · skip
      cases h
      refine ⟨(.tup [(.d (.int .i64 (List.getD x0 (Int.toNat (l38_0R m (m + 24) x0 x1 x2 ((IntKind.wrap .i64 ((((List.length x0) : Nat) : Int) - (1))))).2) (0, 0)).2)), (.d (.bool (decide ((List.getD x0 (Int.toNat (l38_0R m (m + 24) x0 x1 x2 ((IntKind.wrap .i64 ((((List.length x0) : Nat) : Int) - (1))))).2) (0, 0)).1 > (IntKind.wrap .i64 (x1 - x2))))))]), [], runT_ok (LS := (fun k => if k = 263 then some (l38_0E x0 x1 x2 ((l38_0R m (m + 24) x0 x1 x2 ((IntKind.wrap .i64 ((((List.length x0) : Nat) : Int) - (1))))).2) 0) else none)) (fn := fn38) (vis := [(263, l38_0H x0 x1 x2 ((IntKind.wrap .i64 ((((List.length x0) : Nat) : Int) - (1)))), l38_0B x0 x1 x2 ((IntKind.wrap .i64 ((((List.length x0) : Nat) : Int) - (1)))))]) (by kernel_rfl) rfl (by kernel_rfl) (M.run_of_path _ [] _ _ (by kernel_rfl) all_nil) ?_, by simp, (wkR.tup (wkVs.cons (wkV.one (wk1.eq rfl)) (wkVs.cons (wkV.one (wk1.eq rfl)) wkVs.nil))), trivial⟩
      intro p hp p2 hq
      rcases List.mem_cons.1 hp with rfl | hp
      · skip
        have h3 := l38_0_ok m (m + 24) x0 x1 x2 ((IntKind.wrap .i64 ((((List.length x0) : Nat) : Int) - (1)))) _ (some_getD (d := l38_0D) c0)
        rw [eq_of_beq c1] at h3
        exact Eq.trans (Eq.mp (by kernel_rfl) h3) hq
      cases hp
    · skip
      refine ite_cases h (fun c2 h => ?_) (fun c2 h => ?_)
      · skip
        cases h
        refine ⟨(.tup [(.d (.int .i64 (0))), (.d (.bool false))]), [], runT_ok (LS := (fun k => if k = 263 then some (l38_0E x0 x1 x2 ((l38_0R m (m + 24) x0 x1 x2 ((IntKind.wrap .i64 ((((List.length x0) : Nat) : Int) - (1))))).2) 1) else none)) (fn := fn38) (vis := [(263, l38_0H x0 x1 x2 ((IntKind.wrap .i64 ((((List.length x0) : Nat) : Int) - (1)))), l38_0B x0 x1 x2 ((IntKind.wrap .i64 ((((List.length x0) : Nat) : Int) - (1)))))]) (by kernel_rfl) rfl (by kernel_rfl) (M.run_of_path _ [] _ _ (by kernel_rfl) all_nil) ?_, by simp, (wkR.tup (wkVs.cons (wkV.one (wk1.eq rfl)) (wkVs.cons (wkV.one (wk1.eq rfl)) wkVs.nil))), trivial⟩
        intro p hp p2 hq
        rcases List.mem_cons.1 hp with rfl | hp
        · skip
          have h3 := l38_0_ok m (m + 24) x0 x1 x2 ((IntKind.wrap .i64 ((((List.length x0) : Nat) : Int) - (1)))) _ (some_getD (d := l38_0D) c0)
          rw [eq_of_beq c2] at h3
          exact Eq.trans (Eq.mp (by kernel_rfl) h3) hq
        cases hp
      · skip
        cases h
  · skip
    cases h

/-- The document's own answer: from the end. -/
def refGo (l : SL) (t look : Int) : Nat → Int × Bool
  | 0 => (0, false)
  | k + 1 => if (l.getD k (0, 0)).1 ≤ t then ((l.getD k (0, 0)).2, decide ((l.getD k (0, 0)).1 > IntKind.wrap .i64 (t - look))) else refGo l t look k
def refAtG (l : SL) (t look : Int) : Int × Bool := refGo l t look l.length
theorem ref_loop (m : Nat) (l : SL) (t look : Int) (hb : l.length ≤ 1000000) : ∀ (n k : Nat), k ≤ l.length → k < n →
    (∃ j : Nat, l38_0 m n l t look ((k : Int) - 1) = some (0, (j : Int)) ∧ refGo l t look k = ((l.getD j (0, 0)).2, decide ((l.getD j (0, 0)).1 > IntKind.wrap .i64 (t - look)))) ∨ (∃ j, l38_0 m n l t look ((k : Int) - 1) = some (1, j) ∧ refGo l t look k = (0, false))
  | 0, k, _, h => by omega
  | n + 1, 0, _, _ => by
    rw [l38_0]
    exact .inr ⟨-1, rfl, rfl⟩
  | n + 1, k + 1, h1, h2 => by
    rw [l38_0, show ((k + 1 : Nat) : Int) - 1 = (k : Int) by omega]
    have e1 : decide ((k : Int) ≥ 0) = true := decide_eq_true (by omega)
    have e2 : decide ((0 : Int) ≤ (k : Int)) = true := decide_eq_true (by omega)
    have e3 : decide ((k : Int) < (((List.length l) : Nat) : Int)) = true := decide_eq_true (by omega)
    have ew : IntKind.wrap .i64 ((k : Int) - (1)) = (k : Int) - 1 := wrap_id (by omega) (by omega)
    rw [if_pos e1, if_pos e2, if_pos e3, ew, show Int.toNat (k : Int) = k from rfl]
    unfold refGo
    by_cases hc : (l.getD k (0, 0)).1 ≤ t
    · rw [if_pos (decide_eq_true hc), if_pos hc]
      exact .inl ⟨k, rfl, rfl⟩
    · rw [if_neg (by simpa using hc), if_neg hc]
      exact ref_loop m l t look hb n k (by omega) (by omega)
theorem refat38 (l : SL) (t look : Int) (h : decide (l.length ≤ 1000000) = true) : ∃ m, p38 m l t look = some (refAtG l t look) := by
  have h := of_decide_eq_true h
  refine ⟨l.length, ?_⟩
  have ew : IntKind.wrap .i64 ((((List.length l) : Nat) : Int) - (1)) = (l.length : Int) - 1 := wrap_id (by omega) (by omega)
  unfold p38 l38_0R refAtG
  rw [ew]
  rcases ref_loop l.length l t look h (l.length + 24) l.length (by omega) (by omega) with ⟨j, h1, h2⟩ | ⟨j, h1, h2⟩
  · rw [h1, h2]
    simp
  · rw [h1, h2]
    simp
def s38 : List AV → Boxes → M (AV × Boxes) := normS [.val (.sl (.pair (.int .i64) (.int .i64))), .val (.int .i64), .val (.int .i64)] [] fun xs B => match xs, B with
  | [(.d (.sl (.pair (.int .i64) (.int .i64)) c1)), (.d (.int .i64 c2)), (.d (.int .i64 c3))], [] => .chk (decide (List.length c1 ≤ 1000000)) (.ret ((.tup [(.d (.int .i64 (refAtG c1 c2 c3).1)), (.d (.bool (refAtG c1 c2 c3).2))]), []))
  | _, _ => .fail
theorem s38_at : CallAt Try.prog 38 s38 := by
  refine CallAt.norm (CallAt.weakE (g := fun n => evCall F S13 n 38) (fun n => evCall_atH mixed kinds hds S13 S13_ok n 38) fun xs B r' B' hr => ?_) _ _
  split at hr
  · rename_i c1 c2 c3
    obtain ⟨hp, hr⟩ := (M.run_chk _ _ _).1 hr
    simp only [M.run, Option.some.injEq, Prod.mk.injEq] at hr
    obtain ⟨rfl, rfl⟩ := hr
    obtain ⟨m, hm⟩ := refat38 c1 c2 c3 hp
    obtain ⟨r, B1, h1, h2, h3, h4⟩ := p38_ok m c1 c2 c3 _ hm
    exact ⟨m + 25, r, B1, h1, by simp, h2, h3, h4⟩
  · simp [M.run] at hr
noncomputable def S14 : FuncId → Option (List AV → Boxes → M (AV × Boxes)) := fun f => if f = 38 then some s38 else S13 f
set_option maxHeartbeats 20000000 in
theorem S14_ok : ∀ f s, S14 f = some s → CallAt Try.prog f s := by
  intro f s h
  unfold S14 at h
  split at h
  · rename_i e; subst e; cases h; exact s38_at
  · exact S13_ok f s h

noncomputable def fn39 : AFn := (F 39).getD ⟨0, [], .bad, false, false, noHd⟩
noncomputable def body39 : AC := fn39.body
def p39 (m : Nat) (x0 : List (Int × Int)) : Option ((Int × Int) × Bool × (List (Int × Int))) :=
  if ((((List.length x0) : Nat) : Int) == (0)) = true then
    some (((0), (0)), false, x0)
  else
    if decide (0 ≤ (IntKind.wrap .i64 ((((List.length x0) : Nat) : Int) - (1)))) = true then
      if decide ((IntKind.wrap .i64 ((((List.length x0) : Nat) : Int) - (1))) < (((List.length x0) : Nat) : Int)) = true then
        some ((List.getD x0 (Int.toNat (IntKind.wrap .i64 ((((List.length x0) : Nat) : Int) - (1)))) (0, 0)), true, x0)
      else
        none
    else
      none
set_option maxHeartbeats 20000000 in
theorem p39_ok (m : Nat) (x0 : List (Int × Int)) (q : (Int × Int) × Bool × (List (Int × Int))) (h : p39 m x0 = some q) : ∃ r B1, (evCall F S14 (m + 25) 39 [(.ptr 0 0)] [(.cells [(.d (.sl (.pair (.int .i64) (.int .i64)) x0))])]).run = some (r, B1) ∧ 1 ≤ B1.length ∧ wkR B1 [(.cells [(.d (.sl (.pair (.int .i64) (.int .i64)) q.2.2))])] r (.tup [(.agg [(.d (.int .i64 q.1.1)), (.d (.int .i64 q.1.2))]), (.d (.bool (q.2.1)))]) ∧ wkBs B1 [(.cells [(.d (.sl (.pair (.int .i64) (.int .i64)) q.2.2))])] 0 [(.cells [(.d (.sl (.pair (.int .i64) (.int .i64)) q.2.2))])] := by
  unfold p39 at h
  refine ite_cases h (fun c0 h => ?_) (fun c0 h => ?_)
  · skip
    cases h
    refine ⟨(.tup [(.agg [(.d (.int .i64 (0))), (.d (.int .i64 (0)))]), (.d (.bool false))]), [(.cells [(.d (.sl (.pair (.int .i64) (.int .i64)) x0))])], runT_ok (LS := (fun k => none)) (fn := fn39) (vis := []) (by kernel_rfl) rfl (by kernel_rfl) (M.run_of_path _ [true] _ _ (by kernel_rfl) (all_t c0 all_nil)) ?_, by simp, (wkR.tup (wkVs.cons (wkV.agg (wkL.cons (wk1.eq rfl) (wkL.cons (wk1.eq rfl) wkL.nil))) (wkVs.cons (wkV.one (wk1.eq rfl)) wkVs.nil))), ⟨wkBox.cells (wkL.cons (wk1.eq rfl) wkL.nil), trivial⟩⟩
    intro p hp; cases hp
  · skip
    refine ite_cases h (fun c1 h => ?_) (fun c1 h => ?_)
    · skip
      refine ite_cases h (fun c2 h => ?_) (fun c2 h => ?_)
      · skip
        cases h
        refine ⟨(.tup [(.agg [(.d (.int .i64 (List.getD x0 (Int.toNat (IntKind.wrap .i64 ((((List.length x0) : Nat) : Int) - (1)))) (0, 0)).1)), (.d (.int .i64 (List.getD x0 (Int.toNat (IntKind.wrap .i64 ((((List.length x0) : Nat) : Int) - (1)))) (0, 0)).2))]), (.d (.bool true))]), [(.cells [(.d (.sl (.pair (.int .i64) (.int .i64)) x0))])], runT_ok (LS := (fun k => none)) (fn := fn39) (vis := []) (by kernel_rfl) rfl (by kernel_rfl) (M.run_of_path _ [false, true, true] _ _ (by kernel_rfl) (all_f c0 (all_t c1 (all_t c2 all_nil)))) ?_, by simp, (wkR.tup (wkVs.cons (wkV.agg (wkL.cons (wk1.eq rfl) (wkL.cons (wk1.eq rfl) wkL.nil))) (wkVs.cons (wkV.one (wk1.eq rfl)) wkVs.nil))), ⟨wkBox.cells (wkL.cons (wk1.eq rfl) wkL.nil), trivial⟩⟩
        intro p hp; cases hp
      · skip
        cases h
    · skip
      cases h

/-- The last sample. -/
def slastB (l : SL) : Bool := decide (0 < l.length)
def slastV (l : SL) : Int × Int := if 0 < l.length then l.getD (l.length - 1) (0, 0) else (0, 0)
theorem slast39 (l : SL) (h : decide (l.length ≤ 1000000) = true) : ∃ m, p39 m l = some (slastV l, slastB l, l) := by
  have h := of_decide_eq_true h
  refine ⟨0, ?_⟩
  unfold p39 slastV slastB
  by_cases h0 : l.length = 0
  · have e : ((((List.length l) : Nat) : Int) == (0)) = true := by simp [h0]
    rw [if_pos e, if_neg (by omega)]
    simp [h0]
  · have e : ¬ ((((List.length l) : Nat) : Int) == (0)) = true := by simp; intro h; rw [h] at h0; simp at h0
    have ew : IntKind.wrap .i64 ((((List.length l) : Nat) : Int) - (1)) = ((l.length - 1 : Nat) : Int) := by rw [wrap_id (by omega) (by omega)]; omega
    have e1 : decide ((0 : Int) ≤ ((l.length - 1 : Nat) : Int)) = true := decide_eq_true (by omega)
    have e2 : decide (((l.length - 1 : Nat) : Int) < (((List.length l) : Nat) : Int)) = true := decide_eq_true (by omega)
    rw [if_neg e, ew, if_pos e1, if_pos e2, if_pos (by omega), show Int.toNat ((l.length - 1 : Nat) : Int) = l.length - 1 from rfl, show decide (0 < l.length) = true from decide_eq_true (by omega)]
def s39 : List AV → Boxes → M (AV × Boxes) := normS [.ptr] [(.sl (.pair (.int .i64) (.int .i64)))] fun xs B => match xs, B with
  | [(.ptr 0 0)], [(.cells [(.d (.sl (.pair (.int .i64) (.int .i64)) c1))])] => .chk (decide (List.length c1 ≤ 1000000)) (.ret ((.tup [(.agg [(.d (.int .i64 (slastV c1).1)), (.d (.int .i64 (slastV c1).2))]), (.d (.bool (slastB c1)))]), [(.cells [(.d (.sl (.pair (.int .i64) (.int .i64)) c1))])]))
  | _, _ => .fail
theorem s39_at : CallAt Try.prog 39 s39 := by
  refine CallAt.norm (CallAt.weakE (g := fun n => evCall F S14 n 39) (fun n => evCall_atH mixed kinds hds S14 S14_ok n 39) fun xs B r' B' hr => ?_) _ _
  split at hr
  · rename_i c1
    obtain ⟨hp, hr⟩ := (M.run_chk _ _ _).1 hr
    simp only [M.run, Option.some.injEq, Prod.mk.injEq] at hr
    obtain ⟨rfl, rfl⟩ := hr
    obtain ⟨m, hm⟩ := slast39 c1 hp
    obtain ⟨r, B1, h1, h2, h3, h4⟩ := p39_ok m c1 _ hm
    exact ⟨m + 25, r, B1, h1, by simp, h2, h3, h4⟩
  · simp [M.run] at hr
noncomputable def S15 : FuncId → Option (List AV → Boxes → M (AV × Boxes)) := fun f => if f = 39 then some s39 else S14 f
set_option maxHeartbeats 20000000 in
theorem S15_ok : ∀ f s, S15 f = some s → CallAt Try.prog f s := by
  intro f s h
  unfold S15 at h
  split at h
  · rename_i e; subst e; cases h; exact s39_at
  · exact S14_ok f s h

end Go.Proofs.Ytkppbflmlpabjab.Dec
