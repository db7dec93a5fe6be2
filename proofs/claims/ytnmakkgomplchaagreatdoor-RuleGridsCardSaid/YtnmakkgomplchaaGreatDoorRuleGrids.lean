/- RuleGrids: at every grid it says true. Conditions: none. -/
import Derived.Test.YtnmakkgomplchaaGreatDoorMemoRuleRuns
import Derived.Test.YtnmakkgomplchaaGreatDoorEvZl
import Derived.Test.YtnmakkgomplchaaGreatDoorEvZn
namespace Go.Proofs.YtnmakkgomplchaaGreatDoor.EvS.RuleGrids
open Go.Ev
set_option linter.unusedVariables false
set_option linter.unusedSimpArgs false
set_option maxRecDepth 100000
theorem runs : Known Tryz.prog 13 [] (.d (.bool true)) := known mixed (kinds := kinds) (n := 300) RuleRuns.Sm_ok (by kernel_rfl)
def trueG : List D → M AV
  | [] => .ret (.d (.bool true))
  | _ => .fail
def S : FuncId → Option (List AV → Boxes → M (AV × Boxes)) := fun f => if f = 13 then some (plainV trueG) else none
theorem S_ok : ∀ f s, S f = some s → CallAt Tryz.prog f s := by
  intro f s h
  unfold S at h
  split at h
  · rename_i e; subst e; cases h
    refine plainV_at fun ds r hr => ?_
    unfold trueG at hr
    split at hr
    · simp only [M.run, Option.some.injEq] at hr
      subst hr
      exact runs
    · simp [M.run] at hr
  · cases h
def kinds : FuncId → Bool × Bool := fun _ => (true, false)
@[reducible] noncomputable def F := fnsOf Tryz.prog kinds
@[reducible] noncomputable def byref : FuncId → Bool := fun g => match F g with | some h => h.byref | none => false
noncomputable def fn4 : AFn := (F 4).getD ⟨0, [], .bad, false, false⟩
theorem some_getD {α : Type} {o : Option α} {d : α} (h : o.isSome = true) : o = some (o.getD d) := by
  cases o with
  | none => cases h
  | some a => rfl
theorem ite_cases {c : Prop} [Decidable c] {α : Type} {a b : Option α} {q : α} {G : Prop} (h : (if c then a else b) = some q) (h1 : c → a = some q → G) (h2 : ¬ c → b = some q → G) : G := by
  by_cases hc : c
  · rw [if_pos hc] at h; exact h1 hc h
  · rw [if_neg hc] at h; exact h2 hc h
theorem all_t {c : Bool} {l : List Bool} (h : c = true) (h2 : l.all id = true) : ((c == true) :: l).all id = true := by subst h; simpa using h2
theorem all_f {c : Bool} {l : List Bool} (h : ¬ c = true) (h2 : l.all id = true) : ((c == false) :: l).all id = true := by
  cases c with
  | false => simpa using h2
  | true => exact absurd rfl h

def gridsP (m : Nat) (x : Ty.den (.pair (.int .i64) (.pair (.int .i64) (.int .i64)))) : Option Unit :=
  if decide ((x).1 ≥ 0) = true then
    if decide ((x).1 ≤ 1099511627776) = true then
      if decide (((x).2).1 ≥ 1) = true then
        if decide (((x).2).1 ≤ 1048576) = true then
          if decide (((x).2).2 ≥ 0) = true then
            if (decide (((x).2).2 ≤ 200) == decide (((x).2).2 ≤ 200)) = true then
              some ()
            else
              none
          else
            some ()
        else
          some ()
      else
        some ()
    else
      some ()
  else
    some ()
theorem gridsP_ok (m : Nat) (x : Ty.den (.pair (.int .i64) (.pair (.int .i64) (.int .i64)))) (q : Unit) (h : gridsP m x = some q) : (evCall F S (m + 4) 4 [(.agg [(.d (.int .i64 (x).1)), (.d (.int .i64 ((x).2).1)), (.d (.int .i64 ((x).2).2))])] []).run = some (.d (.bool true), []) := by
  unfold gridsP at h
  refine ite_cases h (fun c0 h => ?_) (fun c0 h => ?_)
  · skip
    refine ite_cases h (fun c4 h => ?_) (fun c4 h => ?_)
    · skip
      refine ite_cases h (fun c7 h => ?_) (fun c7 h => ?_)
      · skip
        refine ite_cases h (fun c12 h => ?_) (fun c12 h => ?_)
        · skip
          refine ite_cases h (fun c15 h => ?_) (fun c15 h => ?_)
          · skip
            refine ite_cases h (fun c40 h => ?_) (fun c40 h => ?_)
            · skip
              cases h
              refine runT_ok (LS := fun k => none) (fn := fn4) (r := .d (.bool true)) (B' := []) (vis := []) (by kernel_rfl) rfl (by kernel_rfl) (M.run_of_path _ [true, true, true, true, true, true, true, true, true, true, true, true, true, true, true, true, true, true, true, true, true, true, true, true, true, true, true, true, true, true, true, true, true, true, true, true, true, true, true, true, true, true] _ [(decide ((x).1 ≥ 0) == true), (decide ((x).1 ≥ 0) == true), (decide ((x).1 ≥ 0) == true), (decide ((x).1 ≥ 0) == true), (decide ((x).1 ≤ 1099511627776) == true), (decide ((x).1 ≤ 1099511627776) == true), (decide ((x).1 ≤ 1099511627776) == true), (decide (((x).2).1 ≥ 1) == true), (decide (((x).2).1 ≥ 1) == true), (decide (((x).2).1 ≥ 1) == true), (decide (((x).2).1 ≥ 1) == true), (decide ((x).1 ≤ 1099511627776) == true), (decide (((x).2).1 ≤ 1048576) == true), (decide (((x).2).1 ≤ 1048576) == true), (decide (((x).2).1 ≤ 1048576) == true), (decide (((x).2).2 ≥ 0) == true), (decide (((x).2).2 ≥ 0) == true), (decide (((x).2).2 ≥ 0) == true), (decide (((x).2).2 ≥ 0) == true), (decide (((x).2).1 ≤ 1048576) == true), (decide ((x).1 ≥ 0) == true), (decide ((x).1 ≥ 0) == true), (decide ((x).1 ≥ 0) == true), (decide ((x).1 ≥ 0) == true), (decide ((x).1 ≤ 1099511627776) == true), (decide ((x).1 ≤ 1099511627776) == true), (decide ((x).1 ≤ 1099511627776) == true), (decide ((x).1 ≤ 1099511627776) == true), (decide (((x).2).1 ≥ 1) == true), (decide (((x).2).1 ≥ 1) == true), (decide (((x).2).1 ≥ 1) == true), (decide (((x).2).1 ≥ 1) == true), (decide (((x).2).1 ≤ 1048576) == true), (decide (((x).2).1 ≤ 1048576) == true), (decide (((x).2).1 ≤ 1048576) == true), (decide (((x).2).1 ≤ 1048576) == true), (decide (((x).2).2 ≥ 0) == true), (decide (((x).2).2 ≥ 0) == true), (decide (((x).2).2 ≥ 0) == true), (decide (((x).2).2 ≥ 0) == true), ((decide (((x).2).2 ≤ 200) == decide (((x).2).2 ≤ 200)) == true), ((decide (((x).2).2 ≤ 200) == decide (((x).2).2 ≤ 200)) == true)] (by kernel_rfl) (all_t c0 (all_t c0 (all_t c0 (all_t c0 (all_t c4 (all_t c4 (all_t c4 (all_t c7 (all_t c7 (all_t c7 (all_t c7 (all_t c4 (all_t c12 (all_t c12 (all_t c12 (all_t c15 (all_t c15 (all_t c15 (all_t c15 (all_t c12 (all_t c0 (all_t c0 (all_t c0 (all_t c0 (all_t c4 (all_t c4 (all_t c4 (all_t c4 (all_t c7 (all_t c7 (all_t c7 (all_t c7 (all_t c12 (all_t c12 (all_t c12 (all_t c12 (all_t c15 (all_t c15 (all_t c15 (all_t c15 (all_t c40 (all_t c40 rfl))))))))))))))))))))))))))))))))))))))))))) ?_
              intro p hp; cases hp
            · skip
              cases h
          · skip
            cases h
            refine runT_ok (LS := fun k => none) (fn := fn4) (r := .d (.bool true)) (B' := []) (vis := []) (by kernel_rfl) rfl (by kernel_rfl) (M.run_of_path _ [true, true, true, true, true, true, true, true, true, true, true, true, true, true, true, false, false, false, false, true, true, true, true, true, true, true, true, true, true, true, true, true, true, true, true, true, false, false, false, false, true, true] _ [(decide ((x).1 ≥ 0) == true), (decide ((x).1 ≥ 0) == true), (decide ((x).1 ≥ 0) == true), (decide ((x).1 ≥ 0) == true), (decide ((x).1 ≤ 1099511627776) == true), (decide ((x).1 ≤ 1099511627776) == true), (decide ((x).1 ≤ 1099511627776) == true), (decide (((x).2).1 ≥ 1) == true), (decide (((x).2).1 ≥ 1) == true), (decide (((x).2).1 ≥ 1) == true), (decide (((x).2).1 ≥ 1) == true), (decide ((x).1 ≤ 1099511627776) == true), (decide (((x).2).1 ≤ 1048576) == true), (decide (((x).2).1 ≤ 1048576) == true), (decide (((x).2).1 ≤ 1048576) == true), (decide (((x).2).2 ≥ 0) == false), (decide (((x).2).2 ≥ 0) == false), (decide (((x).2).2 ≥ 0) == false), (decide (((x).2).2 ≥ 0) == false), (decide (((x).2).1 ≤ 1048576) == true), (decide ((x).1 ≥ 0) == true), (decide ((x).1 ≥ 0) == true), (decide ((x).1 ≥ 0) == true), (decide ((x).1 ≥ 0) == true), (decide ((x).1 ≤ 1099511627776) == true), (decide ((x).1 ≤ 1099511627776) == true), (decide ((x).1 ≤ 1099511627776) == true), (decide ((x).1 ≤ 1099511627776) == true), (decide (((x).2).1 ≥ 1) == true), (decide (((x).2).1 ≥ 1) == true), (decide (((x).2).1 ≥ 1) == true), (decide (((x).2).1 ≥ 1) == true), (decide (((x).2).1 ≤ 1048576) == true), (decide (((x).2).1 ≤ 1048576) == true), (decide (((x).2).1 ≤ 1048576) == true), (decide (((x).2).1 ≤ 1048576) == true), (decide (((x).2).2 ≥ 0) == false), (decide (((x).2).2 ≥ 0) == false), (decide (((x).2).2 ≥ 0) == false), (decide (((x).2).2 ≥ 0) == false), (true == true), (true == true)] (by kernel_rfl) (all_t c0 (all_t c0 (all_t c0 (all_t c0 (all_t c4 (all_t c4 (all_t c4 (all_t c7 (all_t c7 (all_t c7 (all_t c7 (all_t c4 (all_t c12 (all_t c12 (all_t c12 (all_f c15 (all_f c15 (all_f c15 (all_f c15 (all_t c12 (all_t c0 (all_t c0 (all_t c0 (all_t c0 (all_t c4 (all_t c4 (all_t c4 (all_t c4 (all_t c7 (all_t c7 (all_t c7 (all_t c7 (all_t c12 (all_t c12 (all_t c12 (all_t c12 (all_f c15 (all_f c15 (all_f c15 (all_f c15 (all_t rfl (all_t rfl rfl))))))))))))))))))))))))))))))))))))))))))) ?_
            intro p hp; cases hp
        · skip
          cases h
          refine runT_ok (LS := fun k => none) (fn := fn4) (r := .d (.bool true)) (B' := []) (vis := []) (by kernel_rfl) rfl (by kernel_rfl) (M.run_of_path _ [true, true, true, true, true, true, true, true, true, true, true, true, false, false, false, false, true, true, true, true, true, true, true, true, true, true, true, true, false, false, false, false, false, false, false, false, true, true] _ [(decide ((x).1 ≥ 0) == true), (decide ((x).1 ≥ 0) == true), (decide ((x).1 ≥ 0) == true), (decide ((x).1 ≥ 0) == true), (decide ((x).1 ≤ 1099511627776) == true), (decide ((x).1 ≤ 1099511627776) == true), (decide ((x).1 ≤ 1099511627776) == true), (decide (((x).2).1 ≥ 1) == true), (decide (((x).2).1 ≥ 1) == true), (decide (((x).2).1 ≥ 1) == true), (decide (((x).2).1 ≥ 1) == true), (decide ((x).1 ≤ 1099511627776) == true), (decide (((x).2).1 ≤ 1048576) == false), (decide (((x).2).1 ≤ 1048576) == false), (decide (((x).2).1 ≤ 1048576) == false), (decide (((x).2).1 ≤ 1048576) == false), (decide ((x).1 ≥ 0) == true), (decide ((x).1 ≥ 0) == true), (decide ((x).1 ≥ 0) == true), (decide ((x).1 ≥ 0) == true), (decide ((x).1 ≤ 1099511627776) == true), (decide ((x).1 ≤ 1099511627776) == true), (decide ((x).1 ≤ 1099511627776) == true), (decide ((x).1 ≤ 1099511627776) == true), (decide (((x).2).1 ≥ 1) == true), (decide (((x).2).1 ≥ 1) == true), (decide (((x).2).1 ≥ 1) == true), (decide (((x).2).1 ≥ 1) == true), (decide (((x).2).1 ≤ 1048576) == false), (decide (((x).2).1 ≤ 1048576) == false), (decide (((x).2).1 ≤ 1048576) == false), (decide (((x).2).1 ≤ 1048576) == false), (false == false), (false == false), (false == false), (false == false), (true == true), (true == true)] (by kernel_rfl) (all_t c0 (all_t c0 (all_t c0 (all_t c0 (all_t c4 (all_t c4 (all_t c4 (all_t c7 (all_t c7 (all_t c7 (all_t c7 (all_t c4 (all_f c12 (all_f c12 (all_f c12 (all_f c12 (all_t c0 (all_t c0 (all_t c0 (all_t c0 (all_t c4 (all_t c4 (all_t c4 (all_t c4 (all_t c7 (all_t c7 (all_t c7 (all_t c7 (all_f c12 (all_f c12 (all_f c12 (all_f c12 (all_f Bool.false_ne_true (all_f Bool.false_ne_true (all_f Bool.false_ne_true (all_f Bool.false_ne_true (all_t rfl (all_t rfl rfl))))))))))))))))))))))))))))))))))))))) ?_
          intro p hp; cases hp
      · skip
        cases h
        refine runT_ok (LS := fun k => none) (fn := fn4) (r := .d (.bool true)) (B' := []) (vis := []) (by kernel_rfl) rfl (by kernel_rfl) (M.run_of_path _ [true, true, true, true, true, true, true, false, false, false, false, true, false, false, false, false, true, true, true, true, true, true, true, true, false, false, false, false, false, false, false, false, false, false, false, false, true, true] _ [(decide ((x).1 ≥ 0) == true), (decide ((x).1 ≥ 0) == true), (decide ((x).1 ≥ 0) == true), (decide ((x).1 ≥ 0) == true), (decide ((x).1 ≤ 1099511627776) == true), (decide ((x).1 ≤ 1099511627776) == true), (decide ((x).1 ≤ 1099511627776) == true), (decide (((x).2).1 ≥ 1) == false), (decide (((x).2).1 ≥ 1) == false), (decide (((x).2).1 ≥ 1) == false), (decide (((x).2).1 ≥ 1) == false), (decide ((x).1 ≤ 1099511627776) == true), (false == false), (false == false), (false == false), (false == false), (decide ((x).1 ≥ 0) == true), (decide ((x).1 ≥ 0) == true), (decide ((x).1 ≥ 0) == true), (decide ((x).1 ≥ 0) == true), (decide ((x).1 ≤ 1099511627776) == true), (decide ((x).1 ≤ 1099511627776) == true), (decide ((x).1 ≤ 1099511627776) == true), (decide ((x).1 ≤ 1099511627776) == true), (decide (((x).2).1 ≥ 1) == false), (decide (((x).2).1 ≥ 1) == false), (decide (((x).2).1 ≥ 1) == false), (decide (((x).2).1 ≥ 1) == false), (false == false), (false == false), (false == false), (false == false), (false == false), (false == false), (false == false), (false == false), (true == true), (true == true)] (by kernel_rfl) (all_t c0 (all_t c0 (all_t c0 (all_t c0 (all_t c4 (all_t c4 (all_t c4 (all_f c7 (all_f c7 (all_f c7 (all_f c7 (all_t c4 (all_f Bool.false_ne_true (all_f Bool.false_ne_true (all_f Bool.false_ne_true (all_f Bool.false_ne_true (all_t c0 (all_t c0 (all_t c0 (all_t c0 (all_t c4 (all_t c4 (all_t c4 (all_t c4 (all_f c7 (all_f c7 (all_f c7 (all_f c7 (all_f Bool.false_ne_true (all_f Bool.false_ne_true (all_f Bool.false_ne_true (all_f Bool.false_ne_true (all_f Bool.false_ne_true (all_f Bool.false_ne_true (all_f Bool.false_ne_true (all_f Bool.false_ne_true (all_t rfl (all_t rfl rfl))))))))))))))))))))))))))))))))))))))) ?_
        intro p hp; cases hp
    · skip
      cases h
      refine runT_ok (LS := fun k => none) (fn := fn4) (r := .d (.bool true)) (B' := []) (vis := []) (by kernel_rfl) rfl (by kernel_rfl) (M.run_of_path _ [true, true, true, true, false, false, false, false, false, false, false, false, true, true, true, true, false, false, false, false, false, false, false, false, false, false, false, false, false, false, false, false, true, true] _ [(decide ((x).1 ≥ 0) == true), (decide ((x).1 ≥ 0) == true), (decide ((x).1 ≥ 0) == true), (decide ((x).1 ≥ 0) == true), (decide ((x).1 ≤ 1099511627776) == false), (decide ((x).1 ≤ 1099511627776) == false), (decide ((x).1 ≤ 1099511627776) == false), (decide ((x).1 ≤ 1099511627776) == false), (false == false), (false == false), (false == false), (false == false), (decide ((x).1 ≥ 0) == true), (decide ((x).1 ≥ 0) == true), (decide ((x).1 ≥ 0) == true), (decide ((x).1 ≥ 0) == true), (decide ((x).1 ≤ 1099511627776) == false), (decide ((x).1 ≤ 1099511627776) == false), (decide ((x).1 ≤ 1099511627776) == false), (decide ((x).1 ≤ 1099511627776) == false), (false == false), (false == false), (false == false), (false == false), (false == false), (false == false), (false == false), (false == false), (false == false), (false == false), (false == false), (false == false), (true == true), (true == true)] (by kernel_rfl) (all_t c0 (all_t c0 (all_t c0 (all_t c0 (all_f c4 (all_f c4 (all_f c4 (all_f c4 (all_f Bool.false_ne_true (all_f Bool.false_ne_true (all_f Bool.false_ne_true (all_f Bool.false_ne_true (all_t c0 (all_t c0 (all_t c0 (all_t c0 (all_f c4 (all_f c4 (all_f c4 (all_f c4 (all_f Bool.false_ne_true (all_f Bool.false_ne_true (all_f Bool.false_ne_true (all_f Bool.false_ne_true (all_f Bool.false_ne_true (all_f Bool.false_ne_true (all_f Bool.false_ne_true (all_f Bool.false_ne_true (all_f Bool.false_ne_true (all_f Bool.false_ne_true (all_f Bool.false_ne_true (all_f Bool.false_ne_true (all_t rfl (all_t rfl rfl))))))))))))))))))))))))))))))))))) ?_
      intro p hp; cases hp
  · skip
    cases h
    refine runT_ok (LS := fun k => none) (fn := fn4) (r := .d (.bool true)) (B' := []) (vis := []) (by kernel_rfl) rfl (by kernel_rfl) (M.run_of_path _ [false, false, false, false, false, false, false, false, false, false, false, false, false, false, false, false, false, false, false, false, false, false, false, false, false, false, false, false, false, false, false, false, true, true] _ [(decide ((x).1 ≥ 0) == false), (decide ((x).1 ≥ 0) == false), (decide ((x).1 ≥ 0) == false), (decide ((x).1 ≥ 0) == false), (false == false), (false == false), (false == false), (false == false), (false == false), (false == false), (false == false), (false == false), (decide ((x).1 ≥ 0) == false), (decide ((x).1 ≥ 0) == false), (decide ((x).1 ≥ 0) == false), (decide ((x).1 ≥ 0) == false), (false == false), (false == false), (false == false), (false == false), (false == false), (false == false), (false == false), (false == false), (false == false), (false == false), (false == false), (false == false), (false == false), (false == false), (false == false), (false == false), (true == true), (true == true)] (by kernel_rfl) (all_f c0 (all_f c0 (all_f c0 (all_f c0 (all_f Bool.false_ne_true (all_f Bool.false_ne_true (all_f Bool.false_ne_true (all_f Bool.false_ne_true (all_f Bool.false_ne_true (all_f Bool.false_ne_true (all_f Bool.false_ne_true (all_f Bool.false_ne_true (all_f c0 (all_f c0 (all_f c0 (all_f c0 (all_f Bool.false_ne_true (all_f Bool.false_ne_true (all_f Bool.false_ne_true (all_f Bool.false_ne_true (all_f Bool.false_ne_true (all_f Bool.false_ne_true (all_f Bool.false_ne_true (all_f Bool.false_ne_true (all_f Bool.false_ne_true (all_f Bool.false_ne_true (all_f Bool.false_ne_true (all_f Bool.false_ne_true (all_f Bool.false_ne_true (all_f Bool.false_ne_true (all_f Bool.false_ne_true (all_f Bool.false_ne_true (all_t rfl (all_t rfl rfl))))))))))))))))))))))))))))))))))) ?_
    intro p hp; cases hp

theorem pure (m : Nat) (x : Ty.den (.pair (.int .i64) (.pair (.int .i64) (.int .i64)))) : ∃ q, gridsP m x = some q := by
  unfold gridsP
  repeat (first | exact ⟨_, rfl⟩ | split)
  all_goals simp_all
theorem law (x : Ty.den (.pair (.int .i64) (.pair (.int .i64) (.int .i64)))) (h : Ty.ok (.pair (.int .i64) (.pair (.int .i64) (.int .i64))) x) : ∃ n B', (evCall (fnsOf Tryz.prog kinds) S n 4 [argAV true (.pair (.int .i64) (.pair (.int .i64) (.int .i64))) x] []).run = some (.d (.bool true), B') := by
  obtain ⟨q, hq⟩ := pure 0 x
  exact ⟨_, _, gridsP_ok 0 x q hq⟩
end Go.Proofs.YtnmakkgomplchaaGreatDoor.EvS.RuleGrids
