/- ExprDeep: at every number and both ways it says true. Conditions: none. -/
import Derived.Test.YtnmakkgomplchaaGreatDoorExprDeep0
import Derived.Test.YtnmakkgomplchaaGreatDoorExprDeep1
namespace Go.Proofs.YtnmakkgomplchaaGreatDoor.EvS.ExprDeep
open Go.Ev
set_option linter.unusedVariables false
set_option maxRecDepth 100000
theorem one {n : Int} {b : Bool} {c : Int} (h : (evCall (fnsOf Tryz.prog kinds) (Sd n c) 300 3 [.d (.int .i64 n), .d (.bool b)] []).mixed [true] = some ((.d (.bool true), []), [decide (n = n) == true])) :
    (evCall (fnsOf Tryz.prog kinds) (Sd n c) 300 3 [.d (.int .i64 n), .d (.bool b)] []).run = some (.d (.bool true), []) := M.run_of_mixed _ _ _ _ h (by simp)
theorem all (n : Int) (b : Bool) : ∃ c, withinI n 1 12 = c ∧ (evCall (fnsOf Tryz.prog kinds) (Sd n c) 300 3 [.d (.int .i64 n), .d (.bool b)] []).run = some (.d (.bool true), []) := by
  have h1 : 1 ≤ withinI n 1 12 := by unfold withinI; omega
  have h2 : withinI n 1 12 ≤ 12 := by unfold withinI; omega
  generalize withinI n 1 12 = c at h1 h2
  obtain h | h | h | h | h | h | h | h | h | h | h | h : c = 1 ∨ c = 2 ∨ c = 3 ∨ c = 4 ∨ c = 5 ∨ c = 6 ∨ c = 7 ∨ c = 8 ∨ c = 9 ∨ c = 10 ∨ c = 11 ∨ c = 12 := by omega
  · subst h; exact ⟨_, rfl, match b with | false => one (d1false n) | true => one (d1true n)⟩
  · subst h; exact ⟨_, rfl, match b with | false => one (d2false n) | true => one (d2true n)⟩
  · subst h; exact ⟨_, rfl, match b with | false => one (d3false n) | true => one (d3true n)⟩
  · subst h; exact ⟨_, rfl, match b with | false => one (d4false n) | true => one (d4true n)⟩
  · subst h; exact ⟨_, rfl, match b with | false => one (d5false n) | true => one (d5true n)⟩
  · subst h; exact ⟨_, rfl, match b with | false => one (d6false n) | true => one (d6true n)⟩
  · subst h; exact ⟨_, rfl, match b with | false => one (d7false n) | true => one (d7true n)⟩
  · subst h; exact ⟨_, rfl, match b with | false => one (d8false n) | true => one (d8true n)⟩
  · subst h; exact ⟨_, rfl, match b with | false => one (d9false n) | true => one (d9true n)⟩
  · subst h; exact ⟨_, rfl, match b with | false => one (d10false n) | true => one (d10true n)⟩
  · subst h; exact ⟨_, rfl, match b with | false => one (d11false n) | true => one (d11true n)⟩
  · subst h; exact ⟨_, rfl, match b with | false => one (d12false n) | true => one (d12true n)⟩
theorem law (n : Int) (b : Bool) : ∃ k B' S', (∀ f s, S' f = some s → CallAt Tryz.prog f s) ∧ (evCall (fnsOf Tryz.prog kinds) S' k 3 [argAV false (.int .i64) n, argAV false .bool b] []).run = some (.d (.bool true), B') := by
  obtain ⟨c, h1, h2⟩ := all n b
  exact ⟨300, [], Sd n c, Sd_ok h1, h2⟩
end Go.Proofs.YtnmakkgomplchaaGreatDoor.EvS.ExprDeep
