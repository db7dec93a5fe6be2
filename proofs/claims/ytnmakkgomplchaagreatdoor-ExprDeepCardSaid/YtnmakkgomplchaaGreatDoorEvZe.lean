/- One type of bytes. No condition. -/
import Derived.Test.YtnmakkgomplchaaGreatDoorEvZd
import Derived.KernelRfl
namespace Go.Ev
set_option linter.unusedVariables false
set_option linter.unusedSimpArgs false

theorem elemTy_lt {P : Program} {e : TypeId} (h : elemTy P e = some (.int .u8)) : e < P.types.size := by
  unfold elemTy at h
  split at h
  · split at h
    · rename_i hh
      cases h
      exact (hh.2.2 rfl).1
    · cases h
  · cases h

def byteOnly (P : Program) (u : TypeId) : Bool := (List.range P.types.size).all fun e => match elemTy P e with
  | some (.int .u8) => e == u
  | _ => true

theorem byteOnly_spec {P : Program} {u : TypeId} (h : byteOnly P u = true) : ∀ e, elemTy P e = some (.int .u8) → e = u := by
  intro e he
  unfold byteOnly at h
  have := List.all_eq_true.1 h e (List.mem_range.2 (elemTy_lt he))
  rw [he] at this
  simpa using this

theorem tagOK_of {P : Program} {u : TypeId} [c : Ctx] (hc : ∀ t e, Ctx.tag t e ↔ (t = .int .u8 → e = u)) (h : byteOnly P u = true) : TagOK P :=
  ⟨fun e t he => (hc t e).2 fun ht => by subst ht; exact byteOnly_spec h e he, fun e e' he ht => ((hc _ _).1 ht rfl).trans (byteOnly_spec h e he).symm⟩

end Go.Ev
