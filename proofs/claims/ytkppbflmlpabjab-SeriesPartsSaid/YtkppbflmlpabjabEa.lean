/- What the functions below call. No condition. -/
import Derived.Test.YtkppbflmlpabjabProg
import Derived.Test.YtkppbflmlpabjabEvZl
import Derived.Test.YtkppbflmlpabjabEvZq
import Derived.Test.YtkppbflmlpabjabEvZp
import Derived.Test.YtkppbflmlpabjabEvZe
import Derived.Test.YtkppbflmlpabjabEvZr
import Derived.KernelRfl
namespace Go.Proofs.Ytkppbflmlpabjab.Dec
open Go.Ev
set_option linter.unusedVariables false
set_option linter.unusedSimpArgs false
set_option maxRecDepth 100000
theorem mixed : Try.prog.follows .mixedOrders = true := by kernel_rfl
instance ctx : Ctx := ⟨fun t e => t = .int .u8 → e = 5, fun _ => False, fun _ => True, fun _ _ _ h => h⟩
instance tagOK : TagOK Try.prog := tagOK_of (u := 5) (fun _ _ => Iff.rfl) (by kernel_rfl)

def kinds : FuncId → Bool × Bool := fun _ => (true, false)
def hds : FuncId → Nat → Hd := fun f => if f = 3 then fun k => if k = 65032 then ⟨[], [(1, (.pair (.pair (.int .i64) (.pair (.int .i64) (.int .i64))) (.pair .bool (.pair (.int .i64) (.pair .bool (.pair (.sl .str) (.int .i64))))))), (2, (.pair (.pair (.int .i64) (.pair (.int .i64) (.int .i64))) (.pair .bool (.pair (.int .i64) (.pair .bool (.pair (.sl .str) (.int .i64)))))))]⟩ else ⟨[], []⟩ else if f = 4 then fun k => if k = 32264 then ⟨[], [(1, (.pair (.pair (.int .i64) (.pair (.int .i64) (.int .i64))) (.pair .bool (.pair (.int .i64) (.pair .bool (.pair (.sl .str) (.int .i64))))))), (2, (.pair (.pair (.int .i64) (.pair (.int .i64) (.int .i64))) (.pair .bool (.pair (.int .i64) (.pair .bool (.pair (.sl .str) (.int .i64))))))), (3, (.pair (.pair (.int .i64) (.pair (.int .i64) (.int .i64))) (.pair .bool (.pair (.int .i64) (.pair .bool (.pair (.sl .str) (.int .i64)))))))]⟩ else ⟨[], []⟩ else if f = 10 then fun k => if k = 29361030 then ⟨[], [(1, (.sl (.pair (.int .i64) (.int .i64))))]⟩ else ⟨[], []⟩ else noHd
@[reducible] noncomputable def F := fnsH Try.prog kinds hds
@[reducible] noncomputable def byref : FuncId → Bool := fun g => match F g with | some h => h.byref | none => false
noncomputable def S0 : FuncId → Option (List AV → Boxes → M (AV × Boxes)) := fun _ => none
set_option maxHeartbeats 20000000 in
theorem S0_ok : ∀ f s, S0 f = some s → CallAt Try.prog f s := fun f s h => by cases h
theorem some_getD {α : Type} {o : Option α} {d : α} (h : o.isSome = true) : o = some (o.getD d) := by
  cases o with
  | none => cases h
  | some a => rfl
theorem ite_cases {c : Prop} [Decidable c] {α : Type} {a b : Option α} {q : α} {G : Prop} (h : (if c then a else b) = some q) (h1 : c → a = some q → G) (h2 : ¬ c → b = some q → G) : G := by
  by_cases hc : c
  · rw [if_pos hc] at h; exact h1 hc h
  · rw [if_neg hc] at h; exact h2 hc h
theorem all_t {c : Bool} {l : List Bool} (h : c = true) (h2 : l.all id = true) : ((c == true) :: l).all id = true := by subst h; simpa using h2
theorem all_f {c : Bool} {l : List Bool} (h : ¬ c = true) (h2 : l.all id = true) : ((c == false) :: l).all id = true := by
  cases c with
  | false => simpa using h2
  | true => exact absurd rfl h
theorem turns_eq {h : Hd} {k0 keep : Nat} {f : LoopG} {n : Nat} {e e2 : Env} {B B2 : Boxes} {r : Option (AEx × Env × Boxes)} (h1 : e = e2) (h2 : B = B2) (h3 : (turns h k0 keep f n e2 B2).run = r) : (turns h k0 keep f n e B).run = r := by
  subst h1; subst h2; exact h3
theorem all_nil : ([] : List Bool).all id = true := rfl
theorem all_nt {c : Bool} {l : List Bool} (h : c = true) (h2 : l.all id = true) : (((!c) == false) :: l).all id = true := by subst h; simpa using h2
theorem all_nf {c : Bool} {l : List Bool} (h : ¬ c = true) (h2 : l.all id = true) : (((!c) == true) :: l).all id = true := by
  cases c with
  | false => simpa using h2
  | true => exact absurd rfl h
theorem all_nnt {c : Bool} {l : List Bool} (h : c = true) (h2 : l.all id = true) : (((!(!c)) == true) :: l).all id = true := by subst h; simpa using h2
theorem all_nnf {c : Bool} {l : List Bool} (h : ¬ c = true) (h2 : l.all id = true) : (((!(!c)) == false) :: l).all id = true := by
  cases c with
  | false => simpa using h2
  | true => exact absurd rfl h

noncomputable def S1 : FuncId → Option (List AV → Boxes → M (AV × Boxes)) := fun f => if f = 15 then some withinS else S0 f
set_option maxHeartbeats 20000000 in
theorem S1_ok : ∀ f s, S1 f = some s → CallAt Try.prog f s := by
  intro f s h
  unfold S1 at h
  split at h
  · rename_i e; subst e; cases h; exact (within_at mixed (kinds := kinds) (by kernel_rfl))
  · exact S0_ok f s h

noncomputable def S2 : FuncId → Option (List AV → Boxes → M (AV × Boxes)) := fun f => if f = 45 then some (cloneR (.pair (.int .i64) (.int .i64)) 16) else S1 f
set_option maxHeartbeats 20000000 in
theorem S2_ok : ∀ f s, S2 f = some s → CallAt Try.prog f s := by
  intro f s h
  unfold S2 at h
  split at h
  · rename_i e; subst e; cases h; exact (cloneR_at mixed 49 49 55 (.pair (.int .i64) (.int .i64)) 16 Try.func45 (by kernel_rfl) (by kernel_rfl) (by kernel_rfl) (by kernel_rfl) (by kernel_rfl) (by kernel_rfl) (by kernel_rfl) (by kernel_rfl) (by kernel_rfl) (by kernel_rfl) (by kernel_rfl) (by kernel_rfl) (by kernel_rfl) (by kernel_rfl) (by kernel_rfl) (by kernel_rfl) (by kernel_rfl) (by kernel_rfl) (by kernel_rfl) )
  · exact S1_ok f s h

end Go.Proofs.Ytkppbflmlpabjab.Dec
