/- Calls over plain data that were reckoned once. No condition. -/
import Derived.Test.YtnmakkgomplchaaGreatDoorEvZd
namespace Go.Ev
set_option linter.unusedVariables false
set_option linter.unusedSimpArgs false
set_option linter.unusedSectionVars false
variable [Ctx]

def D.alike : D → D → Bool
  | .int k n, .int k' n' => k == k' && n == n'
  | .bool b, .bool b' => b == b'
  | .str l, .str l' => l == l'
  | .nils, .nils => true
  | _, _ => false

theorem D.alike_eq {a b : D} (h : D.alike a b = true) : a = b := by
  unfold D.alike at h
  split at h
  · simp only [Bool.and_eq_true, beq_iff_eq] at h
    rw [h.1, h.2]
  · simp only [beq_iff_eq] at h
    rw [h]
  · simp only [beq_iff_eq] at h
    rw [h]
  · rfl
  · cases h

def alikeL : List D → List D → Bool
  | [], [] => true
  | a :: as, b :: bs => D.alike a b && alikeL as bs
  | _, _ => false

theorem alikeL_eq : ∀ {a b : List D}, alikeL a b = true → a = b
  | [], [], _ => rfl
  | [], _ :: _, h => by simp [alikeL] at h
  | _ :: _, [], h => by simp [alikeL] at h
  | a :: as, b :: bs, h => by
    simp only [alikeL, Bool.and_eq_true] at h
    rw [D.alike_eq h.1, alikeL_eq h.2]

def memoG : List (List D × AV) → List D → M AV
  | [], _ => .fail
  | (as, r) :: rest, ds => cond (alikeL as ds) (.ret r) (memoG rest ds)

section
variable {P : Program} [TagOK P]

/-- What was reckoned of a call. -/
def Known (P : Program) (f : FuncId) (ds : List D) (r : AV) : Prop :=
  (∃ fn, P.funcs[f]? = some fn ∧ fn.body.isNone = false ∧ (fn.name == "runtime.NumGoroutine") = false) ∧
  ∀ (X : Blocks) (w : World) (vs : List Value), (∀ c, X c → c < w.heap.size) → (Ctx.inv w ∧ ∀ c, Ctx.tab c → c < w.heap.size) → VRs X (fun _ => none) (fun _ => False) w (ds.map .d) vs →
    Calls P f vs.toArray w fun e w' => ∃ v, e = .returned v ∧ VR X (fun _ => none) (fun _ => False) w' r v ∧ Fr (fun _ => False) w (fun _ => False) w'

theorem known (hm : P.follows .mixedOrders = true) {kinds : FuncId → Bool × Bool} {S : FuncId → Option (List AV → Boxes → M (AV × Boxes))} (hS : ∀ f s, S f = some s → CallAt P f s) {n : Nat} {f : FuncId} {ds : List D} {r : AV}
    (h : (evCall (fnsOf P kinds) S n f (ds.map .d) []).run = some (r, [])) : Known P f ds r := by
  obtain ⟨h1, _, h3⟩ := evCall_at hm kinds S hS n f (ds.map .d) [] _ _ h
  refine ⟨h1, fun X w vs hX hI hv => ?_⟩
  have hE := SimB.empty (X := X) (β := fun _ => none) (N := (· < ([] : Boxes).length)) hX hI
  have hv' : VRs (All X (fun _ => none) (look [])) (fun _ => none) (· < ([] : Boxes).length) w (ds.map .d) vs := by
    refine VRs.move ?_ _ _ hv
    exact ⟨Nat.le_refl _, fun c _ hc => ⟨fun h => h.elim hc own_empty, rfl⟩, fun c arr e fz h => ⟨arr, fz, h, rfl⟩, fun b hb => hb.elim, fun b hb => hb.elim⟩
  refine (h3 X (fun _ => none) w vs hE hv').mono ?_
  rintro e w' ⟨v, β', rfl, k1, k2, k3, _⟩
  refine ⟨v, rfl, k2.move ⟨Nat.le_refl _, fun c _ hc => ⟨fun hx => hc (.inl hx), rfl⟩, fun c arr e fz h => ⟨arr, fz, h, rfl⟩, fun b hb => absurd hb (Nat.not_lt_zero b), fun b hb => absurd hb (Nat.not_lt_zero b)⟩, ⟨k3.os, k3.tape, k3.output, k3.size, fun c hc _ => ⟨fun h => h, (k3.blk c hc fun h => own_empty h).2⟩, k3.shape⟩⟩

theorem memo_at {f : FuncId} {l : List (List D × AV)} (h : ∀ p, p ∈ l → Known P f p.1 p.2) : CallAt P f (plainV (memoG l)) := by
  refine plainV_at fun ds r hr => ?_
  induction l with
  | nil => simp [memoG, M.run] at hr
  | cons p l ih =>
    obtain ⟨as, r0⟩ := p
    simp only [memoG] at hr
    cases he : alikeL as ds with
    | true =>
      rw [he] at hr
      simp only [cond_true, M.run, Option.some.injEq] at hr
      subst hr
      have := alikeL_eq he
      subst this
      exact h _ (List.mem_cons_self ..)
    | false =>
      rw [he] at hr
      exact ih (fun p hp => h p (List.mem_cons_of_mem _ hp)) hr

end
end Go.Ev
