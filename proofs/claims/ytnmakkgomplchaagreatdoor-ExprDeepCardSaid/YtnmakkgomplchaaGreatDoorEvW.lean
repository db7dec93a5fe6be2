/- One operation in a row of slots. No condition. -/
import Derived.Test.YtnmakkgomplchaaGreatDoorEvV
namespace Go.Ev
set_option linter.unusedVariables false
set_option linter.unusedSimpArgs false
set_option linter.unusedSectionVars false
variable [Ctx]

/-- The heap and a row of slots. -/
structure SimA (X : Blocks) (β : Map) (N : Nat → Prop) (w : World) (env : Env) (a : Act) (B : Boxes) : Prop where
  heap : SimB X β N w (look B)
  len : env.length = a.tmps.size
  slot : ∀ i, VR (All X β (look B)) β N w (env.getD i .top) (a.tmps.getD i undef)

/-- What comes behind. -/
def After (X : Blocks) (β : Map) (N : Nat → Prop) (w : World) (B : Boxes) (al : Nat) (d : List Deferred) (env' : Env) (B' : Boxes) (a' : Act) (w' : World) : Prop :=
  ∃ β' N', SimA X β' N' w' env' a' B' ∧ a'.defers = d ∧ Fr (Own β (look B)) w (Own β' (look B')) w' ∧ (∀ b, N b → N' b ∧ β' b = β b) ∧ (∀ b, N' b → N b ∨ (al ≤ b ∧ b < al + room ∧ look B' b ≠ .dead))

section
variable {P : Program} [TagOK P] {X : Blocks} {β : Map} {N : Nat → Prop} {w : World} {al : Nat} {env env' : Env} {a : Act} {B B' : Boxes}

theorem SimA.put (h : SimA X β N w env a B) {dst : Option Nat} {val : AV} {v : Value} {w' : World} (st : Step X β N w (look B) al (look B') val v w') :
    After X β N w B al a.defers (setD env dst val) B' (a.put dst v) w' := by
  obtain ⟨β', N', s1, s2, s3, s4, s5⟩ := st
  have mv := mv_of (X := X) s3 s4
  refine ⟨β', N', ⟨s1, ?_, ?_⟩, ?_, s3, s4, s5⟩
  · cases dst with
    | none => exact h.len
    | some d => simp [setD, Act.put, h.len]
  · intro i
    cases dst with
    | none => exact (h.slot i).move mv
    | some d =>
      simp only [setD, Act.put]
      by_cases e : i = d
      · subst e
        by_cases hlt : i < env.length
        · have e1 : (env.set i val).getD i .top = val := by simp [List.getD_eq_getElem?_getD, hlt]
          have e2 : (a.tmps.setIfInBounds i v).getD i undef = v := by simp [Array.getD_eq_getD_getElem?, ← h.len, hlt]
          rw [e1, e2]; exact s2
        · have e1 : (env.set i val).getD i .top = .top := by simp [List.getD_eq_getElem?_getD, List.getElem?_eq_none (by simp; omega : (env.set i val).length ≤ i)]
          rw [e1]; exact VR.top_iff.2 trivial
      · have e1 : (env.set d val).getD i .top = env.getD i .top := by simp [List.getD_eq_getElem?_getD, List.getElem?_set, Ne.symm e]
        have e2 : (a.tmps.setIfInBounds d v).getD i undef = a.tmps.getD i undef := by simp [Array.getD_eq_getD_getElem?, Array.getElem?_setIfInBounds, Ne.symm e]
        rw [e1, e2]; exact (h.slot i).move mv
  · cases dst <;> rfl

theorem exec_enter {o : Oper} {c : Call} {x : Operand} {f : FuncId} {caps : Array Value} {ρ : Operand → Value} (ho : o.op = .call c) (hc : c.callee = .value x) (hx : ρ x = .func (.func f) #[] caps) {fn : Func} (hf : P.funcs[f]? = some fn) (hb : fn.body.isNone = false) (hn : (fn.name == "runtime.NumGoroutine") = false) :
    (execOp ρ o).run P w = .ok (.enter f (c.args.map ρ ++ caps)) w := by
  have hn' : ¬ fn.name = "runtime.NumGoroutine" := by simpa using hn
  have hb' : ¬ fn.body = none := by intro e; rw [e] at hb; simp at hb
  simp [execOp, ho, resolve, hc, hx, Deferred.ofValue, invoke, callFunc, hf, hb', hn']

theorem yielded_of {ops : Array Oper} {j d : Nat} {tmps : Array Value} (h : (ops[j]?).bind (·.dst) = some d) : yielded ops tmps j = match tmps.getD d undef with | .bool b => some b | _ => none := by
  unfold yielded
  rw [h]
  simp only [Option.bind_some, Array.getD_eq_getD_getElem?]
  cases tmps[d]? with
  | none => rfl
  | some v => cases v <;> rfl

theorem calls_of {o : Oper} {op : AOp} {xs : List Operand} (h : compOp P o = some (op, xs)) (hcl : op.calls = true) :
    ∃ c, o.op = .call c ∧ ((∃ f, c.callee = .value (.func f) ∧ op = .call f ∧ xs = c.args.toList) ∨ (∃ t, c.callee = .value (.tmp t) ∧ op = .callv ∧ xs = .tmp t :: c.args.toList)) := by
  cases hop : o.op with
  | call c =>
    refine ⟨c, rfl, ?_⟩
    simp only [compOp, hop] at h
    split at h
    · rename_i f hcal
      split at h
      · simp only [Option.some.injEq, Prod.mk.injEq] at h
        obtain ⟨rfl, _⟩ := h
        simp [AOp.calls] at hcl
      · split at h
        · simp only [Option.some.injEq, Prod.mk.injEq] at h
          obtain ⟨rfl, _⟩ := h
          simp [AOp.calls] at hcl
        · simp only [Option.some.injEq, Prod.mk.injEq] at h
          exact .inl ⟨f, hcal, h.1.symm, h.2.symm⟩
    · rename_i t hcal
      simp only [Option.some.injEq, Prod.mk.injEq] at h
      exact .inr ⟨t, hcal, h.1.symm, h.2.symm⟩
    all_goals exfalso
    all_goals (repeat' split at h)
    all_goals first | (cases h; done) | (simp only [Option.some.injEq, Prod.mk.injEq] at h; obtain ⟨rfl, _⟩ := h; simp [AOp.calls] at hcl; done)
  | _ =>
    exfalso
    simp only [compOp, hop] at h
    (repeat' split at h)
    all_goals first | contradiction | (cases h; done) | (simp only [Option.some.injEq, Prod.mk.injEq] at h; obtain ⟨rfl, _⟩ := h; first | contradiction | (simp [AOp.calls] at hcl; done))

theorem evOper_sound {byref : FuncId → Bool} {call : Caller} {ops : Array Oper} {o : Oper} {ao : AOper} {rs ws : List Nat} {K : Act → World → Prop} {Q : Exit → Act → World → Prop} (hc : compOper P ops o = some ao) (hok : CallOK P call)
    (hS : SimA X β N w env a B) (hal : ∀ j, j < room → ¬ N (al + j)) (hr : (evOper byref call ao env B al).run = some (env', B', rs, ws)) (hK : ∀ a' w', After X β N w B al a.defers env' B' a' w' → K a' w') :
    if Region.wanted o (yielded ops a.tmps) = true then o.wp P a w K Q else K (a.put o.dst undef) w := by
  unfold compOper at hc
  split at hc
  · rename_i g hg
    simp only [Option.some.injEq] at hc
    subst hc
    -- the operation itself
    have run : ∀ res, (evOp byref call (compB P o).1 ((compB P o).2.map (rdA env)) B al).run = some res → env' = setD env o.dst res.val → B' = upd B res.writes → o.wp P a w K Q := by
      rintro res hres rfl rfl
      unfold compB at hres
      split at hres
      · rename_i op xs hop
        split at hres
        · rename_i as has
          simp only at hres
          have hargs := compArgs_VR (P := P) a env hS.slot xs as has
          cases hcl : op.calls with
          | false =>
            have hd := evOp_does hop hcl hS.heap (by simpa using hal 0 (by simp [room])) hargs (fun u => rfl) (fun f => rfl) hres
            refine hd.wp fun v w' st => hK _ _ (hS.put ?_)
            rw [look_upd]; exact st
          | true =>
            -- a call
            have fin : ∀ (f : FuncId) (args : List AV) (vs : List Value), (evCallOp byref call f args B al).run = some res → VRs (All X β (look B)) β N w args vs →
                (∀ fn, P.funcs[f]? = some fn → fn.body.isNone = false → (fn.name == "runtime.NumGoroutine") = false → (execOp a.eval o).run P w = .ok (.enter f vs.toArray) w) → o.wp P a w K Q := by
              intro f args vs he hvs hex
              obtain ⟨⟨fn, h1, h2, h3⟩, hcalls⟩ := evCallOp_sound hok he hS.heap hal hvs
              unfold Oper.wp
              rw [hex fn h1 h2 h3, Oper.upon_enter]
              refine hcalls.mono ?_
              rintro e w' ⟨v, rfl, st⟩
              exact hK _ _ (hS.put (by rw [look_upd]; exact st))
            obtain ⟨c, hoo, ⟨f, hcal, rfl, rfl⟩ | ⟨t, hcal, rfl, rfl⟩⟩ := calls_of hop hcl
            · refine fin f _ _ hres hargs fun fn h1 h2 h3 => ?_
              have := exec_enter (P := P) (w := w) (ρ := a.eval) (caps := #[]) hoo hcal rfl h1 h2 h3
              rw [this]
              congr 2
              apply Array.ext'
              simp
            · cases hav : as.map (rdA env) with
              | nil => rw [hav] at hres; simp [evOp, M.run] at hres
              | cons z zs =>
                rw [hav] at hres hargs
                obtain ⟨v0, vs, e, hz, hzs⟩ := VRs.cons hargs
                simp only [List.map_cons, List.cons.injEq] at e
                obtain ⟨e1, e2⟩ := e
                cases z with
                | fn f caps =>
                  simp only [evOp] at hres
                  obtain ⟨cv, h4, h5⟩ := VR.fn_iff.1 hz
                  refine fin f (zs ++ caps) (vs ++ cv.toList) hres ?_ fun fn h1 h2 h3 => ?_
                  · have l1 := VRs.len _ _ hzs
                    have l2 := VRs.len _ _ h5
                    refine VRs.mk _ _ (by simp [l1]; simpa using l2) fun j x y hx hy => ?_
                    rw [List.getElem?_append] at hx hy
                    split at hx
                    · rename_i hlt
                      rw [if_pos (by omega)] at hy
                      exact VRs.get _ _ hzs j x y hx hy
                    · rename_i hlt
                      rw [if_neg (by omega)] at hy
                      exact VRs.get _ _ h5 _ x y hx (by rw [l1]; exact hy)
                  · have := exec_enter (P := P) (w := w) (ρ := a.eval) (caps := cv) hoo hcal (e1.trans h4) h1 h2 h3
                    rw [this]
                    congr 2
                    apply Array.ext'
                    simp [← e2]
                | _ => simp [evOp, M.run] at hres
        · simp [evOp, M.run] at hres
      · simp [evOp, M.run] at hres
    -- the guard
    have skip : env' = setD env o.dst (.tup []) → B' = B → K (a.put o.dst undef) w := by
      rintro rfl rfl
      exact hK _ _ (hS.put (Step.same hS.heap (VR.tup_iff.2 ⟨#[], rfl, by unfold VRs; trivial⟩)))
    unfold evOper at hr
    cases hgd : o.guard with
    | none =>
      rw [hgd] at hg
      simp only [compGuard, Option.some.injEq] at hg
      subst hg
      simp only at hr
      obtain ⟨res, h1, h2⟩ := run_bind_some hr
      simp only [M.run, Option.some.injEq, Prod.mk.injEq] at h2
      rw [if_pos (by simp [Region.wanted, hgd])]
      exact run res h1 h2.1.symm h2.2.1.symm
    | some p =>
      obtain ⟨j, want⟩ := p
      rw [hgd] at hg
      simp only [compGuard] at hg
      split at hg
      · rename_i d hd
        simp only [Option.some.injEq] at hg
        subst hg
        simp only at hr
        have hy := yielded_of (tmps := a.tmps) hd
        have hsl := hS.slot d
        have hwant : Region.wanted o (yielded ops a.tmps) = (yielded ops a.tmps j == some want) := by simp [Region.wanted, hgd]
        split at hr
        · rename_i b hb
          rw [hb] at hsl
          have hv : a.tmps.getD d undef = .bool b := VR.d_iff.1 hsl
          rw [hv] at hy
          simp only at hy
          simp only [M.run] at hr
          rw [hwant, hy]
          by_cases hbw : b = want
          · subst hbw
            simp only [beq_self_eq_true, if_true] at hr ⊢
            obtain ⟨res, h1, h2⟩ := run_bind_some hr
            simp only [M.run, Option.some.injEq, Prod.mk.injEq] at h2
            exact run res h1 h2.1.symm h2.2.1.symm
          · have hne : (b == want) = false := by simpa using hbw
            have hne2 : ((some b : Option Bool) == some want) = false := by simpa using hbw
            simp only [hne, Bool.false_eq_true, if_false, M.run, Option.some.injEq, Prod.mk.injEq] at hr
            rw [hne2]
            simp only [Bool.false_eq_true, if_false]
            exact skip hr.1.symm hr.2.1.symm
        · rename_i hb
          rw [hb] at hsl
          obtain ⟨vs, hv, hvs⟩ := VR.tup_iff.1 hsl
          rw [hv] at hy
          simp only at hy
          rw [hwant, hy]
          simp only [M.run, Option.some.injEq, Prod.mk.injEq] at hr
          rw [show ((none : Option Bool) == some want) = false from rfl]
          simp only [Bool.false_eq_true, if_false]
          exact skip hr.1.symm hr.2.1.symm
        · simp [M.run] at hr
      · cases hg
  · cases hc

end
end Go.Ev
