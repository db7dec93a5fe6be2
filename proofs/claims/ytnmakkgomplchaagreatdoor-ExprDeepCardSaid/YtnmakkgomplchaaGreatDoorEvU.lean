/- A call is the model's: it sees the boxes that its arguments name, and no others. No condition. -/
import Derived.Test.YtnmakkgomplchaaGreatDoorEvS
import Derived.Test.YtnmakkgomplchaaGreatDoorEvT
namespace Go.Ev
set_option linter.unusedVariables false
set_option linter.unusedSimpArgs false
set_option linter.unusedSectionVars false
variable [Ctx]

section
variable {P : Program} {X : Blocks} {β : Map} {N : Nat → Prop} {w : World} {L : Looks} {al : Nat} {ρ : Operand → Value} {o : Oper}

mutual
theorem snap_sound {B : Boxes} : ∀ (a a' : AV) (ws : List (Nat × Box)) (v : Value) (L1 : Looks), SimB X β N w L1 → Cl (look B) L1 → (snap B a).run = some (a', ws) → VR (All X β L1) β N w a v →
    SimB X β N w (updsL L1 ws) ∧ Fr (Own β L1) w (Own β (updsL L1 ws)) w ∧ VR (All X β (updsL L1 ws)) β N w a' v ∧ Cl (look B) (updsL L1 ws)
  | .sr b off len sz cap, a', ws, v, L1, hS, hcl, hr, hv => by
    unfold snap at hr
    obtain ⟨⟨x, ws'⟩, h1, h2⟩ := run_bind_some hr
    simp only [M.run, Option.some.injEq, Prod.mk.injEq] at h2
    obtain ⟨rfl, rfl⟩ := h2
    obtain ⟨a1, a2, a3, a4⟩ := toD_sound hS hcl h1 hv
    exact ⟨a1, a2, VR.d_iff.2 a3, a4⟩
  | .agg cs, a', ws, v, L1, hS, hcl, hr, hv => by
    unfold snap at hr
    obtain ⟨⟨x, ws'⟩, h1, h2⟩ := run_bind_some hr
    simp only [M.run, Option.some.injEq, Prod.mk.injEq] at h2
    obtain ⟨rfl, rfl⟩ := h2
    obtain ⟨vs, e, hvs⟩ := VR.agg_iff.1 hv
    obtain ⟨a1, a2, a3, a4⟩ := snapL_sound cs x ws' _ L1 hS hcl h1 hvs
    exact ⟨a1, a2, VR.agg_iff.2 ⟨vs, e, a3⟩, a4⟩
  | .tup cs, a', ws, v, L1, hS, hcl, hr, hv => by
    unfold snap at hr
    obtain ⟨⟨x, ws'⟩, h1, h2⟩ := run_bind_some hr
    simp only [M.run, Option.some.injEq, Prod.mk.injEq] at h2
    obtain ⟨rfl, rfl⟩ := h2
    obtain ⟨vs, e, hvs⟩ := VR.tup_iff.1 hv
    obtain ⟨a1, a2, a3, a4⟩ := snapL_sound cs x ws' _ L1 hS hcl h1 hvs
    exact ⟨a1, a2, VR.tup_iff.2 ⟨vs, e, a3⟩, a4⟩
  | .fn g cs, a', ws, v, L1, hS, hcl, hr, hv => by
    unfold snap at hr
    obtain ⟨⟨x, ws'⟩, h1, h2⟩ := run_bind_some hr
    simp only [M.run, Option.some.injEq, Prod.mk.injEq] at h2
    obtain ⟨rfl, rfl⟩ := h2
    obtain ⟨vs, e, hvs⟩ := VR.fn_iff.1 hv
    obtain ⟨a1, a2, a3, a4⟩ := snapL_sound cs x ws' _ L1 hS hcl h1 hvs
    exact ⟨a1, a2, VR.fn_iff.2 ⟨vs, e, a3⟩, a4⟩
  | .top, a', ws, v, L1, hS, hcl, hr, hv => by
    simp only [snap, M.run, Option.some.injEq, Prod.mk.injEq] at hr
    obtain ⟨rfl, rfl⟩ := hr
    exact ⟨hS, Fr.refl _ _, hv, hcl⟩
  | .d x, a', ws, v, L1, hS, hcl, hr, hv => by
    simp only [snap, M.run, Option.some.injEq, Prod.mk.injEq] at hr
    obtain ⟨rfl, rfl⟩ := hr
    exact ⟨hS, Fr.refl _ _, hv, hcl⟩
  | .ptr b off, a', ws, v, L1, hS, hcl, hr, hv => by
    simp only [snap, M.run, Option.some.injEq, Prod.mk.injEq] at hr
    obtain ⟨rfl, rfl⟩ := hr
    exact ⟨hS, Fr.refl _ _, hv, hcl⟩
  | .eptr b i sz off, a', ws, v, L1, hS, hcl, hr, hv => by
    simp only [snap, M.run, Option.some.injEq, Prod.mk.injEq] at hr
    obtain ⟨rfl, rfl⟩ := hr
    exact ⟨hS, Fr.refl _ _, hv, hcl⟩
  | .snil b T, a', ws, v, L1, hS, hcl, hr, hv => by
    simp only [snap, M.run, Option.some.injEq, Prod.mk.injEq] at hr
    obtain ⟨rfl, rfl⟩ := hr
    exact ⟨hS, Fr.refl _ _, hv, hcl⟩
  | .ifc T, a', ws, v, L1, hS, hcl, hr, hv => by
    simp only [snap, M.run, Option.some.injEq, Prod.mk.injEq] at hr
    obtain ⟨rfl, rfl⟩ := hr
    exact ⟨hS, Fr.refl _ _, hv, hcl⟩
  | .cptr cs off, a', ws, v, L1, hS, hcl, hr, hv => by
    simp only [snap, M.run, Option.some.injEq, Prod.mk.injEq] at hr
    obtain ⟨rfl, rfl⟩ := hr
    exact ⟨hS, Fr.refl _ _, hv, hcl⟩
theorem snapL_sound {B : Boxes} : ∀ (as as' : List AV) (ws : List (Nat × Box)) (vs : List Value) (L1 : Looks), SimB X β N w L1 → Cl (look B) L1 → (snapL B as).run = some (as', ws) → VRs (All X β L1) β N w as vs →
    SimB X β N w (updsL L1 ws) ∧ Fr (Own β L1) w (Own β (updsL L1 ws)) w ∧ VRs (All X β (updsL L1 ws)) β N w as' vs ∧ Cl (look B) (updsL L1 ws)
  | [], as', ws, vs, L1, hS, hcl, hr, hv => by
    simp only [snapL, M.run, Option.some.injEq, Prod.mk.injEq] at hr
    obtain ⟨rfl, rfl⟩ := hr
    exact ⟨hS, Fr.refl _ _, hv, hcl⟩
  | a :: as, as', ws, vs, L1, hS, hcl, hr, hv => by
    obtain ⟨v, vs, rfl, hv1, hv2⟩ := VRs.cons hv
    unfold snapL at hr
    obtain ⟨⟨x, w1⟩, h1, hr⟩ := run_bind_some hr
    obtain ⟨⟨xs, w2⟩, h2, hr⟩ := run_bind_some hr
    simp only [M.run, Option.some.injEq, Prod.mk.injEq] at hr
    obtain ⟨rfl, rfl⟩ := hr
    obtain ⟨a1, a2, a3, a4⟩ := snap_sound a x w1 v L1 hS hcl h1 hv1
    have mv := mv_cl (X := X) (N := N) a2
    obtain ⟨b1, b2, b3, b4⟩ := snapL_sound as xs w2 vs (updsL L1 w1) a1 a4 h2 (VRs.move mv _ _ hv2)
    rw [updsL_append]
    refine ⟨b1, a2.trans b2, ?_, b4⟩
    unfold VRs
    exact ⟨a3.move (mv_cl (X := X) (N := N) b2), b3⟩
end

/-- A call does what it says, in whatever memory. -/
def CallOK (P : Program) (call : Caller) : Prop := ∀ (f : FuncId) (as : List AV) (B : Boxes) (r : AV) (B' : Boxes), (call f as B).run = some (r, B') →
  (∃ fn, P.funcs[f]? = some fn ∧ fn.body.isNone = false ∧ (fn.name == "runtime.NumGoroutine") = false) ∧ B.length ≤ B'.length ∧
  ∀ (X : Blocks) (β : Map) (w : World) (vs : List Value), SimB X β (· < B.length) w (look B) → VRs (All X β (look B)) β (· < B.length) w as vs →
    Calls P f vs.toArray w fun e w' => ∃ v β', e = .returned v ∧ SimB X β' (· < B'.length) w' (look B') ∧ VR (All X β' (look B')) β' (· < B'.length) w' r v ∧
      Fr (Own β (look B)) w (Own β' (look B')) w' ∧ ∀ b, b < B.length → β' b = β b

mutual
/-- What is flat lies in no row: it reads so whatever is avoided. -/
theorem VR.flat {Y Y' : Blocks} : ∀ (a : AV) (v : Value), a.flat = true → VR Y β N w a v → VR Y' β N w a v
  | .top, v, h, hv => by simp [AV.flat] at h
  | .d x, v, h, hv => by
    unfold VR at hv ⊢
    cases x <;> first | exact hv | (simp [AV.flat, D.flat] at h)
  | .sr .., v, h, hv => by unfold VR at hv ⊢; exact hv
  | .ptr .., v, h, hv => by unfold VR at hv ⊢; exact hv
  | .eptr .., v, h, hv => by unfold VR at hv ⊢; exact hv
  | .snil .., v, h, hv => by unfold VR at hv ⊢; exact hv
  | .ifc .., v, h, hv => by unfold VR at hv ⊢; exact hv
  | .cptr .., v, h, hv => by simp [AV.flat] at h
  | .agg cs, v, h, hv => by
    unfold VR at hv ⊢
    obtain ⟨vs, h1, h2⟩ := hv
    exact ⟨vs, h1, VRs.flat cs _ (by simpa [AV.flat] using h) h2⟩
  | .tup cs, v, h, hv => by
    unfold VR at hv ⊢
    obtain ⟨vs, h1, h2⟩ := hv
    exact ⟨vs, h1, VRs.flat cs _ (by simpa [AV.flat] using h) h2⟩
  | .fn g cs, v, h, hv => by
    unfold VR at hv ⊢
    obtain ⟨vs, h1, h2⟩ := hv
    exact ⟨vs, h1, VRs.flat cs _ (by simpa [AV.flat] using h) h2⟩
theorem VRs.flat {Y Y' : Blocks} : ∀ (as : List AV) (vs : List Value), AV.flat.flatL as = true → VRs Y β N w as vs → VRs Y' β N w as vs
  | [], [], h, hv => by unfold VRs; trivial
  | [], v :: vs, h, hv => by unfold VRs at hv; exact hv.elim
  | a :: as, [], h, hv => by unfold VRs at hv; exact hv.elim
  | a :: as, v :: vs, h, hv => by
    simp only [AV.flat.flatL, Bool.and_eq_true] at h
    unfold VRs at hv ⊢
    exact ⟨VR.flat a v h.1 hv.1, VRs.flat as vs h.2 hv.2⟩
end

theorem RD.flat {Y Y' : Blocks} {t : Ty} {x : t.den} {g : Nat → Option Value} (h : RD Y w t x g) : t.flat = true → RD Y' w t x g := by
  induction h with
  | int h => exact fun _ => .int h
  | bool h => exact fun _ => .bool h
  | str h => exact fun _ => .str h
  | unit => exact fun _ => .unit
  | nil h => exact fun hf => by simp [Ty.flat] at hf
  | emp a cap h => exact fun hf => by simp [Ty.flat] at hf
  | sl => exact fun hf => by simp [Ty.flat] at hf
  | pair h1 h2 ih1 ih2 => intro hf; simp only [Ty.flat, Bool.and_eq_true] at hf; exact .pair (ih1 hf.1) (ih2 hf.2)
  | rose => exact fun hf => by simp [Ty.flat] at hf

theorem BoxR.flat {Y Y' : Blocks} {b : Nat} {x : Box} (h : BoxR Y β N w b x) (hf : x.flat = true) : BoxR Y' β N w b x := by
  cases x with
  | dead => trivial
  | cells l =>
    obtain ⟨c, arr, e, h1, h2, h3, h4⟩ := h
    have : ∀ (l : List AV), AV.flat.flatL l = true → ∀ a ∈ l, a.flat = true := by
      intro l
      induction l with
      | nil => intro _ a ha; cases ha
      | cons a l ih =>
        intro h b hb
        simp only [AV.flat.flatL, Bool.and_eq_true] at h
        rcases List.mem_cons.1 hb with rfl | hb
        · exact h.1
        · exact ih h.2 b hb
    exact ⟨c, arr, e, h1, h2, h3, fun j a v ha hv => ⟨VR.flat a v (this l hf a (List.mem_of_getElem? ha)) (h4 j a v ha hv).1, (h4 j a v ha hv).2⟩⟩
  | arr t l m =>
    simp only [Box.flat, Bool.and_eq_true] at hf
    obtain ⟨h0, h⟩ := h
    refine ⟨h0, ?_⟩
    rcases h with h | ⟨c, arr, e, h1, h2, h3, h4, h5⟩
    · exact .inl h
    · exact .inr ⟨c, arr, e, h1, h2, h3, ⟨fun hm => (by rw [hf.2] at hm; cases hm), h4.2⟩, fun i hi => (h5 i hi).flat hf.1⟩

end
end Go.Ev
