/- What is told less of at the heads of loops. No condition. -/
import Derived.Test.YtkppbflmlpabjabEvZ
namespace Go.Ev
set_option linter.unusedVariables false
set_option linter.unusedSimpArgs false
set_option linter.unusedSectionVars false
variable [Ctx]
section
variable {X : Blocks} {β : Map} {N : Nat → Prop} {w : World}

theorem normC_sound (t : Ty) {a : AV} {v : Value} (h : VR X β N w a v) : VR X β N w (normC t a) v := by
  unfold normC
  split
  · have : v = .slice none 0 0 := VR.d_iff.1 h
    subst this
    split
    · exact VR.d_iff.2 (RD.nil rfl)
    · exact h
  · exact h

theorem normCs_sound : ∀ (ts : List Ty) (as : List AV) (vs : List Value), VRs X β N w as vs → VRs X β N w (normCs ts as) vs
  | t :: ts, a :: as, [], h => by unfold VRs at h; exact h.elim
  | t :: ts, a :: as, v :: vs, h => by
    unfold VRs at h
    unfold normCs VRs
    exact ⟨normC_sound t h.1, normCs_sound ts as vs h.2⟩
  | [], as, vs, h => by cases as <;> exact h
  | t :: ts, [], vs, h => by exact h

theorem normCs_len : ∀ (ts : List Ty) (as : List AV), (normCs ts as).length = as.length
  | t :: ts, a :: as => by simp [normCs, normCs_len ts as]
  | [], as => by cases as <;> rfl
  | t :: ts, [] => rfl

theorem normCs_get : ∀ (ts : List Ty) (as : List AV) (j : Nat) (b : AV), (normCs ts as)[j]? = some b → ∃ a t, as[j]? = some a ∧ (b = normC t a ∨ b = a)
  | t :: ts, a :: as, 0, b, h => by
    simp only [normCs, List.getElem?_cons_zero, Option.some.injEq] at h
    exact ⟨a, t, rfl, .inl h.symm⟩
  | t :: ts, a :: as, j + 1, b, h => by
    simp only [normCs, List.getElem?_cons_succ] at h
    simpa using normCs_get ts as j b h
  | [], as, j, b, h => ⟨b, .unit, by cases as <;> exact h, .inr rfl⟩
  | t :: ts, [], j, b, h => by simp [normCs] at h

theorem forgC_sound {a : AV} {v : Value} (h : VR X β N w a v) : VR X β N w (forgC a) v := by
  unfold forgC
  split
  · obtain ⟨g1, g2, g3⟩ := VR.sr_iff.1 h
    refine VR.sr_iff.2 ⟨g1, g2, ?_⟩
    rcases g3 with ⟨b1, b2, b3, b4, _⟩ | ⟨c, k, b1, b2, b3, _, b5⟩
    · exact .inl ⟨b1, b2, b3, b4, rfl⟩
    · exact .inr ⟨c, k, b1, b2, b3, fun k' e => (by cases e), b5⟩
  · exact h

theorem headC_sound (m : Option Ty) {a : AV} {v : Value} (h : VR X β N w a v) : VR X β N w (headC m a) v := by
  unfold headC
  split
  · obtain ⟨vs, rfl, h2⟩ := VR.agg_iff.1 h
    exact VR.agg_iff.2 ⟨vs, rfl, normCs_sound _ _ _ h2⟩
  · exact normC_sound _ h
  · exact forgC_sound h

theorem headE_len : ∀ (l : List (Nat × Option Ty)) (env : Env), (headE l env).length = env.length
  | [], env => rfl
  | p :: l, env => by
    unfold headE
    rw [List.foldl_cons]
    exact (headE_len l _).trans (List.length_set ..)

theorem headE_sound {tmps : Array Value} : ∀ (l : List (Nat × Option Ty)) (env : Env), (∀ i, VR X β N w (env.getD i .top) (tmps.getD i undef)) → ∀ i, VR X β N w ((headE l env).getD i .top) (tmps.getD i undef)
  | [], env, h => h
  | p :: l, env, h => by
    unfold headE
    rw [List.foldl_cons]
    refine headE_sound l _ fun i => ?_
    rw [List.getD_eq_getElem?_getD, List.getElem?_set]
    split
    · rename_i e
      subst e
      split
      · exact headC_sound _ (h p.1)
      · exact VR.top_iff.2 trivial
    · rw [← List.getD_eq_getElem?_getD]; exact h i

theorem headB_len : ∀ (l : List (Nat × Ty)) (B : Boxes), (headB l B).length = B.length
  | [], B => rfl
  | p :: l, B => by
    unfold headB
    rw [List.foldl_cons]
    exact (headB_len l _).trans (List.length_set ..)

theorem normX_set (t : Ty) (b : Nat) (B : Boxes) (q : Nat) : look (B.set b (normX t (look B b))) q = if q = b then normX t (look B b) else look B q := by
  unfold look
  rw [List.getD_eq_getElem?_getD, List.getElem?_set]
  by_cases h : b = q
  · subst h
    by_cases hl : b < B.length
    · simp [hl]
    · simp [hl, List.getD_eq_getElem?_getD, normX]
  · have : ¬ q = b := fun e => h e.symm
    simp [h, this, List.getD_eq_getElem?_getD]

theorem SimB.norm1 (t : Ty) (b : Nat) {B : Boxes} (hS : SimB X β N w (look B)) : SimB X β N w (look (B.set b (normX t (look B b)))) ∧ Own β (look (B.set b (normX t (look B b)))) = Own β (look B) := by
  have hl : ∀ q, look (B.set b (normX t (look B b))) q = look B q ∨ ∃ l, look B q = .cells l ∧ look (B.set b (normX t (look B b))) q = .cells (normCs (cellTys t) l) := by
    intro q
    rw [normX_set]
    split
    · rename_i e
      subst e
      cases hx : look B q with
      | cells l => exact .inr ⟨l, rfl, rfl⟩
      | dead => exact .inl rfl
      | arr => exact .inl rfl
    · exact .inl rfl
  have hlive : ∀ q, (look (B.set b (normX t (look B b))) q).live = (look B q).live := by
    intro q
    rcases hl q with h | ⟨l, h1, h2⟩
    · rw [h]
    · rw [h1, h2]; rfl
  have hown : Own β (look (B.set b (normX t (look B b)))) = Own β (look B) := by
    funext c
    simp only [Own, hlive]
  have hall : All X β (look (B.set b (normX t (look B b)))) = All X β (look B) := by
    funext c
    simp only [All, hown]
  refine ⟨⟨fun c h => hS.apart c (by rw [← hown]; exact h), fun b1 b2 c h1 h2 => hS.inj b1 b2 c (by rw [← hlive]; exact h1) (by rw [← hlive]; exact h2), fun q => ?_, fun q h => ?_, hS.old, hS.tabs.1, fun c hc => by rw [hown]; exact hS.tabs.2 c hc⟩, hown⟩
  · rw [hall]
    rcases hl q with h | ⟨l, h1, h2⟩
    · rw [h]; exact hS.box q
    · rw [h2]
      have := hS.box q
      rw [h1] at this
      obtain ⟨c, arr, e, g1, g2, g3, g4⟩ := this
      refine ⟨c, arr, e, g1, g2, by rw [g3, normCs_len], fun j a v ha hv => ?_⟩
      obtain ⟨a0, t0, k1, k2⟩ := normCs_get _ _ j a ha
      rcases k2 with rfl | rfl
      · exact ⟨normC_sound t0 (g4 j a0 v k1 hv).1, (g4 j a0 v k1 hv).2⟩
      · exact g4 j a v k1 hv
  · refine hS.dom q fun hd => h ?_
    rcases hl q with h' | ⟨l, h1, h2⟩
    · rw [h', hd]
    · rw [h1] at hd; cases hd

theorem headB_sound : ∀ (l : List (Nat × Ty)) (B : Boxes), SimB X β N w (look B) → SimB X β N w (look (headB l B)) ∧ Own β (look (headB l B)) = Own β (look B)
  | [], B, h => ⟨h, rfl⟩
  | p :: l, B, h => by
    unfold headB
    rw [List.foldl_cons]
    obtain ⟨h1, h2⟩ := SimB.norm1 p.2 p.1 h
    obtain ⟨h3, h4⟩ := headB_sound l _ h1
    exact ⟨h3, h4.trans h2⟩

end
end Go.Ev
