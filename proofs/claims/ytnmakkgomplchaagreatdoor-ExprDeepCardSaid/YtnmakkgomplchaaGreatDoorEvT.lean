/- Boxes by other names. No condition. -/
import Derived.Test.YtnmakkgomplchaaGreatDoorEvD
namespace Go.Ev
set_option linter.unusedVariables false
set_option linter.unusedSimpArgs false
set_option linter.unusedSectionVars false
variable [Ctx]

section
variable {X X' : Blocks} {β β' : Map} {N N' : Nat → Prop} {w : World} {L : Looks}

theorem RD.anti {t : Ty} {x : t.den} {g : Nat → Option Value} (h : RD X w t x g) (hX : ∀ c, X' c → X c) : RD X' w t x g :=
  h.move (Nat.le_refl _) (fun c _ hc => ⟨fun h' => hc (hX c h'), rfl⟩) g fun _ _ _ e => e

theorem VRd.anti {d : D} {v : Value} (h : VRd X w d v) (hX : ∀ c, X' c → X c) : VRd X' w d v :=
  h.move (Nat.le_refl _) fun c _ hc => ⟨fun h' => hc (hX c h'), rfl⟩

theorem srOK.ren {b b' off len sz : Nat} {cap : Option Nat} {v : Value} (h : srOK β N w b off len sz cap v) (hN : N' b') (hβ : β' b' = β b) : srOK β' N' w b' off len sz cap v := by
  obtain ⟨_, h2, h3⟩ := h
  refine ⟨hN, h2, ?_⟩
  rw [hβ]
  exact h3

mutual
theorem VR.ren (f : Nat → Option Nat) (hf : ∀ b b', f b = some b' → N b → N' b' ∧ β' b' = β b) (hX : ∀ c, X' c → X c) : ∀ (a a' : AV) (v : Value), a.ren f = some a' → VR X β N w a v → VR X' β' N' w a' v
  | .top, a', v, h, hv => by simp [AV.ren] at h; subst h; unfold VR; trivial
  | .d x, a', v, h, hv => by simp [AV.ren] at h; subst h; unfold VR at hv ⊢; exact hv.anti hX
  | .sr b off len sz cap, a', v, h, hv => by
    simp only [AV.ren] at h
    split at h <;> simp at h
    rename_i b' hb
    subst h
    unfold VR at hv ⊢
    obtain ⟨h1, h2⟩ := hf b b' hb hv.1
    exact hv.ren h1 h2
  | .ptr b off, a', v, h, hv => by
    simp only [AV.ren] at h
    split at h <;> simp at h
    rename_i b' hb
    subst h
    unfold VR at hv ⊢
    obtain ⟨h1, h2⟩ := hf b b' hb hv.1
    exact ⟨h1, by rw [h2]; exact hv.2⟩
  | .eptr b i sz off, a', v, h, hv => by
    simp only [AV.ren] at h
    split at h <;> simp at h
    rename_i b' hb
    subst h
    unfold VR at hv ⊢
    obtain ⟨h1, h2⟩ := hf b b' hb hv.1
    exact ⟨h1, by rw [h2]; exact hv.2⟩
  | .snil b T, a', v, h, hv => by
    simp only [AV.ren] at h
    split at h <;> simp at h
    rename_i b' hb
    subst h
    unfold VR at hv ⊢
    obtain ⟨h1, h2⟩ := hf b b' hb hv.1
    exact ⟨h1, by rw [h2]; exact hv.2⟩
  | .ifc T, a', v, h, hv => by simp [AV.ren] at h; subst h; unfold VR at hv ⊢; exact hv
  | .cptr cs off, a', v, h, hv => by
    simp [AV.ren] at h; subst h
    unfold VR at hv ⊢
    obtain ⟨c, base, h1, h2, h3, h4⟩ := hv
    refine ⟨c, base, h1, fun h => h2 (hX c h), h3, fun j d hd => ?_⟩
    obtain ⟨u, hu, hr⟩ := h4 j d hd
    exact ⟨u, hu, hr.anti hX⟩
  | .agg cs, a', v, h, hv => by
    simp only [AV.ren] at h
    split at h <;> simp at h
    rename_i cs' hcs
    subst h
    unfold VR at hv ⊢
    obtain ⟨vs, h1, h2⟩ := hv
    exact ⟨vs, h1, VRs.ren f hf hX cs cs' _ hcs h2⟩
  | .tup cs, a', v, h, hv => by
    simp only [AV.ren] at h
    split at h <;> simp at h
    rename_i cs' hcs
    subst h
    unfold VR at hv ⊢
    obtain ⟨vs, h1, h2⟩ := hv
    exact ⟨vs, h1, VRs.ren f hf hX cs cs' _ hcs h2⟩
  | .fn g cs, a', v, h, hv => by
    simp only [AV.ren] at h
    split at h <;> simp at h
    rename_i cs' hcs
    subst h
    unfold VR at hv ⊢
    obtain ⟨vs, h1, h2⟩ := hv
    exact ⟨vs, h1, VRs.ren f hf hX cs cs' _ hcs h2⟩
theorem VRs.ren (f : Nat → Option Nat) (hf : ∀ b b', f b = some b' → N b → N' b' ∧ β' b' = β b) (hX : ∀ c, X' c → X c) : ∀ (as as' : List AV) (vs : List Value), AV.renL f as = some as' → VRs X β N w as vs → VRs X' β' N' w as' vs
  | [], as', vs, h, hv => by
    simp [AV.renL] at h; subst h
    cases vs with
    | nil => unfold VRs; trivial
    | cons v vs => unfold VRs at hv; exact hv.elim
  | a :: as, as', vs, h, hv => by
    cases vs with
    | nil => unfold VRs at hv; exact hv.elim
    | cons v vs =>
      unfold VRs at hv
      simp only [AV.renL] at h
      split at h
      · cases h
      · rename_i a1 ha1
        split at h
        · cases h
        · rename_i as1 has1
          simp at h
          subst h
          unfold VRs
          exact ⟨VR.ren f hf hX a a1 v ha1 hv.1, VRs.ren f hf hX as as1 vs has1 hv.2⟩
end

theorem renBoxes_get (f : Nat → Option Nat) : ∀ (xs xs' : List Box), renBoxes f xs = some xs' → xs'.length = xs.length ∧ ∀ (i : Nat) (x : Box), xs[i]? = some x → ∃ x', x.ren f = some x' ∧ xs'[i]? = some x'
  | [], xs', h => by simp [renBoxes] at h; subst h; simp
  | x :: xs, xs', h => by
    simp only [renBoxes] at h
    split at h
    · cases h
    · rename_i x1 h1
      split at h
      · cases h
      · rename_i xs1 h2
        simp at h
        subst h
        obtain ⟨g1, g2⟩ := renBoxes_get f xs xs1 h2
        refine ⟨by simp [g1], fun i y hy => ?_⟩
        cases i with
        | zero => simp at hy; subst hy; exact ⟨x1, h1, rfl⟩
        | succ i => simpa using g2 i y (by simpa using hy)

theorem Box.ren_live {f : Nat → Option Nat} {x x' : Box} (h : x.ren f = some x') : x'.live = x.live := by
  cases x with
  | dead => simp [Box.ren] at h; subst h; rfl
  | cells l => simp only [Box.ren] at h; split at h <;> simp at h; subst h; rfl
  | arr t l m => simp [Box.ren] at h; subst h; rfl

theorem BoxR.ren {f : Nat → Option Nat} (hf : ∀ b b', f b = some b' → N b → N' b' ∧ β' b' = β b) (hX : ∀ c, X' c → X c) {b b' : Nat} {x x' : Box} (hx : x.ren f = some x') (hβ : β' b' = β b) (h : BoxR X β N w b x) : BoxR X' β' N' w b' x' := by
  cases x with
  | dead => simp [Box.ren] at hx; subst hx; trivial
  | cells l =>
    simp only [Box.ren] at hx
    split at hx <;> simp at hx
    rename_i l' hl
    subst hx
    obtain ⟨c, arr, e, h1, h2, h3, h4⟩ := h
    have hlen : ∀ (l l' : List AV), AV.renL f l = some l' → l'.length = l.length ∧ ∀ (j : Nat) (a' : AV), l'[j]? = some a' → ∃ a, l[j]? = some a ∧ a.ren f = some a' := by
      intro l
      induction l with
      | nil => intro l' h; simp [AV.renL] at h; subst h; simp
      | cons a l ih =>
        intro l' h
        simp only [AV.renL] at h
        split at h
        · cases h
        · rename_i a1 ha1
          split at h
          · cases h
          · rename_i l1 hl1
            simp at h
            subst h
            obtain ⟨g1, g2⟩ := ih l1 hl1
            refine ⟨by simp [g1], fun j a' ha' => ?_⟩
            cases j with
            | zero => simp at ha'; subst ha'; exact ⟨a, rfl, ha1⟩
            | succ j => simpa using g2 j a' (by simpa using ha')
    obtain ⟨g1, g2⟩ := hlen l l' hl
    refine ⟨c, arr, e, by rw [hβ]; exact h1, h2, by rw [g1]; exact h3, fun j a' v ha' hv => ?_⟩
    obtain ⟨a, ha, hr⟩ := g2 j a' ha'
    exact ⟨VR.ren f hf hX a a' v hr (h4 j a v ha hv).1, (h4 j a v ha hv).2⟩
  | arr t l m =>
    simp [Box.ren] at hx
    subst hx
    obtain ⟨h0, h⟩ := h
    refine ⟨h0, ?_⟩
    rw [hβ]
    rcases h with h | ⟨c, arr, e, h1, h2, h3, h4, h5⟩
    · exact .inl h
    · exact .inr ⟨c, arr, e, h1, h2, h3, ⟨fun hm hx => h4.1 hm (hX c hx), h4.2⟩, fun i hi => (h5 i hi).anti hX⟩

theorem nodupB_iff : ∀ (l : List Nat), nodupB l = true → l.Nodup
  | [], _ => List.nodup_nil
  | x :: xs, h => by
    simp only [nodupB, Bool.and_eq_true, Bool.not_eq_true', List.contains_eq_mem, decide_eq_false_iff_not] at h
    exact List.nodup_cons.2 ⟨h.1, nodupB_iff xs h.2⟩

theorem idxIn_get : ∀ (l : List Nat) (b i : Nat), idxIn l b = some i → l[i]? = some b
  | [], b, i, h => by simp [idxIn] at h
  | x :: xs, b, i, h => by
    unfold idxIn at h
    rw [List.idxOf?_cons] at h
    split at h
    · rename_i he
      simp at h he
      subst h; subst he
      rfl
    · simp only [Option.map_eq_some_iff] at h
      obtain ⟨j, hj, rfl⟩ := h
      simpa using idxIn_get xs b j hj

/-- Boxes that are picked, by their places: the names and where they lie. -/
def pickMap (β : Map) (rs : List Nat) : Map := fun i => match rs[i]? with | some b => β b | none => none

theorem pick_names {rs : List Nat} : ∀ b b', idxIn rs b = some b' → N b → b' < rs.length ∧ pickMap β rs b' = β b := by
  intro b b' h _
  have := idxIn_get rs b b' h
  exact ⟨(List.getElem?_eq_some_iff.1 this).1, by simp [pickMap, this]⟩

/-- The heap, by the boxes that are picked. -/
theorem pick_sound {B : Boxes} {rs : List Nat} {B' : List Box} (hS : SimB X β N w L) (hLB : ∀ b, b ∈ rs → L b = look B b) (hr : (pickBoxes B rs).run = some B') (hX : ∀ c, X' c → All X β L c) (hXo : ∀ c, X' c → c < w.heap.size)
    (hXa : ∀ c, Own (pickMap β rs) (look B') c → ¬ X' c) :
    SimB X' (pickMap β rs) (· < rs.length) w (look B') ∧ B'.length = rs.length ∧ (∀ c, Own (pickMap β rs) (look B') c → ∃ b, b ∈ rs ∧ (L b).live = true ∧ β b = some c) ∧ rs.Nodup ∧ (∀ i b, rs[i]? = some b → (L b).ren (idxIn rs) = some (look B' i)) := by
  unfold pickBoxes at hr
  rw [M.run_ifb] at hr
  obtain ⟨h0, hr⟩ := hr
  split at hr
  · rename_i B1 hB
    simp only [M.run, Option.some.injEq] at hr
    subst hr
    simp only [Bool.and_eq_true] at h0
    have hnd := nodupB_iff rs h0.1
    obtain ⟨g1, g2⟩ := renBoxes_get _ _ _ hB
    simp only [List.length_map] at g1
    have hget : ∀ i b, rs[i]? = some b → (L b).ren (idxIn rs) = some (look B1 i) := by
      intro i b hb
      rw [hLB b (List.mem_of_getElem? hb)]
      obtain ⟨x', h1, h2⟩ := g2 i (look B b) (by simp [hb])
      rw [h1]
      simp [look, List.getD_eq_getElem?_getD, h2]
    have hdead : ∀ i, look B1 i ≠ .dead → ∃ b, rs[i]? = some b := by
      intro i hi
      by_cases hlt : i < rs.length
      · exact ⟨rs[i], List.getElem?_eq_getElem hlt⟩
      · exfalso
        apply hi
        unfold look
        rw [List.getD_eq_getElem?_getD, List.getElem?_eq_none (by omega)]
        rfl
    have hlive : ∀ i, (look B1 i).live = true → ∃ b, rs[i]? = some b ∧ (L b).live = true ∧ pickMap β rs i = β b := by
      intro i hi
      obtain ⟨b, hb⟩ := hdead i (fun e => by rw [e] at hi; simp [Box.live] at hi)
      exact ⟨b, hb, by rw [← Box.ren_live (hget i b hb)]; exact hi, by simp [pickMap, hb]⟩
    have hown : ∀ c, Own (pickMap β rs) (look B1) c → ∃ b, b ∈ rs ∧ (L b).live = true ∧ β b = some c := by
      rintro c ⟨i, h1, h2⟩
      obtain ⟨b, hb, hl, hp⟩ := hlive i h1
      exact ⟨b, List.mem_of_getElem? hb, hl, by rw [← hp]; exact h2⟩
    have hall : ∀ c, All X' (pickMap β rs) (look B1) c → All X β L c := by
      rintro c (h | h)
      · exact hX c h
      · obtain ⟨b, _, h1, h2⟩ := hown c h
        exact .inr ⟨b, h1, h2⟩
    refine ⟨⟨hXa, ?_, ?_, ?_, hXo, hS.tabs.1, fun c hc => ⟨(hS.tabs.2 c hc).1, fun ho => (hS.tabs.2 c hc).2 (by obtain ⟨b, _, h1, h2⟩ := hown c ho; exact ⟨b, h1, h2⟩)⟩⟩, g1, hown, hnd, hget⟩
    · intro i j c l1 l2 e1 e2
      obtain ⟨b1, hb1, k1, p1⟩ := hlive i l1
      obtain ⟨b2, hb2, k2, p2⟩ := hlive j l2
      have := hS.inj b1 b2 c k1 k2 (by rw [← p1]; exact e1) (by rw [← p2]; exact e2)
      subst this
      obtain ⟨q1, r1⟩ := List.getElem?_eq_some_iff.1 hb1
      obtain ⟨q2, r2⟩ := List.getElem?_eq_some_iff.1 hb2
      exact (List.getElem?_inj q1 hnd).1 (hb1.trans hb2.symm)
    · intro i
      by_cases hi : look B1 i = .dead
      · rw [hi]; trivial
      · obtain ⟨b, hb⟩ := hdead i hi
        exact BoxR.ren (β' := pickMap β rs) (N' := (· < rs.length)) (f := idxIn rs) (fun b b' h hN => pick_names b b' h hN) hall (hget i b hb) (by simp [pickMap, hb]) (hS.box b)
    · intro i hi
      obtain ⟨b, hb⟩ := hdead i hi
      exact (List.getElem?_eq_some_iff.1 hb).1
  · simp [M.run] at hr

end
end Go.Ev
