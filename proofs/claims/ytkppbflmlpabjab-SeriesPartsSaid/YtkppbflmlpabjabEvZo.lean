/- A call by what is less told of it: nil as an empty row, own rows as plain data. No condition. -/
import Derived.Test.YtkppbflmlpabjabEvZk
namespace Go.Ev
set_option linter.unusedVariables false
set_option linter.unusedSimpArgs false
set_option linter.unusedSectionVars false
variable [Ctx]

section
variable {X X' : Blocks} {β : Map} {N N' : Nat → Prop} {w : World}

mutual
theorem VR.less (hX : ∀ c, X' c → X c) : ∀ (a : AV) (v : Value), (∀ b ∈ a.refs, N' b) → VR X β N w a v → VR X' β N' w a v
  | .top, v, _, h => by unfold VR; trivial
  | .d x, v, _, h => by unfold VR at h ⊢; exact h.anti hX
  | .sr b off len sz cap, v, hn, h => by
    obtain ⟨h1, h2, h3⟩ := VR.sr_iff.1 h
    exact VR.sr_iff.2 ⟨hn b (by simp [AV.refs]), h2, h3⟩
  | .ptr b off, v, hn, h => by
    obtain ⟨h1, h2⟩ := VR.ptr_iff.1 h
    exact VR.ptr_iff.2 ⟨hn b (by simp [AV.refs]), h2⟩
  | .eptr b i sz off, v, hn, h => by
    obtain ⟨h1, h2⟩ := VR.eptr_iff.1 h
    exact VR.eptr_iff.2 ⟨hn b (by simp [AV.refs]), h2⟩
  | .cptr cs off, v, hn, h => by
    obtain ⟨c, base, h1, h2, h3, h4⟩ := VR.cptr_iff.1 h
    refine VR.cptr_iff.2 ⟨c, base, h1, fun hc => h2 (hX c hc), h3, fun j d hd => ?_⟩
    obtain ⟨u, h5, h6⟩ := h4 j d hd
    exact ⟨u, h5, h6.anti hX⟩
  | .agg cs, v, hn, h => by
    obtain ⟨vs, h1, h2⟩ := VR.agg_iff.1 h
    exact VR.agg_iff.2 ⟨vs, h1, VRs.less hX cs _ (fun b hb => hn b (by simpa [AV.refs] using hb)) h2⟩
  | .tup cs, v, hn, h => by
    obtain ⟨vs, h1, h2⟩ := VR.tup_iff.1 h
    exact VR.tup_iff.2 ⟨vs, h1, VRs.less hX cs _ (fun b hb => hn b (by simpa [AV.refs] using hb)) h2⟩
  | .fn f cs, v, hn, h => by
    obtain ⟨vs, h1, h2⟩ := VR.fn_iff.1 h
    exact VR.fn_iff.2 ⟨vs, h1, VRs.less hX cs _ (fun b hb => hn b (by simpa [AV.refs] using hb)) h2⟩
  | .snil b T, v, hn, h => by
    obtain ⟨h1, h2⟩ := VR.snil_iff.1 h
    exact VR.snil_iff.2 ⟨hn b (by simp [AV.refs]), h2⟩
  | .ifc T, v, hn, h => by unfold VR at h ⊢; exact h
theorem VRs.less (hX : ∀ c, X' c → X c) : ∀ (as : List AV) (vs : List Value), (∀ b ∈ AV.refs.refsL as, N' b) → VRs X β N w as vs → VRs X' β N' w as vs
  | [], [], _, h => by unfold VRs; trivial
  | [], _ :: _, _, h => by unfold VRs at h; exact h.elim
  | _ :: _, [], _, h => by unfold VRs at h; exact h.elim
  | a :: as, v :: vs, hn, h => by
    unfold VRs at h ⊢
    exact ⟨VR.less hX a v (fun b hb => hn b (by simp [AV.refs.refsL, hb])) h.1, VRs.less hX as vs (fun b hb => hn b (by simp [AV.refs.refsL, hb])) h.2⟩
end

end

def lessB (n : Nat) (l : List Nat) : Bool := l.all fun b => Nat.blt b n

/-- One value for another that says less. B: the boxes, B': those that are left. -/
def wk1 (B B' : Boxes) : AV → AV → Prop
  | _, .top => True
  | .d .nils, .d (.sl _ l) => l = []
  | .sr b off len sz _, .d (.sl t l) => ∃ l0 m, look B b = .arr t l0 m ∧ sz = t.size ∧ off + len ≤ l0.length ∧ l = (l0.drop off).take len ∧ (look B' b).live = false
  | .sr b off len sz cap, .sr b' off' len' sz' cap' => b = b' ∧ off = off' ∧ len = len' ∧ sz = sz' ∧ (cap' = none ∨ cap' = cap) ∧ Nat.blt b B'.length = true
  | a, a' => a = a' ∧ lessB B'.length a.refs = true

def wkL (B B' : Boxes) : List AV → List AV → Prop
  | [], [] => True
  | a :: as, b :: bs => wk1 B B' a b ∧ wkL B B' as bs
  | _, _ => False

def wkV (B B' : Boxes) : AV → AV → Prop
  | .agg as, .agg bs => wkL B B' as bs
  | a, b => wk1 B B' a b

def wkVs (B B' : Boxes) : List AV → List AV → Prop
  | [], [] => True
  | a :: as, b :: bs => wkV B B' a b ∧ wkVs B B' as bs
  | _, _ => False

def wkR (B B' : Boxes) : AV → AV → Prop
  | .tup as, .tup bs => wkVs B B' as bs
  | a, b => wkV B B' a b

def wkBox (B B' : Boxes) : Box → Box → Prop
  | _, .dead => True
  | .cells l, .cells l' => wkL B B' l l'
  | .arr t l m, .arr t' l' m' => Box.arr t l m' = Box.arr t' l' m' ∧ (m' = true → m = true)
  | _, _ => False

def wkBs (B B' : Boxes) : Nat → List Box → Prop
  | _, [] => True
  | b, x :: xs => wkBox B B' (look B b) x ∧ wkBs B B' (b + 1) xs

theorem wkBs_get {B B' : Boxes} : ∀ (xs : List Box) (b0 : Nat), wkBs B B' b0 xs → ∀ j x, xs[j]? = some x → wkBox B B' (look B (b0 + j)) x
  | [], b0, _, j, x, h => by simp at h
  | y :: ys, b0, h, j, x, hj => by
    cases j with
    | zero => simp at hj; subst hj; exact h.1
    | succ j =>
      have := wkBs_get ys (b0 + 1) h.2 j x (by simpa using hj)
      rwa [show b0 + (j + 1) = b0 + 1 + j by omega]

section
variable {X : Blocks} {β : Map} {w : World} {B B' : Boxes}

theorem look_dead {B : Boxes} {b : Nat} (h : ¬ b < B.length) : look B b = .dead := by
  unfold look
  rw [List.getD_eq_getElem?_getD, List.getElem?_eq_none (by omega)]
  rfl

theorem wk_live (hb : wkBs B B' 0 B') : ∀ b, (look B' b).live = true → (look B b).live = true := by
  intro b h
  by_cases hlt : b < B'.length
  · have hg : B'[b]? = some (look B' b) := by
      unfold look
      rw [List.getD_eq_getElem?_getD, List.getElem?_eq_getElem hlt]
      rfl
    have := wkBs_get B' 0 hb b _ hg
    rw [Nat.zero_add] at this
    generalize look B' b = x at this h
    generalize look B b = y at this
    cases x with
    | dead => simp [Box.live] at h
    | cells l => cases y <;> simp [wkBox] at this; rfl
    | arr t l m =>
      cases y <;> simp [wkBox] at this
      simp only [Box.live] at h ⊢
      exact this.2 h
  · rw [look_dead hlt] at h
    simp [Box.live] at h

theorem wk_all (hb : wkBs B B' 0 B') : ∀ c, All X β (look B') c → All X β (look B) c := by
  rintro c (h | ⟨b, h1, h2⟩)
  · exact .inl h
  · exact .inr ⟨b, wk_live hb b h1, h2⟩

theorem wk1_sound (hS : SimB X β (· < B.length) w (look B)) (hb : wkBs B B' 0 B') {a a' : AV} (h : wk1 B B' a a') {v : Value} (hv : VR (All X β (look B)) β (· < B.length) w a v) : VR (All X β (look B')) β (· < B'.length) w a' v := by
  have same : a = a' ∧ lessB B'.length a.refs = true → VR (All X β (look B')) β (· < B'.length) w a' v := by
    rintro ⟨rfl, h2⟩
    refine VR.less (wk_all hb) a v (fun b hbm => ?_) hv
    have := List.all_eq_true.1 h2 b hbm
    rw [Nat.blt, Nat.ble_eq] at this
    exact this
  unfold wk1 at h
  split at h
  · unfold VR; trivial
  · subst h
    have : v = .slice none 0 0 := VR.d_iff.1 hv
    subst this
    exact VR.d_iff.2 (RD.nil rfl)
  · rename_i b off len sz cap t l
    obtain ⟨l0, m, h1, rfl, h3, rfl, h5⟩ := h
    have hr : (toD B (.sr b off len t.size cap)).run = some (.sl t ((l0.drop off).take len), [(b, .arr t l0 false)]) := by
      simp only [toD]
      rw [h1]
      simp [M.run_ifb, M.run_chk, M.run, h3]
    obtain ⟨_, _, h6, _⟩ := toD_sound (L1 := look B) hS (Cl.refl _) hr hv
    refine VR.d_iff.2 (h6.anti ?_)
    rintro c (hx | ⟨b', g1, g2⟩)
    · exact .inl hx
    · refine .inr ⟨b', ?_, g2⟩
      have hne : b' ≠ b := fun e => by rw [e, h5] at g1; cases g1
      show (updL (look B) b _ b').live = true
      unfold updL
      rw [if_neg hne]
      exact wk_live hb b' g1
  · rename_i b off len sz cap b' off' len' sz' cap'
    obtain ⟨rfl, rfl, rfl, rfl, h5, h6⟩ := h
    obtain ⟨g1, g2, g3⟩ := VR.sr_iff.1 hv
    refine VR.sr_iff.2 ⟨?_, g2, ?_⟩
    · rw [Nat.blt, Nat.ble_eq] at h6; exact h6
    · rcases h5 with rfl | rfl
      · rcases g3 with ⟨b1, b2, b3, b4, _⟩ | ⟨c, k, b1, b2, b3, _, b5⟩
        · exact .inl ⟨b1, b2, b3, b4, rfl⟩
        · exact .inr ⟨c, k, b1, b2, b3, fun k' e => (by cases e), b5⟩
      · exact g3
  · exact same h

theorem wkL_len : ∀ (as bs : List AV), wkL B B' as bs → as.length = bs.length
  | [], [], _ => rfl
  | [], _ :: _, h => h.elim
  | _ :: _, [], h => h.elim
  | a :: as, b :: bs, h => by simp [wkL_len as bs h.2]

theorem wkL_get : ∀ (as bs : List AV), wkL B B' as bs → ∀ (j : Nat) (b : AV), bs[j]? = some b → ∃ a : AV, as[j]? = some a ∧ wk1 B B' a b
  | [], [], _, j, b, h => by simp at h
  | [], _ :: _, h, _, _, _ => h.elim
  | _ :: _, [], h, _, _, _ => h.elim
  | a :: as, b :: bs, h, j, c, hj => by
    cases j with
    | zero => simp at hj; subst hj; exact ⟨a, rfl, h.1⟩
    | succ j => simpa using wkL_get as bs h.2 j c (by simpa using hj)

theorem wkL_sound (hS : SimB X β (· < B.length) w (look B)) (hb : wkBs B B' 0 B') : ∀ (as bs : List AV), wkL B B' as bs → ∀ vs, VRs (All X β (look B)) β (· < B.length) w as vs → VRs (All X β (look B')) β (· < B'.length) w bs vs
  | [], [], _, [], h => by unfold VRs; trivial
  | [], [], _, _ :: _, h => by unfold VRs at h; exact h.elim
  | [], _ :: _, h, _, _ => h.elim
  | _ :: _, [], h, _, _ => h.elim
  | a :: as, b :: bs, h, [], hv => by unfold VRs at hv; exact hv.elim
  | a :: as, b :: bs, h, v :: vs, hv => by
    unfold VRs at hv ⊢
    exact ⟨wk1_sound hS hb h.1 hv.1, wkL_sound hS hb as bs h.2 vs hv.2⟩

theorem wkV_sound (hS : SimB X β (· < B.length) w (look B)) (hb : wkBs B B' 0 B') {a a' : AV} (h : wkV B B' a a') {v : Value} (hv : VR (All X β (look B)) β (· < B.length) w a v) : VR (All X β (look B')) β (· < B'.length) w a' v := by
  unfold wkV at h
  split at h
  · obtain ⟨vs, rfl, h2⟩ := VR.agg_iff.1 hv
    exact VR.agg_iff.2 ⟨vs, rfl, wkL_sound hS hb _ _ h _ h2⟩
  · exact wk1_sound hS hb h hv

theorem wkVs_sound (hS : SimB X β (· < B.length) w (look B)) (hb : wkBs B B' 0 B') : ∀ (as bs : List AV), wkVs B B' as bs → ∀ vs, VRs (All X β (look B)) β (· < B.length) w as vs → VRs (All X β (look B')) β (· < B'.length) w bs vs
  | [], [], _, [], h => by unfold VRs; trivial
  | [], [], _, _ :: _, h => by unfold VRs at h; exact h.elim
  | [], _ :: _, h, _, _ => h.elim
  | _ :: _, [], h, _, _ => h.elim
  | a :: as, b :: bs, h, [], hv => by unfold VRs at hv; exact hv.elim
  | a :: as, b :: bs, h, v :: vs, hv => by
    unfold VRs at hv ⊢
    exact ⟨wkV_sound hS hb h.1 hv.1, wkVs_sound hS hb as bs h.2 vs hv.2⟩

theorem wkR_sound (hS : SimB X β (· < B.length) w (look B)) (hb : wkBs B B' 0 B') {a a' : AV} (h : wkR B B' a a') {v : Value} (hv : VR (All X β (look B)) β (· < B.length) w a v) : VR (All X β (look B')) β (· < B'.length) w a' v := by
  unfold wkR at h
  split at h
  · obtain ⟨vs, rfl, h2⟩ := VR.tup_iff.1 hv
    exact VR.tup_iff.2 ⟨vs, rfl, wkVs_sound hS hb _ _ h _ h2⟩
  · exact wkV_sound hS hb h hv

theorem SimB.weak (hS : SimB X β (· < B.length) w (look B)) (hb : wkBs B B' 0 B') (hl : B'.length ≤ B.length) : SimB X β (· < B'.length) w (look B') := by
  have hown : ∀ c, Own β (look B') c → Own β (look B) c := fun c ⟨b, h1, h2⟩ => ⟨b, wk_live hb b h1, h2⟩
  refine ⟨fun c h => hS.apart c (hown c h), fun b b' c h1 h2 => hS.inj b b' c (wk_live hb b h1) (wk_live hb b' h2), fun b => ?_, fun b h => ?_, hS.old, hS.tabs.1, fun c hc => ⟨(hS.tabs.2 c hc).1, fun h => (hS.tabs.2 c hc).2 (hown c h)⟩⟩
  · by_cases hlt : b < B'.length
    · have hg : B'[b]? = some (look B' b) := by
        unfold look
        rw [List.getD_eq_getElem?_getD, List.getElem?_eq_getElem hlt]
        rfl
      have hw := wkBs_get B' 0 hb b _ hg
      rw [Nat.zero_add] at hw
      have hB := hS.box b
      generalize hx : look B' b = x at hw
      generalize hy : look B b = y at hw hB
      cases x with
      | dead => trivial
      | cells l' =>
        cases y <;> simp only [wkBox] at hw
        rename_i l
        obtain ⟨c, arr, e, h1, h2, h3, h4⟩ := hB
        refine ⟨c, arr, e, h1, h2, by rw [h3, wkL_len _ _ hw], fun j a v ha hv => ?_⟩
        obtain ⟨a0, g1, g2⟩ := wkL_get _ _ hw j a ha
        exact ⟨wk1_sound hS hb g2 (h4 j a0 v g1 hv).1, (h4 j a0 v g1 hv).2⟩
      | arr t' l' m' =>
        cases y <;> simp only [wkBox] at hw
        rename_i t l m
        obtain ⟨he, hm⟩ := hw
        cases he
        obtain ⟨h0, h1⟩ := hB
        refine ⟨h0, ?_⟩
        rcases h1 with h1 | ⟨c, arr, e, g1, g2, g3, g4, g5⟩
        · exact .inl h1
        · refine .inr ⟨c, arr, e, g1, g2, g3, ⟨fun hm' => ?_, g4.2⟩, fun i hi => (g5 i hi).anti (wk_all hb)⟩
          cases m with
          | false => exact fun h => g4.1 rfl (wk_all hb c h)
          | true =>
            have hlive : (look B b).live = true := by rw [hy]; rfl
            rintro (h | ⟨b', k1, k2⟩)
            · exact hS.apart c ⟨b, hlive, g1⟩ h
            · have := hS.inj b b' c hlive (wk_live hb b' k1) g1 k2
              subst this
              rw [hx, hm'] at k1
              cases k1
    · rw [look_dead hlt]; trivial
  · by_cases hlt : b < B'.length
    · exact hlt
    · exact absurd (look_dead hlt) h

end

section
variable {P : Program}

/-- A call, by what is less told of it. -/
theorem CallAt.weak {f : FuncId} {g g' : List AV → Boxes → M (AV × Boxes)} (h : CallAt P f g)
    (hw : ∀ as B r' B', (g' as B).run = some (r', B') → ∃ r B1, (g as B).run = some (r, B1) ∧ B.length ≤ B'.length ∧ B'.length ≤ B1.length ∧ wkR B1 B' r r' ∧ wkBs B1 B' 0 B') : CallAt P f g' := by
  intro as B r' B' hr
  obtain ⟨r, B1, h1, h2, h3, h4, h5⟩ := hw as B r' B' hr
  obtain ⟨k1, k2, k3⟩ := h as B r B1 h1
  refine ⟨k1, h2, fun X β w vs hS hv => (k3 X β w vs hS hv).mono ?_⟩
  rintro e w' ⟨v, β', rfl, g1, g2, g3, g4⟩
  exact ⟨v, β', rfl, g1.weak h5 h3, wkR_sound g1 h5 h4 g2, ⟨g3.os, g3.tape, g3.output, g3.size, fun c hc hn => ⟨fun ⟨b, q1, q2⟩ => (g3.blk c hc hn).1 ⟨b, wk_live h5 b q1, q2⟩, (g3.blk c hc hn).2⟩, g3.shape⟩, g4⟩

end
end Go.Ev
