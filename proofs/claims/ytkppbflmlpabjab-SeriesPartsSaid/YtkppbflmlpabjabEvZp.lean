/- Contracts of functions: weaker results, nil rows as arguments. No condition. -/
import Derived.Test.YtkppbflmlpabjabEvZo
import Derived.Test.YtkppbflmlpabjabEvZl
namespace Go.Ev
set_option linter.unusedVariables false
set_option linter.unusedSimpArgs false
set_option linter.unusedSectionVars false
variable [Ctx]

section
variable {B B' : Boxes}

theorem wk1.eq {a : AV} (h : lessB B'.length a.refs = true) : wk1 B B' a a :=
  match a, h with
  | .top, _ => trivial
  | .d x, h => by cases x <;> exact ⟨rfl, h⟩
  | .sr b off len sz cap, h => ⟨rfl, rfl, rfl, rfl, .inr rfl, by simpa [lessB, AV.refs] using h⟩
  | .ptr .., h => ⟨rfl, h⟩
  | .eptr .., h => ⟨rfl, h⟩
  | .cptr .., h => ⟨rfl, h⟩
  | .agg .., h => ⟨rfl, h⟩
  | .tup .., h => ⟨rfl, h⟩
  | .fn .., h => ⟨rfl, h⟩
  | .snil .., h => ⟨rfl, h⟩
  | .ifc .., h => ⟨rfl, h⟩

theorem wk1.nil {t : Ty} : wk1 B B' (.d .nils) (.d (.sl t [])) := rfl

theorem wk1.row {t : Ty} {l0 : List t.den} {m : Bool} {b off len : Nat} {cap : Option Nat} (h1 : look B b = .arr t l0 m) (h2 : off + len ≤ l0.length) (h3 : (look B' b).live = false) :
    wk1 B B' (.sr b off len t.size cap) (.d (.sl t ((l0.drop off).take len))) := ⟨l0, m, h1, rfl, h2, rfl, h3⟩

theorem wk1.whole {t : Ty} {l0 : List t.den} {m : Bool} {b len : Nat} {cap : Option Nat} (h1 : look B b = .arr t l0 m) (h2 : len = l0.length) (h3 : (look B' b).live = false) :
    wk1 B B' (.sr b 0 len t.size cap) (.d (.sl t l0)) := ⟨l0, m, h1, rfl, by omega, by rw [h2]; simp, h3⟩

theorem wkL.nil : wkL B B' [] [] := trivial
theorem wkL.cons {a b : AV} {as bs : List AV} (h : wk1 B B' a b) (hs : wkL B B' as bs) : wkL B B' (a :: as) (b :: bs) := ⟨h, hs⟩

theorem lessB_append {n : Nat} {a b : List Nat} : lessB n (a ++ b) = true ↔ lessB n a = true ∧ lessB n b = true := by
  unfold lessB
  rw [List.all_append, Bool.and_eq_true]

theorem wkL.refl : ∀ (as : List AV), lessB B'.length (AV.refs.refsL as) = true → wkL B B' as as
  | [], _ => trivial
  | a :: as, h => by
    simp only [AV.refs.refsL] at h
    obtain ⟨h1, h2⟩ := lessB_append.1 h
    exact ⟨wk1.eq h1, wkL.refl as h2⟩

theorem wkV.agg {as bs : List AV} (h : wkL B B' as bs) : wkV B B' (.agg as) (.agg bs) := h
theorem wkV.one {a b : AV} (h : wk1 B B' a b) : wkV B B' a b := by
  unfold wkV
  split
  · rename_i as bs
    have h' : AV.agg as = AV.agg bs ∧ lessB B'.length (AV.refs (.agg as)) = true := h
    obtain ⟨e, h2⟩ := h'
    cases e
    exact wkL.refl as (by simpa [AV.refs] using h2)
  · exact h

theorem wkVs.nil : wkVs B B' [] [] := trivial
theorem wkVs.cons {a b : AV} {as bs : List AV} (h : wkV B B' a b) (hs : wkVs B B' as bs) : wkVs B B' (a :: as) (b :: bs) := ⟨h, hs⟩
theorem wkVs.refl : ∀ (as : List AV), lessB B'.length (AV.refs.refsL as) = true → wkVs B B' as as
  | [], _ => trivial
  | a :: as, h => by
    simp only [AV.refs.refsL] at h
    obtain ⟨h1, h2⟩ := lessB_append.1 h
    exact ⟨wkV.one (wk1.eq h1), wkVs.refl as h2⟩
theorem wkR.tup {as bs : List AV} (h : wkVs B B' as bs) : wkR B B' (.tup as) (.tup bs) := h
theorem wkR.one {a b : AV} (h : wkV B B' a b) : wkR B B' a b := by
  unfold wkR
  split
  · rename_i as bs
    have h' : AV.tup as = AV.tup bs ∧ lessB B'.length (AV.refs (.tup as)) = true := h
    obtain ⟨e, h2⟩ := h'
    cases e
    exact wkVs.refl as (by simpa [AV.refs] using h2)
  · exact h

theorem wkBox.cells {l l' : List AV} (h : wkL B B' l l') : wkBox B B' (.cells l) (.cells l') := h

end

/-- A parameter's shape. -/
inductive Sh where
  | val (t : Ty)
  | ptr

def normA (s : Sh) (a : AV) : AV := match s, a with
  | .val t, .agg cs => .agg (normCs (cellTys t) cs)
  | .val t, a => normC t a
  | .ptr, a => a

def normAs : List Sh → List AV → List AV
  | s :: ss, a :: as => normA s a :: normAs ss as
  | _, as => as

def normB : List Ty → Boxes → Boxes
  | t :: ts, x :: xs => normX t x :: normB ts xs
  | _, xs => xs

def normS (ss : List Sh) (ts : List Ty) (g : List AV → Boxes → M (AV × Boxes)) : List AV → Boxes → M (AV × Boxes) := fun as B => g (normAs ss as) (normB ts B)

section
variable {X : Blocks} {β : Map} {N : Nat → Prop} {w : World}

theorem normA_sound (s : Sh) {a : AV} {v : Value} (h : VR X β N w a v) : VR X β N w (normA s a) v := by
  unfold normA
  split
  · obtain ⟨vs, rfl, h2⟩ := VR.agg_iff.1 h
    exact VR.agg_iff.2 ⟨vs, rfl, normCs_sound _ _ _ h2⟩
  · exact normC_sound _ h
  · exact h

theorem normAs_sound : ∀ (ss : List Sh) (as : List AV) (vs : List Value), VRs X β N w as vs → VRs X β N w (normAs ss as) vs
  | s :: ss, a :: as, [], h => by unfold VRs at h; exact h.elim
  | s :: ss, a :: as, v :: vs, h => by
    unfold VRs at h
    unfold normAs VRs
    exact ⟨normA_sound s h.1, normAs_sound ss as vs h.2⟩
  | [], as, vs, h => by cases as <;> exact h
  | s :: ss, [], vs, h => h

theorem normB_len : ∀ (ts : List Ty) (B : Boxes), (normB ts B).length = B.length
  | t :: ts, x :: xs => by simp [normB, normB_len ts xs]
  | [], xs => by cases xs <;> rfl
  | t :: ts, [] => rfl

theorem normB_look : ∀ (ts : List Ty) (B : Boxes) (b : Nat), look (normB ts B) b = look B b ∨ ∃ t l, look B b = .cells l ∧ look (normB ts B) b = .cells (normCs (cellTys t) l)
  | t :: ts, x :: xs, 0 => by
    cases x with
    | cells l => exact .inr ⟨t, l, rfl, rfl⟩
    | dead => exact .inl rfl
    | arr => exact .inl rfl
  | t :: ts, x :: xs, b + 1 => by
    have := normB_look ts xs b
    simpa [look, normB] using this
  | [], xs, b => .inl (by cases xs <;> rfl)
  | t :: ts, [], b => .inl rfl

theorem normB_live (ts : List Ty) (B : Boxes) (b : Nat) : (look (normB ts B) b).live = (look B b).live := by
  rcases normB_look ts B b with h | ⟨t, l, h1, h2⟩
  · rw [h]
  · rw [h1, h2]; rfl

theorem normB_own (ts : List Ty) (B : Boxes) : Own β (look (normB ts B)) = Own β (look B) := by
  funext c
  simp only [Own, normB_live]

theorem normB_all (ts : List Ty) (B : Boxes) : All X β (look (normB ts B)) = All X β (look B) := by
  funext c
  simp only [All, normB_own]

theorem SimB.norm (ts : List Ty) {B : Boxes} (hS : SimB X β N w (look B)) : SimB X β N w (look (normB ts B)) := by
  refine ⟨fun c h => hS.apart c (by rw [← normB_own ts B]; exact h), fun b b' c h1 h2 => hS.inj b b' c (by rw [← normB_live ts B]; exact h1) (by rw [← normB_live ts B]; exact h2), fun b => ?_, fun b h => ?_, hS.old, hS.tabs.1, fun c hc => by rw [normB_own]; exact hS.tabs.2 c hc⟩
  · rw [normB_all]
    rcases normB_look ts B b with h | ⟨t, l, h1, h2⟩
    · rw [h]; exact hS.box b
    · rw [h2]
      have := hS.box b
      rw [h1] at this
      obtain ⟨c, arr, e, g1, g2, g3, g4⟩ := this
      refine ⟨c, arr, e, g1, g2, by rw [g3, normCs_len], fun j a v ha hv => ?_⟩
      obtain ⟨a0, t0, k1, k2⟩ := normCs_get _ _ j a ha
      rcases k2 with rfl | rfl
      · exact ⟨normC_sound t0 (g4 j a0 v k1 hv).1, (g4 j a0 v k1 hv).2⟩
      · exact g4 j a v k1 hv
  · refine hS.dom b fun hd => h ?_
    rcases normB_look ts B b with h' | ⟨t, l, h1, h2⟩
    · rw [h', hd]
    · rw [h1] at hd; cases hd

end

section
variable {P : Program}

theorem CallAt.norm {f : FuncId} {g : List AV → Boxes → M (AV × Boxes)} (h : CallAt P f g) (ss : List Sh) (ts : List Ty) : CallAt P f (normS ss ts g) := by
  intro as B r B' hr
  obtain ⟨k1, k2, k3⟩ := h _ _ r B' hr
  rw [normB_len] at k2
  refine ⟨k1, k2, fun X β w vs hS hv => ?_⟩
  have := k3 X β w vs (by rw [normB_len]; exact hS.norm ts) (by rw [normB_len, normB_all]; exact normAs_sound ss as vs hv)
  rw [normB_own, normB_len] at this
  exact this

theorem CallAt.weakE {f : FuncId} {g : Nat → List AV → Boxes → M (AV × Boxes)} {g' : List AV → Boxes → M (AV × Boxes)} (h : ∀ n, CallAt P f (g n))
    (hw : ∀ as B r' B', (g' as B).run = some (r', B') → ∃ n r B1, (g n as B).run = some (r, B1) ∧ B.length ≤ B'.length ∧ B'.length ≤ B1.length ∧ wkR B1 B' r r' ∧ wkBs B1 B' 0 B') : CallAt P f g' := by
  intro as B r' B' hr
  obtain ⟨n, r, B1, h1, h2, h3, h4, h5⟩ := hw as B r' B' hr
  obtain ⟨k1, k2, k3⟩ := h n as B r B1 h1
  refine ⟨k1, h2, fun X β w vs hS hv => (k3 X β w vs hS hv).mono ?_⟩
  rintro e w' ⟨v, β', rfl, g1, g2, g3, g4⟩
  exact ⟨v, β', rfl, g1.weak h5 h3, wkR_sound g1 h5 h4 g2, ⟨g3.os, g3.tape, g3.output, g3.size, fun c hc hn => ⟨fun ⟨b, q1, q2⟩ => (g3.blk c hc hn).1 ⟨b, wk_live h5 b q1, q2⟩, (g3.blk c hc hn).2⟩, g3.shape⟩, g4⟩

end
end Go.Ev
