/- GroupWaits: its plain law. -/
import Derived.Test.YtkppbflmlpabjabDi
import Derived.Test.YtkppbflmlpabjabEvZn
import Derived.KernelRfl
namespace Go.Proofs.Ytkppbflmlpabjab.Dec
open Go.Ev
set_option linter.unusedVariables false
set_option linter.unusedSimpArgs false
set_option maxRecDepth 100000
theorem alerts_len (n : Int) : (alertsG n).length ≤ 3 := by
  unfold alertsG
  split <;> split <;> split <;> simp

/-- What is known of the group, and of what was noted, ahead of a tick. -/
def WJ (w i r t began last : Int) (g : GS) (said : TL) (si : Int) : Prop :=
  (g = ((w, i, r), false, 0, false, [], si) ∧ began = -1 ∧ last = -1) ∨
  ∃ nx told la, g = ((w, i, r), true, nx, told, la, si) ∧ 0 ≤ began ∧ began < t ∧ nx ≥ began + w ∧ ((told = false ∧ last = -1) ∨ (told = true ∧ 0 ≤ last ∧ last < t ∧ si = last ∧ la = said ∧ nx ≥ last + i))

theorem waits_loop0 (m : Nat) (x3 : List Int) (w i r : Int) (h1 : 0 ≤ w) (h2 : w ≤ 30) (h3 : 1 ≤ i) (h4 : i ≤ 20) (h5 : 1 ≤ r) (h6 : r ≤ 40) (b2 : GS) :
    ∀ (n : Nat) (t began last : Int) (g : GS) (said : TL) (si : Int), 0 ≤ t → t ≤ 60 → 0 ≤ si → si ≤ t → WJ w i r t began last g said si → (60 - t).toNat < n → ∃ q, l3_0 m n x3 began last t (w, i, r) g b2 said = some q
  | 0, t, began, last, g, said, si, _, _, _, _, _, h => by omega
  | n + 1, t, began, last, g, said, si, ht0, ht1, hs0, hs1, hJ, hn0 => by
    rw [l3_0]
    by_cases ht : t < 60
    · have ih := fun (t' began' last' : Int) (g' : GS) (said' : TL) (si' : Int) (k1 : 0 ≤ t') (k2 : t' ≤ 60) (k3 : 0 ≤ si') (k4 : si' ≤ t') (k5 : WJ w i r t' began' last' g' said' si') (k6 : (60 - t').toNat < n) => waits_loop0 m x3 w i r h1 h2 h3 h4 h5 h6 b2 n t' began' last' g' said' si' k1 k2 k3 k4 k5 k6
      have ih := fun (t' began' last' : Int) (g' : GS) (said' : TL) (si' : Int) (k1 : t' = t + 1) (k2 : t' ≤ 60) (k3 : 0 ≤ si') (k4 : si' ≤ t') (k5 : WJ w i r t' began' last' g' said' si') => ih t' began' last' g' said' si' (by omega) k2 k3 k4 k5 (by omega)
      have e1 : decide (t < 60) = true := decide_eq_true ht
      have d5 : ∀ n : Int, ((decide (-4611686018427387904 ≤ n)) = (decide (-4611686018427387904 ≤ n))) := fun _ => rfl
      have ht0' : decide (0 ≤ t) = true := decide_eq_true ht0
      simp only [e1, ht0', ↓reduceIte]
      by_cases hx : t < (((List.length x3) : Nat) : Int)
      · have ex : decide (t < (((List.length x3) : Nat) : Int)) = true := decide_eq_true hx
        simp only [ex, ↓reduceIte]
        have hal := alerts_len (withinI (List.getD x3 (Int.toNat t) 0) (0) (7))
        generalize alertsG (withinI (List.getD x3 (Int.toNat t) 0) (0) (7)) = al at hal ⊢
        have hpre : tickPre g t al = true := by
          refine decide_eq_true ?_
          rcases hJ with ⟨rfl, _⟩ | ⟨nx, told, la, rfl, _⟩
          · simp only; omega
          · simp only; omega
        have ha0 : decide ((((List.length al) : Nat) : Int) > 0) = !decide (al = []) := by
          cases al with
          | nil => rfl
          | cons a l => simp
        have hw1 : IntKind.wrap .i64 (t + (1)) = t + 1 := wrap_id (by omega) (by omega)
        rcases hJ with ⟨rfl, rfl, rfl⟩ | ⟨nx, told, la, rfl, hb0, hb1, hnx, hlast⟩
        · -- idle
          have f1 : decide ((-1 : Int) < 0) = true := rfl
          by_cases ha : al = []
          · subst ha
            have hR : tickG ((w, i, r), false, 0, false, [], si) t [] = ([], false, ((w, i, r), false, 0, false, [], si)) := by simp [tickG]
            have fa : decide ((((List.length ([] : TL)) : Nat) : Int) > 0) = false := rfl
            simp only [f1, fa, hpre, hR, hw1, ↓reduceIte, Bool.false_eq_true]
            exact ih (t + 1) (-1) (-1) _ _ si (by omega) (by omega) hs0 (by omega) (.inl ⟨rfl, rfl, rfl⟩)
          · have fa : decide ((((List.length al) : Nat) : Int) > 0) = true := by rw [ha0]; simp [ha]
            have hw2 : IntKind.wrap .i64 (t + w) = t + w := wrap_id (by omega) (by omega)
            by_cases hw : 0 < w
            · have hR : tickG ((w, i, r), false, 0, false, [], si) t al = ([], false, ((w, i, r), true, t + w, false, [], 0)) := by
                have : t < t + w := by omega
                simp [tickG, ha, this]
              simp only [f1, fa, hpre, hR, hw1, ↓reduceIte, Bool.false_eq_true]
              exact ih (t + 1) t (-1) _ _ 0 (by omega) (by omega) (by omega) (by omega) (.inr ⟨_, _, _, rfl, by omega, by omega, by omega, .inl ⟨rfl, rfl⟩⟩)
            · have e : w = 0 := by omega
              have hR : tickG ((w, i, r), false, 0, false, [], si) t al = (al, true, ((w, i, r), true, t + i, true, al, t)) := by simp [tickG, ha, e]
              have f2 : decide (t < t + w) = false := decide_eq_false (by omega)
              have f3 : decide ((-1 : Int) ≥ 0) = false := rfl
              have f4 : decide (List.length al < 4611686018427387904) = true := decide_eq_true (by omega)
              have f5 : decide (((0 + (List.length al)) * 16) ≤ 70368744177664) = true := decide_eq_true (by omega)
              have f6 : (al == al) = true := beq_self_eq_true al
              simp only [f1, fa, hpre, hR, hw1, hw2, f2, f3, f4, f5, f6, ↓reduceIte, Bool.false_eq_true]
              exact ih (t + 1) t t _ _ t (by omega) (by omega) (by omega) (by omega) (.inr ⟨_, _, _, rfl, by omega, by omega, by omega, .inr ⟨rfl, by omega, by omega, rfl, rfl, by omega⟩⟩)
        · -- busy
          have f1 : decide (began < 0) = false := decide_eq_false (by omega)
          by_cases hn : t < nx
          · have hR : tickG ((w, i, r), true, nx, told, la, si) t al = ([], false, ((w, i, r), true, nx, told, la, si)) := by simp [tickG, hn]
            simp only [f1, hpre, hR, hw1, ↓reduceIte, Bool.false_eq_true]
            refine ih (t + 1) began last _ _ si (by omega) (by omega) hs0 (by omega) (.inr ⟨_, _, _, rfl, by omega, by omega, by omega, ?_⟩)
            rcases hlast with h | ⟨h1, h2, h3, h4, h5, h6⟩
            · exact .inl h
            · exact .inr ⟨h1, h2, by omega, h4, h5, h6⟩
          · have hw2 : IntKind.wrap .i64 (began + w) = began + w := wrap_id (by omega) (by omega)
            have f2 : decide (t < began + w) = false := decide_eq_false (by omega)
            by_cases ha : al = []
            · subst ha
              have hR : tickG ((w, i, r), true, nx, told, la, si) t [] = ([], told, ((w, i, r), false, 0, false, [], 0)) := by simp [tickG, hn]
              rcases hlast with ⟨rfl, rfl⟩ | ⟨rfl, h2, h3, h4, h5, h6⟩
              · simp only [f1, hpre, hR, hw1, ↓reduceIte, Bool.false_eq_true]
                exact ih (t + 1) (-1) (-1) _ _ 0 (by omega) (by omega) (by omega) (by omega) (.inl ⟨rfl, rfl, rfl⟩)
              · have f3 : decide (last ≥ 0) = true := decide_eq_true (by omega)
                have f4 : decide (List.length ([] : TL) < 4611686018427387904) = true := rfl
                have f5 : decide (((0 + (List.length ([] : TL))) * 16) ≤ 70368744177664) = true := rfl
                have f6 : (([] : TL) == ([] : TL)) = true := rfl
                have f7 : decide ((0 + (List.length said)) ≤ (List.length said)) = true := decide_eq_true (by omega)
                have f8 : decide ((((List.length ([] : TL)) : Nat) : Int) > 0) = false := rfl
                have hw3 : IntKind.wrap .i64 (last + i) = last + i := wrap_id (by omega) (by omega)
                have f9 : decide (t < last + i) = false := decide_eq_false (by omega)
                have f0 : (List.take (List.length said) (List.drop 0 said)) = said := by simp
                simp only [f1, hpre, hR, hw1, hw2, f2, f3, f4, f5, f6, f7, f8, hw3, f9, f0, ↓reduceIte, Bool.false_eq_true, ite_self]
                exact ih (t + 1) (-1) (-1) _ _ 0 (by omega) (by omega) (by omega) (by omega) (.inl ⟨rfl, rfl, rfl⟩)
            · have fa : decide ((((List.length al) : Nat) : Int) > 0) = true := by rw [ha0]; simp [ha]
              by_cases hc : told = false ∨ al ≠ la ∨ t - si ≥ r
              · have hR : tickG ((w, i, r), true, nx, told, la, si) t al = (al, true, ((w, i, r), true, t + i, true, al, t)) := by
                  unfold tickG
                  rw [if_neg (by simp [ha]), if_neg (by simpa using hn), if_neg ha, if_pos (by simpa using hc)]
                have f4 : decide (List.length al < 4611686018427387904) = true := decide_eq_true (by omega)
                have f5 : decide (((0 + (List.length al)) * 16) ≤ 70368744177664) = true := decide_eq_true (by omega)
                have f6 : (al == al) = true := beq_self_eq_true al
                rcases hlast with ⟨rfl, rfl⟩ | ⟨rfl, h2, h3, h4, h5, h6⟩
                · have f3 : decide ((-1 : Int) ≥ 0) = false := rfl
                  simp only [f1, hpre, hR, hw1, hw2, f2, f3, f4, f5, f6, ↓reduceIte, Bool.false_eq_true]
                  exact ih (t + 1) began t _ _ t (by omega) (by omega) (by omega) (by omega) (.inr ⟨_, _, _, rfl, by omega, by omega, by omega, .inr ⟨rfl, by omega, by omega, rfl, rfl, by omega⟩⟩)
                · have f3 : decide (last ≥ 0) = true := decide_eq_true (by omega)
                  have f7 : decide ((0 + (List.length said)) ≤ (List.length said)) = true := decide_eq_true (by omega)
                  have hw3 : IntKind.wrap .i64 (last + i) = last + i := wrap_id (by omega) (by omega)
                  have f9 : decide (t < last + i) = false := decide_eq_false (by omega)
                  have f0 : (List.take (List.length said) (List.drop 0 said)) = said := by simp
                  have hw4 : IntKind.wrap .i64 (last + r) = last + r := wrap_id (by omega) (by omega)
                  have fin := ih (t + 1) began t (((w, i, r), true, t + i, true, al, t)) al t (by omega) (by omega) (by omega) (by omega) (.inr ⟨_, _, _, rfl, by omega, by omega, by omega, .inr ⟨rfl, by omega, by omega, rfl, rfl, by omega⟩⟩)
                  by_cases hs : al = said
                  · have g1 : decide (t < last + r) = false := decide_eq_false (by
                      rcases hc with h | h | h
                      · cases h
                      · exact absurd (hs.trans h5.symm) h
                      · omega)
                    have g2 : (al == said) = true := by rw [hs]; exact beq_self_eq_true said
                    simp only [f1, hpre, hR, hw1, hw2, f2, f3, f4, f5, f6, f7, hw3, f9, f0, hw4, g1, g2, fa, ↓reduceIte, Bool.false_eq_true]
                    exact fin
                  · have g2 : (al == said) = false := beq_eq_false_iff_ne.2 hs
                    simp only [f1, hpre, hR, hw1, hw2, f2, f3, f4, f5, f6, f7, hw3, f9, f0, g2, ↓reduceIte, Bool.false_eq_true]
                    exact fin
              · have hR : tickG ((w, i, r), true, nx, told, la, si) t al = ([], false, ((w, i, r), true, t + i, told, la, si)) := by
                  unfold tickG
                  rw [if_neg (by simp [ha]), if_neg (by simpa using hn), if_neg ha, if_neg (by simpa using hc)]
                simp only [f1, hpre, hR, hw1, ↓reduceIte, Bool.false_eq_true]
                refine ih (t + 1) began last _ _ si (by omega) (by omega) hs0 (by omega) (.inr ⟨_, _, _, rfl, by omega, by omega, by omega, ?_⟩)
                rcases hlast with h | ⟨h1, h2, h3, h4, h5, h6⟩
                · exact .inl h
                · exact .inr ⟨h1, h2, by omega, h4, h5, by omega⟩
      · have ex : decide (t < (((List.length x3) : Nat) : Int)) = false := decide_eq_false hx
        simp only [ex, ↓reduceIte, Bool.false_eq_true]
        have hal := alerts_len (5)
        generalize alertsG (5) = al at hal ⊢
        have hpre : tickPre g t al = true := by
          refine decide_eq_true ?_
          rcases hJ with ⟨rfl, _⟩ | ⟨nx, told, la, rfl, _⟩
          · simp only; omega
          · simp only; omega
        have ha0 : decide ((((List.length al) : Nat) : Int) > 0) = !decide (al = []) := by
          cases al with
          | nil => rfl
          | cons a l => simp
        have hw1 : IntKind.wrap .i64 (t + (1)) = t + 1 := wrap_id (by omega) (by omega)
        rcases hJ with ⟨rfl, rfl, rfl⟩ | ⟨nx, told, la, rfl, hb0, hb1, hnx, hlast⟩
        · -- idle
          have f1 : decide ((-1 : Int) < 0) = true := rfl
          by_cases ha : al = []
          · subst ha
            have hR : tickG ((w, i, r), false, 0, false, [], si) t [] = ([], false, ((w, i, r), false, 0, false, [], si)) := by simp [tickG]
            have fa : decide ((((List.length ([] : TL)) : Nat) : Int) > 0) = false := rfl
            simp only [f1, fa, hpre, hR, hw1, ↓reduceIte, Bool.false_eq_true]
            exact ih (t + 1) (-1) (-1) _ _ si (by omega) (by omega) hs0 (by omega) (.inl ⟨rfl, rfl, rfl⟩)
          · have fa : decide ((((List.length al) : Nat) : Int) > 0) = true := by rw [ha0]; simp [ha]
            have hw2 : IntKind.wrap .i64 (t + w) = t + w := wrap_id (by omega) (by omega)
            by_cases hw : 0 < w
            · have hR : tickG ((w, i, r), false, 0, false, [], si) t al = ([], false, ((w, i, r), true, t + w, false, [], 0)) := by
                have : t < t + w := by omega
                simp [tickG, ha, this]
              simp only [f1, fa, hpre, hR, hw1, ↓reduceIte, Bool.false_eq_true]
              exact ih (t + 1) t (-1) _ _ 0 (by omega) (by omega) (by omega) (by omega) (.inr ⟨_, _, _, rfl, by omega, by omega, by omega, .inl ⟨rfl, rfl⟩⟩)
            · have e : w = 0 := by omega
              have hR : tickG ((w, i, r), false, 0, false, [], si) t al = (al, true, ((w, i, r), true, t + i, true, al, t)) := by simp [tickG, ha, e]
              have f2 : decide (t < t + w) = false := decide_eq_false (by omega)
              have f3 : decide ((-1 : Int) ≥ 0) = false := rfl
              have f4 : decide (List.length al < 4611686018427387904) = true := decide_eq_true (by omega)
              have f5 : decide (((0 + (List.length al)) * 16) ≤ 70368744177664) = true := decide_eq_true (by omega)
              have f6 : (al == al) = true := beq_self_eq_true al
              simp only [f1, fa, hpre, hR, hw1, hw2, f2, f3, f4, f5, f6, ↓reduceIte, Bool.false_eq_true]
              exact ih (t + 1) t t _ _ t (by omega) (by omega) (by omega) (by omega) (.inr ⟨_, _, _, rfl, by omega, by omega, by omega, .inr ⟨rfl, by omega, by omega, rfl, rfl, by omega⟩⟩)
        · -- busy
          have f1 : decide (began < 0) = false := decide_eq_false (by omega)
          by_cases hn : t < nx
          · have hR : tickG ((w, i, r), true, nx, told, la, si) t al = ([], false, ((w, i, r), true, nx, told, la, si)) := by simp [tickG, hn]
            simp only [f1, hpre, hR, hw1, ↓reduceIte, Bool.false_eq_true]
            refine ih (t + 1) began last _ _ si (by omega) (by omega) hs0 (by omega) (.inr ⟨_, _, _, rfl, by omega, by omega, by omega, ?_⟩)
            rcases hlast with h | ⟨h1, h2, h3, h4, h5, h6⟩
            · exact .inl h
            · exact .inr ⟨h1, h2, by omega, h4, h5, h6⟩
          · have hw2 : IntKind.wrap .i64 (began + w) = began + w := wrap_id (by omega) (by omega)
            have f2 : decide (t < began + w) = false := decide_eq_false (by omega)
            by_cases ha : al = []
            · subst ha
              have hR : tickG ((w, i, r), true, nx, told, la, si) t [] = ([], told, ((w, i, r), false, 0, false, [], 0)) := by simp [tickG, hn]
              rcases hlast with ⟨rfl, rfl⟩ | ⟨rfl, h2, h3, h4, h5, h6⟩
              · simp only [f1, hpre, hR, hw1, ↓reduceIte, Bool.false_eq_true]
                exact ih (t + 1) (-1) (-1) _ _ 0 (by omega) (by omega) (by omega) (by omega) (.inl ⟨rfl, rfl, rfl⟩)
              · have f3 : decide (last ≥ 0) = true := decide_eq_true (by omega)
                have f4 : decide (List.length ([] : TL) < 4611686018427387904) = true := rfl
                have f5 : decide (((0 + (List.length ([] : TL))) * 16) ≤ 70368744177664) = true := rfl
                have f6 : (([] : TL) == ([] : TL)) = true := rfl
                have f7 : decide ((0 + (List.length said)) ≤ (List.length said)) = true := decide_eq_true (by omega)
                have f8 : decide ((((List.length ([] : TL)) : Nat) : Int) > 0) = false := rfl
                have hw3 : IntKind.wrap .i64 (last + i) = last + i := wrap_id (by omega) (by omega)
                have f9 : decide (t < last + i) = false := decide_eq_false (by omega)
                have f0 : (List.take (List.length said) (List.drop 0 said)) = said := by simp
                simp only [f1, hpre, hR, hw1, hw2, f2, f3, f4, f5, f6, f7, f8, hw3, f9, f0, ↓reduceIte, Bool.false_eq_true, ite_self]
                exact ih (t + 1) (-1) (-1) _ _ 0 (by omega) (by omega) (by omega) (by omega) (.inl ⟨rfl, rfl, rfl⟩)
            · have fa : decide ((((List.length al) : Nat) : Int) > 0) = true := by rw [ha0]; simp [ha]
              by_cases hc : told = false ∨ al ≠ la ∨ t - si ≥ r
              · have hR : tickG ((w, i, r), true, nx, told, la, si) t al = (al, true, ((w, i, r), true, t + i, true, al, t)) := by
                  unfold tickG
                  rw [if_neg (by simp [ha]), if_neg (by simpa using hn), if_neg ha, if_pos (by simpa using hc)]
                have f4 : decide (List.length al < 4611686018427387904) = true := decide_eq_true (by omega)
                have f5 : decide (((0 + (List.length al)) * 16) ≤ 70368744177664) = true := decide_eq_true (by omega)
                have f6 : (al == al) = true := beq_self_eq_true al
                rcases hlast with ⟨rfl, rfl⟩ | ⟨rfl, h2, h3, h4, h5, h6⟩
                · have f3 : decide ((-1 : Int) ≥ 0) = false := rfl
                  simp only [f1, hpre, hR, hw1, hw2, f2, f3, f4, f5, f6, ↓reduceIte, Bool.false_eq_true]
                  exact ih (t + 1) began t _ _ t (by omega) (by omega) (by omega) (by omega) (.inr ⟨_, _, _, rfl, by omega, by omega, by omega, .inr ⟨rfl, by omega, by omega, rfl, rfl, by omega⟩⟩)
                · have f3 : decide (last ≥ 0) = true := decide_eq_true (by omega)
                  have f7 : decide ((0 + (List.length said)) ≤ (List.length said)) = true := decide_eq_true (by omega)
                  have hw3 : IntKind.wrap .i64 (last + i) = last + i := wrap_id (by omega) (by omega)
                  have f9 : decide (t < last + i) = false := decide_eq_false (by omega)
                  have f0 : (List.take (List.length said) (List.drop 0 said)) = said := by simp
                  have hw4 : IntKind.wrap .i64 (last + r) = last + r := wrap_id (by omega) (by omega)
                  have fin := ih (t + 1) began t (((w, i, r), true, t + i, true, al, t)) al t (by omega) (by omega) (by omega) (by omega) (.inr ⟨_, _, _, rfl, by omega, by omega, by omega, .inr ⟨rfl, by omega, by omega, rfl, rfl, by omega⟩⟩)
                  by_cases hs : al = said
                  · have g1 : decide (t < last + r) = false := decide_eq_false (by
                      rcases hc with h | h | h
                      · cases h
                      · exact absurd (hs.trans h5.symm) h
                      · omega)
                    have g2 : (al == said) = true := by rw [hs]; exact beq_self_eq_true said
                    simp only [f1, hpre, hR, hw1, hw2, f2, f3, f4, f5, f6, f7, hw3, f9, f0, hw4, g1, g2, fa, ↓reduceIte, Bool.false_eq_true]
                    exact fin
                  · have g2 : (al == said) = false := beq_eq_false_iff_ne.2 hs
                    simp only [f1, hpre, hR, hw1, hw2, f2, f3, f4, f5, f6, f7, hw3, f9, f0, g2, ↓reduceIte, Bool.false_eq_true]
                    exact fin
              · have hR : tickG ((w, i, r), true, nx, told, la, si) t al = ([], false, ((w, i, r), true, t + i, told, la, si)) := by
                  unfold tickG
                  rw [if_neg (by simp [ha]), if_neg (by simpa using hn), if_neg ha, if_neg (by simpa using hc)]
                simp only [f1, hpre, hR, hw1, ↓reduceIte, Bool.false_eq_true]
                refine ih (t + 1) began last _ _ si (by omega) (by omega) hs0 (by omega) (.inr ⟨_, _, _, rfl, by omega, by omega, by omega, ?_⟩)
                rcases hlast with h | ⟨h1, h2, h3, h4, h5, h6⟩
                · exact .inl h
                · exact .inr ⟨h1, h2, by omega, h4, h5, by omega⟩
    · have e1 : decide (t < 60) = false := decide_eq_false ht
      simp only [e1, ↓reduceIte, Bool.false_eq_true]
      exact ⟨_, rfl⟩

theorem waits_loop1 (m : Nat) (w i r : Int) (h1 : 0 ≤ w) (h2 : w ≤ 30) (h3 : 1 ≤ i) (h4 : i ≤ 20) (h5 : 1 ≤ r) (h6 : r ≤ 40) :
    ∀ (n : Nat) (t first : Int) (g : GS), 0 ≤ t → t ≤ 100 → (100 - t).toNat < n →
      ((t = 0 ∧ first = -1 ∧ g = ((w, i, r), false, 0, false, [], 0)) ∨ (0 < t ∧ t ≤ w ∧ first = -1 ∧ g = ((w, i, r), true, w, false, [], 0)) ∨ (w < t ∧ w ≤ first ∧ first < t ∧ ∃ nx, g = ((w, i, r), true, nx, true, [[97]], first))) →
      ∃ f' t' g', l3_1 m n first t (w, i, r) g = some (0, f', t', g') ∧ w ≤ f'
  | 0, t, first, g, _, _, h, _ => by omega
  | n + 1, t, first, g, ht0, ht1, hn0, hJ => by
    rw [l3_1]
    by_cases ht : t < 100
    · have ih := fun (first' : Int) (g' : GS) => waits_loop1 m w i r h1 h2 h3 h4 h5 h6 n (t + 1) first' g' (by omega) (by omega) (by omega)
      have e1 : decide (t < 100) = true := decide_eq_true ht
      have hw1 : IntKind.wrap .i64 (t + (1)) = t + 1 := wrap_id (by omega) (by omega)
      have e3 : decide ((-1 : Int) < 0) = true := rfl
      have e4 : decide ((-1 : Int) ≥ 0) = false := rfl
      rcases hJ with ⟨rfl, rfl, rfl⟩ | ⟨g1, g2, rfl, rfl⟩ | ⟨g1, g2, g3, nx, rfl⟩
      · have hp : tickPre ((w, i, r), false, 0, false, [], 0) 0 [([97] : List UInt8)] = true := decide_eq_true (by simp; omega)
        by_cases hw : 0 < w
        · have hR : tickG ((w, i, r), false, 0, false, [], 0) 0 [([97] : List UInt8)] = ([], false, ((w, i, r), true, w, false, [], 0)) := by simp [tickG, hw]
          simp only [e1, hp, hR, hw1, ↓reduceIte, Bool.false_eq_true]
          exact ih (-1) _ (.inr (.inl ⟨by omega, by omega, rfl, rfl⟩))
        · have e : w = 0 := by omega
          have hR : tickG ((w, i, r), false, 0, false, [], 0) 0 [([97] : List UInt8)] = ([[97]], true, ((w, i, r), true, 0 + i, true, [[97]], 0)) := by simp [tickG, e]
          have e2 : ((0 : Int) != w) = false := by simp [e]
          simp only [e1, hp, hR, hw1, e2, e3, e4, ↓reduceIte, Bool.false_eq_true]
          exact ih 0 _ (.inr (.inr ⟨by omega, by omega, by omega, _, rfl⟩))
      · have hp : tickPre ((w, i, r), true, w, false, [], 0) t [([97] : List UInt8)] = true := decide_eq_true (by simp; omega)
        by_cases hw : t < w
        · have hR : tickG ((w, i, r), true, w, false, [], 0) t [([97] : List UInt8)] = ([], false, ((w, i, r), true, w, false, [], 0)) := by simp [tickG, hw]
          simp only [e1, hp, hR, hw1, ↓reduceIte, Bool.false_eq_true]
          exact ih (-1) _ (.inr (.inl ⟨by omega, by omega, rfl, rfl⟩))
        · have e : t = w := by omega
          have hR : tickG ((w, i, r), true, w, false, [], 0) t [([97] : List UInt8)] = ([[97]], true, ((w, i, r), true, t + i, true, [[97]], t)) := by simp [tickG, hw]
          have e2 : (t != w) = false := by simp [e]
          simp only [e1, hp, hR, hw1, e2, e3, e4, ↓reduceIte, Bool.false_eq_true]
          exact ih t _ (.inr (.inr ⟨by omega, by omega, by omega, _, rfl⟩))
      · have hp : tickPre ((w, i, r), true, nx, true, [[97]], first) t [([97] : List UInt8)] = true := decide_eq_true (by simp; omega)
        have e5 : decide (first < 0) = false := decide_eq_false (by omega)
        have e6 : decide (first ≥ 0) = true := decide_eq_true (by omega)
        have hw2 : IntKind.wrap .i64 (t - first) = t - first := wrap_id (by omega) (by omega)
        by_cases hn : t < nx
        · have hR : tickG ((w, i, r), true, nx, true, [[97]], first) t [([97] : List UInt8)] = ([], false, ((w, i, r), true, nx, true, [[97]], first)) := by simp [tickG, hn]
          simp only [e1, hp, hR, hw1, ↓reduceIte, Bool.false_eq_true]
          exact ih first _ (.inr (.inr ⟨by omega, by omega, by omega, _, rfl⟩))
        · by_cases hc : t - first ≥ r
          · have hR : tickG ((w, i, r), true, nx, true, [[97]], first) t [([97] : List UInt8)] = ([[97]], true, ((w, i, r), true, t + i, true, [[97]], t)) := by simp [tickG, hn, hc]
            have e7 : decide (t - first < r) = false := decide_eq_false (by omega)
            simp only [e1, hp, hR, hw1, hw2, e5, e6, e7, ↓reduceIte, Bool.false_eq_true]
            exact ih t _ (.inr (.inr ⟨by omega, by omega, by omega, _, rfl⟩))
          · have hR : tickG ((w, i, r), true, nx, true, [[97]], first) t [([97] : List UInt8)] = ([], false, ((w, i, r), true, t + i, true, [[97]], first)) := by simp [tickG, hn]; omega
            simp only [e1, hp, hR, hw1, ↓reduceIte, Bool.false_eq_true]
            exact ih first _ (.inr (.inr ⟨by omega, by omega, by omega, _, rfl⟩))
    · have e : t = 100 := by omega
      subst e
      refine ⟨first, 100, g, rfl, ?_⟩
      rcases hJ with ⟨h, _⟩ | ⟨_, h, _⟩ | ⟨_, h, _⟩
      · omega
      · omega
      · exact h

theorem waits_pure (x0 x1 x2 : Int) (x3 : List Int) : ∃ m q, waits m x0 x1 x2 x3 = some q := by
  refine ⟨200, (), ?_⟩
  unfold waits
  have a1 : 0 ≤ withinI x0 0 30 ∧ withinI x0 0 30 ≤ 30 := by unfold withinI; omega
  have a2 : 1 ≤ withinI x1 1 20 ∧ withinI x1 1 20 ≤ 20 := by unfold withinI; omega
  have a3 : 1 ≤ withinI x2 1 40 ∧ withinI x2 1 40 ≤ 40 := by unfold withinI; omega
  generalize withinI x0 0 30 = w at a1
  generalize withinI x1 1 20 = i at a2
  generalize withinI x2 1 40 = r at a3
  obtain ⟨q, hq⟩ := waits_loop0 200 x3 w i r a1.1 a1.2 a2.1 a2.2 a3.1 a3.2 ((w, (i, r)), (false, (0, (false, (([] : List (List UInt8)), 0))))) (200 + 24) 0 (-1) (-1) ((w, (i, r)), (false, (0, (false, (([] : List (List UInt8)), 0))))) [] 0 (by omega) (by omega) (by omega) (by omega) (.inl ⟨rfl, rfl, rfl⟩) (by omega)
  obtain ⟨f, t, g, hf, hw⟩ := waits_loop1 200 w i r a1.1 a1.2 a2.1 a2.2 a3.1 a3.2 (200 + 24) 0 (-1) ((w, (i, r)), (false, (0, (false, (([] : List (List UInt8)), 0))))) (by omega) (by omega) (by omega) (.inl ⟨rfl, rfl, rfl⟩)
  have b1 : decide (w ≥ 0) = true := decide_eq_true (by omega)
  have b2 : decide (w ≤ 1048576) = true := decide_eq_true (by omega)
  have b3 : decide (i ≥ 1) = true := decide_eq_true (by omega)
  have b4 : decide (i ≤ 1048576) = true := decide_eq_true (by omega)
  have b5 : decide (r ≥ 1) = true := decide_eq_true (by omega)
  have b6 : decide (r ≤ 1048576) = true := decide_eq_true (by omega)
  have b7 : decide (f ≥ w) = true := decide_eq_true (by omega)
  simp only [b1, b2, b3, b4, b5, b6, l3_1R, hq, hf, b7, ↓reduceIte, Option.isSome_some, Option.getD_some, Bool.false_eq_true]
theorem waits_law (x0 x1 x2 : Int) (x3 : List Int) : ∃ g B', CallAt Try.prog 3 g ∧ (g [argAV false (.int .i64) x0, argAV false (.int .i64) x1, argAV false (.int .i64) x2, argAV false (.sl (.int .i64)) x3] []).run = some (.d (.bool true), B') := waits_at x0 x1 x2 x3 (waits_pure x0 x1 x2 x3)

end Go.Proofs.Ytkppbflmlpabjab.Dec
