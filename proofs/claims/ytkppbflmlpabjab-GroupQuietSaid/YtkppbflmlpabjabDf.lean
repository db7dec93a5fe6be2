/- GroupQuiet: its plain law. -/
import Derived.Test.YtkppbflmlpabjabDe
import Derived.Test.YtkppbflmlpabjabEvZn
import Derived.KernelRfl
namespace Go.Proofs.Ytkppbflmlpabjab.Dec
open Go.Ev
set_option linter.unusedVariables false
set_option linter.unusedSimpArgs false
set_option maxRecDepth 100000
/-- The three groups' states at a tick. -/
def iS (T : Int × Int × Int) : GS := (T, false, 0, false, [], 0)
def wS (T : Int × Int × Int) : GS := (T, true, T.1, false, [], 0)
def tS (T : Int × Int × Int) : GS := (T, true, T.1 + T.2.1, true, [[97]], T.1)

theorem pre_ok {T : Int × Int × Int} (h1 : 0 ≤ T.1) (h2 : T.1 ≤ 30) (h3 : 1 ≤ T.2.1) (h4 : T.2.1 ≤ 20) {t : Int} (ht : 0 ≤ t) (ht2 : t < 120) (al : TL) (hal : al.length ≤ 1) : tickPre (iS T) t al = true ∧ tickPre (wS T) t al = true ∧ tickPre (tS T) t al = true := by
  refine ⟨decide_eq_true ?_, decide_eq_true ?_, decide_eq_true ?_⟩ <;> simp only [iS, wS, tS] <;> omega

theorem tick_i0 (T : Int × Int × Int) (t : Int) : tickG (iS T) t [] = ([], false, iS T) := by simp [tickG, iS]

theorem quiet_loop (m : Nat) (x3 : Int) (T : Int × Int × Int) (h1 : 0 ≤ T.1) (h2 : T.1 ≤ 30) (h3 : 1 ≤ T.2.1) (h4 : T.2.1 ≤ 20) (h5 : 1 ≤ T.2.2) (G : Int) (hG : withinI x3 0 T.1 = G) (hG0 : 0 ≤ G) (hG1 : G ≤ T.1) :
    ∀ (n : Nat) (t : Int), 0 ≤ t → t ≤ 120 → (120 - t).toNat < n →
      l4_0 m n x3 (if t ≤ T.1 + T.2.1 then 0 else 1) t T (iS T) (if 0 < G ∧ 1 ≤ t ∧ t ≤ T.1 then wS T else iS T) (if t = 0 then iS T else if t ≤ T.1 then wS T else if t ≤ T.1 + T.2.1 then tS T else iS T) = some (0, 1, 120, iS T, iS T, iS T)
  | 0, t, _, _, h => by omega
  | n + 1, t, ht0, ht1, hn => by
    rw [l4_0]
    by_cases ht : t < 120
    · have hp := fun (al : TL) (hal : al.length ≤ 1) => pre_ok h1 h2 h3 h4 ht0 ht al hal
      have p1 := hp [] (by simp)
      have p2 := hp [[97]] (by simp)
      have e1 : decide (t < 120) = true := decide_eq_true ht
      have ew : IntKind.wrap .i64 (t + (1)) = t + 1 := wrap_id (by omega) (by omega)
      have ih := quiet_loop m x3 T h1 h2 h3 h4 h5 G hG hG0 hG1 n (t + 1) (by omega) (by omega) (by omega)
      have eb : ((decide (0 ≤ T.1) && decide (T.1 ≤ 2305843009213693951)) && decide ((T.1 - (0)) ≤ 2305843009213693951)) = true := by simp; omega
      have hb0 : t < G → tickPre (if 0 < G ∧ 1 ≤ t ∧ t ≤ T.1 then wS T else iS T) t [[97]] = true ∧ tickG (if 0 < G ∧ 1 ≤ t ∧ t ≤ T.1 then wS T else iS T) t [[97]] = ([], false, if 0 < G ∧ 1 ≤ t + 1 ∧ t + 1 ≤ T.1 then wS T else iS T) := by
        intro hg
        rw [if_pos (show 0 < G ∧ 1 ≤ t + 1 ∧ t + 1 ≤ T.1 by omega)]
        by_cases h : 0 < G ∧ 1 ≤ t ∧ t ≤ T.1
        · rw [if_pos h]
          refine ⟨p2.2.1, ?_⟩
          have : t < T.1 := by omega
          simp [tickG, wS, this]
        · rw [if_neg h]
          refine ⟨p2.1, ?_⟩
          have : t = 0 := by omega
          subst this
          have : 0 < T.1 := by omega
          simp [tickG, iS, wS, this]
      have hb1 : ¬ t < G → tickPre (if 0 < G ∧ 1 ≤ t ∧ t ≤ T.1 then wS T else iS T) t [] = true ∧ tickG (if 0 < G ∧ 1 ≤ t ∧ t ≤ T.1 then wS T else iS T) t [] = ([], false, if 0 < G ∧ 1 ≤ t + 1 ∧ t + 1 ≤ T.1 then wS T else iS T) := by
        intro hg
        by_cases h : 0 < G ∧ 1 ≤ t ∧ t ≤ T.1
        · rw [if_pos h]
          refine ⟨p1.2.1, ?_⟩
          by_cases h' : t < T.1
          · rw [if_pos (by omega)]
            simp [tickG, wS, h']
          · rw [if_neg (by omega)]
            simp [tickG, wS, iS, h']
        · rw [if_neg h, if_neg (by omega)]
          exact ⟨p1.1, tick_i0 T t⟩
      have hc0 : t ≤ T.1 → ∃ l, tickPre (if t = 0 then iS T else if t ≤ T.1 then wS T else if t ≤ T.1 + T.2.1 then tS T else iS T) t [[97]] = true ∧ tickG (if t = 0 then iS T else if t ≤ T.1 then wS T else if t ≤ T.1 + T.2.1 then tS T else iS T) t [[97]] = (l, decide (t = T.1), if t + 1 = 0 then iS T else if t + 1 ≤ T.1 then wS T else if t + 1 ≤ T.1 + T.2.1 then tS T else iS T) ∧ (t = T.1 → l = [[97]]) := by
        intro hg
        rw [if_neg (show ¬ t + 1 = 0 by omega)]
        by_cases h0 : t = 0
        · rw [if_pos h0]
          subst h0
          by_cases h' : 0 < T.1
          · refine ⟨[], p2.1, ?_, by omega⟩
            rw [if_pos (by omega)]
            have : ¬ (0 : Int) = T.1 := by omega
            simp [tickG, iS, wS, h', this]
          · have e : T.1 = 0 := by omega
            refine ⟨[[97]], p2.1, ?_, fun _ => rfl⟩
            rw [if_neg (by omega), if_pos (by omega)]
            simp [tickG, iS, tS, e]
        · rw [if_neg h0, if_pos hg]
          by_cases h' : t < T.1
          · refine ⟨[], p2.2.1, ?_, by omega⟩
            rw [if_pos (by omega)]
            have : ¬ t = T.1 := by omega
            simp [tickG, wS, h', this]
          · have e : t = T.1 := by omega
            refine ⟨[[97]], p2.2.1, ?_, fun _ => rfl⟩
            rw [if_neg (by omega), if_pos (by omega)]
            subst e
            simp [tickG, wS, tS]
      have hc1 : ¬ t ≤ T.1 → tickPre (if t = 0 then iS T else if t ≤ T.1 then wS T else if t ≤ T.1 + T.2.1 then tS T else iS T) t [] = true ∧ tickG (if t = 0 then iS T else if t ≤ T.1 then wS T else if t ≤ T.1 + T.2.1 then tS T else iS T) t [] = ([], decide (t = T.1 + T.2.1), if t + 1 = 0 then iS T else if t + 1 ≤ T.1 then wS T else if t + 1 ≤ T.1 + T.2.1 then tS T else iS T) := by
        intro hg
        rw [if_neg (show ¬ t + 1 = 0 by omega), if_neg (show ¬ t = 0 by omega), if_neg hg, if_neg (show ¬ t + 1 ≤ T.1 by omega)]
        by_cases h' : t < T.1 + T.2.1
        · rw [if_pos (by omega), if_pos (by omega)]
          refine ⟨p1.2.2, ?_⟩
          have : ¬ t = T.1 + T.2.1 := by omega
          simp [tickG, tS, h', this]
        · by_cases h'' : t = T.1 + T.2.1
          · rw [if_pos (by omega), if_neg (by omega)]
            refine ⟨p1.2.2, ?_⟩
            subst h''
            simp [tickG, tS, iS]
          · rw [if_neg (by omega), if_neg (by omega)]
            refine ⟨p1.1, ?_⟩
            rw [tick_i0]
            simp [h'']
      generalize (if 0 < G ∧ 1 ≤ t ∧ t ≤ T.1 then wS T else iS T) = sb at hb0 hb1
      generalize (if 0 < G ∧ 1 ≤ t + 1 ∧ t + 1 ≤ T.1 then wS T else iS T) = sb' at hb0 hb1 ih
      generalize (if t = 0 then iS T else if t ≤ T.1 then wS T else if t ≤ T.1 + T.2.1 then tS T else iS T) = sc at hc0 hc1
      generalize (if t + 1 = 0 then iS T else if t + 1 ≤ T.1 then wS T else if t + 1 ≤ T.1 + T.2.1 then tS T else iS T) = sc' at hc0 hc1 ih
      have ei : (iS T).2.1 = false := rfl
      have d1 : decide (1 ≤ List.length [([97] : List UInt8)]) = true := rfl
      have d2 : decide (0 ≤ List.length ([] : List (List UInt8))) = true := rfl
      have d3 : (((List.length ([] : List (List UInt8)) : Nat) : Int) != (0)) = false := rfl
      have d4 : (((List.length ([] : List (List UInt8)) : Nat) : Int) == (0)) = true := rfl
      have d5 : (((List.length [([97] : List UInt8)] : Nat) : Int) == (0)) = false := rfl
      by_cases hg : t < G
      · obtain ⟨b1, b2⟩ := hb0 hg
        obtain ⟨l, c1, c2, c3⟩ := hc0 (by omega)
        have hne : decide (t = T.1) = false := decide_eq_false (by omega)
        rw [hne] at c2
        rw [if_pos (show t + 1 ≤ T.1 + T.2.1 by omega)] at ih
        rw [if_pos (show t ≤ T.1 + T.2.1 by omega)]
        have eg : decide (t < G) = true := decide_eq_true hg
        have et : decide (t ≤ T.1) = true := decide_eq_true (by omega)
        simp only [e1, p1.1, tick_i0, ei, eb, hG, eg, b1, b2, et, c1, c2, ew, ih, d1, d2, d3, ↓reduceIte, Bool.false_eq_true]
      · obtain ⟨b1, b2⟩ := hb1 hg
        have eg : decide (t < G) = false := decide_eq_false hg
        by_cases hc : t ≤ T.1
        · obtain ⟨l, c1, c2, c3⟩ := hc0 hc
          rw [if_pos (show t + 1 ≤ T.1 + T.2.1 by omega)] at ih
          rw [if_pos (show t ≤ T.1 + T.2.1 by omega)]
          have et : decide (t ≤ T.1) = true := decide_eq_true hc
          by_cases hne : t = T.1
          · have hl := c3 hne
            rw [hl, decide_eq_true hne] at c2
            simp only [e1, p1.1, tick_i0, ei, eb, hG, eg, b1, b2, et, c1, c2, ew, ih, d1, d2, d3, d5, ↓reduceIte, Bool.false_eq_true]
          · rw [decide_eq_false hne] at c2
            simp only [e1, p1.1, tick_i0, ei, eb, hG, eg, b1, b2, et, c1, c2, ew, ih, d1, d2, d3, ↓reduceIte, Bool.false_eq_true]
        · obtain ⟨c1, c2⟩ := hc1 hc
          have et : decide (t ≤ T.1) = false := decide_eq_false hc
          by_cases hne : t = T.1 + T.2.1
          · rw [if_neg (show ¬ t + 1 ≤ T.1 + T.2.1 by omega)] at ih
            rw [if_pos (show t ≤ T.1 + T.2.1 by omega)]
            have e0 : IntKind.wrap .i64 ((0 : Int) + (1)) = 1 := wrap_id (by omega) (by omega)
            rw [decide_eq_true hne] at c2
            simp only [e1, p1.1, tick_i0, ei, eb, hG, eg, b1, b2, et, c1, c2, ew, e0, ih, d1, d2, d3, d4, ↓reduceIte, Bool.false_eq_true]
          · have : (if t + 1 ≤ T.1 + T.2.1 then (0 : Int) else 1) = (if t ≤ T.1 + T.2.1 then 0 else 1) := by
              by_cases h : t ≤ T.1 + T.2.1
              · rw [if_pos h, if_pos (show t + 1 ≤ T.1 + T.2.1 by omega)]
              · rw [if_neg h, if_neg (show ¬ t + 1 ≤ T.1 + T.2.1 by omega)]
            rw [this] at ih
            rw [decide_eq_false hne] at c2
            generalize (if t ≤ T.1 + T.2.1 then (0 : Int) else 1) = o at ih ⊢
            simp only [e1, p1.1, tick_i0, ei, eb, hG, eg, b1, b2, et, c1, c2, ew, ih, d1, d2, d3, ↓reduceIte, Bool.false_eq_true]
    · have e : t = 120 := by omega
      subst e
      rw [if_neg (show ¬ (120 : Int) ≤ T.1 + T.2.1 by omega), if_neg (show ¬ (0 < G ∧ (1 : Int) ≤ 120 ∧ 120 ≤ T.1) by omega), if_neg (show ¬ (120 : Int) = 0 by omega), if_neg (show ¬ (120 : Int) ≤ T.1 by omega), if_neg (show ¬ (120 : Int) ≤ T.1 + T.2.1 by omega)]
      simp

theorem quiet_pure (x0 x1 x2 x3 : Int) : ∃ m q, quiet m x0 x1 x2 x3 = some q := by
  refine ⟨200, (), ?_⟩
  unfold quiet
  have a1 : 0 ≤ withinI x0 0 30 ∧ withinI x0 0 30 ≤ 30 := by unfold withinI; omega
  have a2 : 1 ≤ withinI x1 1 20 ∧ withinI x1 1 20 ≤ 20 := by unfold withinI; omega
  have a3 : 1 ≤ withinI x2 1 40 ∧ withinI x2 1 40 ≤ 40 := by unfold withinI; omega
  generalize withinI x0 0 30 = w at a1
  generalize withinI x1 1 20 = i at a2
  generalize withinI x2 1 40 = r at a3
  have a4 : 0 ≤ withinI x3 0 w ∧ withinI x3 0 w ≤ w := by
    unfold withinI
    have := Int.emod_nonneg x3 (b := w - 0 + 1) (by omega)
    have := Int.emod_lt_of_pos x3 (b := w - 0 + 1) (by omega)
    omega
  have h := quiet_loop 200 x3 (w, i, r) (by simp; omega) (by simp; omega) (by simp; omega) (by simp; omega) (by simp; omega) (withinI x3 0 w) rfl a4.1 a4.2 (200 + 24) 0 (by omega) (by omega) (by omega)
  simp only at h
  rw [if_pos (show (0 : Int) ≤ w + i by omega), if_neg (show ¬ (0 < withinI x3 0 w ∧ (1 : Int) ≤ 0 ∧ 0 ≤ w) by omega)] at h
  simp only [if_true] at h
  unfold iS at h
  have b1 : decide (w ≥ 0) = true := decide_eq_true (by omega)
  have b2 : decide (w ≤ 1048576) = true := decide_eq_true (by omega)
  have b3 : decide (i ≥ 1) = true := decide_eq_true (by omega)
  have b4 : decide (i ≤ 1048576) = true := decide_eq_true (by omega)
  have b5 : decide (r ≥ 1) = true := decide_eq_true (by omega)
  have b6 : decide (r ≤ 1048576) = true := decide_eq_true (by omega)
  simp only [b1, b2, b3, b4, b5, b6, h, ↓reduceIte, Option.isSome_some, Option.getD_some, Bool.false_eq_true, beq_self_eq_true]
theorem quiet_law (x0 x1 x2 x3 : Int) : ∃ g B', CallAt Try.prog 4 g ∧ (g [argAV false (.int .i64) x0, argAV false (.int .i64) x1, argAV false (.int .i64) x2, argAV false (.int .i64) x3] []).run = some (.d (.bool true), B') := quiet_at x0 x1 x2 x3 (quiet_pure x0 x1 x2 x3)

end Go.Proofs.Ytkppbflmlpabjab.Dec
