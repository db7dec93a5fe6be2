/- SeriesParts: its plain law. -/
import Derived.Test.YtkppbflmlpabjabFc
import Derived.Test.YtkppbflmlpabjabEvZn
import Derived.KernelRfl
namespace Go.Proofs.Ytkppbflmlpabjab.Dec
open Go.Ev
set_option linter.unusedVariables false
set_option linter.unusedSimpArgs false
set_option maxRecDepth 100000

/-- By rising times. -/
def Rises (l : SL) : Prop := l.Pairwise fun a b => a.1 < b.1
theorem upto_eq : ∀ (l : SL) (t : Int) (i : Nat), Rises l → i < l.length → (l.getD i (0, 0)).1 ≤ t → (i + 1 < l.length → t < (l.getD (i + 1) (0, 0)).1) → uptoG l t = i + 1
  | [], t, i, _, h, _, _ => by simp at h
  | a :: r, t, 0, hr, _, h1, h2 => by
    rw [upto_cons]
    have h1' : a.1 ≤ t := by simpa using h1
    rw [if_pos h1']
    cases r with
    | nil => rfl
    | cons b s =>
      have := h2 (by simp)
      have h3 : t < b.1 := by simpa using this
      rw [upto_cons, if_neg (by omega)]
  | a :: r, t, i + 1, hr, h, h1, h2 => by
    rw [upto_cons]
    have hp := List.pairwise_cons.1 hr
    have hi : i < r.length := by simpa using h
    have h1' : (r.getD i (0, 0)).1 ≤ t := by simpa using h1
    have hm := hp.1 _ (getD_mem r i (0, 0) hi)
    rw [if_pos (by omega), upto_eq r t i hp.2 hi h1' fun h3 => by simpa using h2 (by simpa using h3)]
theorem upto_last : ∀ (l : SL) (t : Int), uptoG l t ≠ 0 → (l.getD (uptoG l t - 1) (0, 0)).1 ≤ t
  | [], t, h => absurd rfl h
  | a :: r, t, h => by
    rw [upto_cons] at h ⊢
    by_cases ha : a.1 ≤ t
    · rw [if_pos ha]
      by_cases h0 : uptoG r t = 0
      · rw [h0]; simpa using ha
      · have := upto_last r t h0
        obtain ⟨k, hk⟩ : ∃ k, uptoG r t = k + 1 := ⟨uptoG r t - 1, by omega⟩
        rw [hk] at this ⊢
        simpa using this
    · rw [if_neg ha] at h; exact absurd rfl h
theorem sampGo_len : ∀ (ks : List Int) (t : Int), (sampGo t ks).length = ks.length
  | [], t => rfl
  | k :: ks, t => by simp [sampGo, sampGo_len ks]
theorem sampGo_above : ∀ (ks : List Int) (t : Int) x, x ∈ sampGo t ks → t < x.1 ∧ x.1 ≤ t + 12 * ks.length
  | [], t, x, h => by simp [sampGo] at h
  | k :: ks, t, x, h => by
    have hw := within_1_12 k
    rcases List.mem_cons.1 h with rfl | h
    · simp only [List.length_cons]; omega
    · have := sampGo_above ks _ x h
      simp only [List.length_cons]; omega
theorem sampGo_rises : ∀ (ks : List Int) (t : Int), Rises (sampGo t ks)
  | [], t => List.Pairwise.nil
  | k :: ks, t => List.pairwise_cons.2 ⟨fun x hx => (sampGo_above ks _ x hx).1, sampGo_rises ks _⟩
set_option maxHeartbeats 20000000 in
theorem samples_ok (ks : List Int) : Rises (samplesG ks) ∧ (samplesG ks).length ≤ 20 ∧ ∀ x ∈ samplesG ks, 1 ≤ x.1 ∧ x.1 ≤ 240 := by
  refine ⟨sampGo_rises _ _, by unfold samplesG; rw [sampGo_len, List.length_take]; omega, fun x hx => ?_⟩
  have := sampGo_above _ _ x hx
  rw [List.length_take] at this
  omega
set_option maxHeartbeats 20000000 in
theorem addR_ok : ∀ (xs out : SL), Rises (out ++ xs) → (out ++ xs).length ≤ 200 → (∀ x ∈ xs, 0 ≤ x.1 ∧ x.1 ≤ 1099511627776) → addR out xs = (0, out ++ xs)
  | [], out, _, _, _ => by simp [addR]
  | x :: xs, out, h1, h2, h3 => by
    have hx := h3 x (List.mem_cons_self ..)
    rw [addR, if_neg (by omega), if_neg (by omega)]
    have hno : ¬ (0 < out.length ∧ x.1 ≤ (out.getD (out.length - 1) (0, 0)).1) := by
      rintro ⟨h4, h5⟩
      have := (List.pairwise_append.1 h1).2.2 _ (getD_mem out (out.length - 1) (0, 0) (by omega)) x (List.mem_cons_self ..)
      omega
    rw [if_neg hno, if_neg (by simp at h2; omega)]
    have e : out ++ x :: xs = (out ++ [x]) ++ xs := by simp
    rw [e] at h1 h2 ⊢
    exact addR_ok xs (out ++ [x]) h1 h2 fun y hy => h3 y (List.mem_cons_of_mem _ hy)
set_option maxHeartbeats 20000000 in
theorem addG_ok {xs : SL} (h1 : Rises xs) (h2 : xs.length ≤ 200) (h3 : ∀ x ∈ xs, 0 ≤ x.1 ∧ x.1 ≤ 1099511627776) : addG [] xs = (0, xs) := by
  have := addR_ok xs [] (by simpa using h1) (by simpa using h2) h3
  unfold addG
  rw [this]
  simp
theorem atB_true {l : SL} {t look : Int} {i : Nat} (h : uptoG l t = i + 1) (h2 : t - look < (l.getD i (0, 0)).1) : atB l t look = true ∧ atV l t look = (l.getD i (0, 0)).2 := by
  have hb : atB l t look = true := by
    unfold atB
    rw [h]
    have d1 : decide (i + 1 = 0) = false := decide_eq_false (by omega)
    have d2 : decide ((l.getD (i + 1 - 1) (0, 0)).1 ≤ t - look) = false := decide_eq_false (by rw [Nat.add_sub_cancel]; omega)
    rw [d1, d2]
    rfl
  refine ⟨hb, ?_⟩
  unfold atV
  rw [if_pos hb, h]
  rfl
theorem atB_false {l : SL} {t look : Int} {i : Nat} (h : uptoG l t = i + 1) (h2 : (l.getD i (0, 0)).1 ≤ t - look) : atB l t look = false := by
  unfold atB
  rw [h]
  have d2 : decide ((l.getD (i + 1 - 1) (0, 0)).1 ≤ t - look) = true := decide_eq_true (by rw [Nat.add_sub_cancel]; omega)
  rw [d2]
  simp

theorem addG_app {out xs : SL} (h1 : Rises (out ++ xs)) (h2 : (out ++ xs).length ≤ 200) (h3 : ∀ x ∈ xs, 0 ≤ x.1 ∧ x.1 ≤ 1099511627776) : addG out xs = (0, out ++ xs) := by
  unfold addG
  rw [addR_ok xs out h1 h2 h3]
  simp
theorem bet_split : ∀ (l : SL) (t : Int), Rises l → (∀ x ∈ l, 0 ≤ x.1 ∧ x.1 ≤ 1099511627776) →
    betG l 0 (t - 1) = l.take (cutN l t) ∧ betG l t 1099511627776 = l.drop (cutN l t)
  | [], t, _, _ => by simp [betG, cutN, uptoG]
  | a :: r, t, hr, hb => by
    have hp := List.pairwise_cons.1 hr
    have ha := hb a (List.mem_cons_self ..)
    obtain ⟨i1, i2⟩ := bet_split r t hp.2 fun x hx => hb x (List.mem_cons_of_mem _ hx)
    unfold cutN at *
    rw [upto_cons]
    by_cases hc : a.1 ≤ t - 1
    · rw [if_pos hc, List.take_succ_cons, List.drop_succ_cons, ← i1, ← i2]
      constructor
      · unfold betG
        rw [List.filter_cons_of_pos (by simp; omega)]
      · unfold betG
        rw [List.filter_cons_of_neg (by simp; omega)]
    · rw [if_neg hc]
      constructor
      · unfold betG
        rw [List.take_zero, List.filter_eq_nil_iff]
        intro x hx
        rcases List.mem_cons.1 hx with rfl | hx
        · simp; omega
        · have := hp.1 x hx
          simp; omega
      · unfold betG
        rw [List.drop_zero, List.filter_eq_self]
        intro x hx
        have hx' := hb x hx
        rcases List.mem_cons.1 hx with rfl | hx
        · simp; omega
        · have := hp.1 x hx
          simp; omega
theorem parts_loop (m : Nat) (x1 x2 : Int) (L : SL) (hr : Rises L) (hl : L.length ≤ 20) (hb : ∀ x ∈ L, 1 ≤ x.1 ∧ x.1 ≤ 240) :
    ∀ (n i : Nat), i ≤ L.length → L.length - i < n → ∃ j, l10_0 m n x1 x2 L L (L.length : Nat) (i : Nat) L (L.take i) = some (0, j, L)
  | 0, i, _, h => by omega
  | n + 1, i, h1, h2 => by
    rw [l10_0]
    by_cases hi : i < L.length
    · obtain ⟨j, ih⟩ := parts_loop m x1 x2 L hr hl hb n (i + 1) (by omega) (by omega)
      have hx := hb _ (getD_mem L i (0, 0) hi)
      have e1 : decide (((i : Nat) : Int) < (((List.length L) : Nat) : Int)) = true := decide_eq_true (by omega)
      have e2 : decide ((0 : Int) ≤ ((i : Nat) : Int)) = true := decide_eq_true (by omega)
      have ei : IntKind.wrap .i64 (((i : Nat) : Int) + (1)) = ((i + 1 : Nat) : Int) := by rw [wrap_id (by omega) (by omega)]; rfl
      have et : L.take i ++ [L.getD i (0, 0)] = L.take (i + 1) := (take_succ_getD L i (0, 0) hi).symm
      have ea : addG (L.take i) [L.getD i (0, 0)] = (0, L.take (i + 1)) := by
        rw [← et]
        refine addG_app ?_ ?_ ?_
        · rw [et]; exact hr.sublist (List.take_sublist _ _)
        · rw [et, List.length_take]; omega
        · intro x h
          rw [List.mem_singleton.1 h]
          omega
      have e3 : decide (List.length (L.take i) ≤ 200 ∧ List.length [L.getD i (0, 0)] < 4611686018427387904) = true := decide_eq_true ⟨by rw [List.length_take]; omega, by simp⟩
      have e4 : ((0 : Int) != (0)) = false := rfl
      rw [ei]
      simp only [show Int.toNat ((i : Nat) : Int) = i from rfl, e1, e2, e3, ea, e4, ↓reduceIte, Bool.false_eq_true]
      exact ⟨j, ih⟩
    · have e1 : decide (((i : Nat) : Int) < (((List.length L) : Nat) : Int)) = false := decide_eq_false (by omega)
      simp only [e1, ↓reduceIte, Bool.false_eq_true]
      exact ⟨_, by rw [List.take_of_length_le (by omega)]⟩
theorem addG_late {L : SL} {x z : Int × Int} (hr : Rises L) (hl : L.length ≤ 20) (hb : ∀ y ∈ L, 1 ≤ y.1 ∧ y.1 ≤ 240) (h0 : 0 < L.length) (hz : L.getD (L.length - 1) (0, 0) = z) (hx : x ∈ L) :
    addG L [(z.1 + 1, 0), (z.1 + 2, 0), x] = (2, L) := by
  have hz' := hb z (by rw [← hz]; exact getD_mem L _ _ (by omega))
  have hx' := hb x hx
  have hle : x.1 ≤ z.1 := by
    obtain ⟨j, hj, rfl⟩ := List.getElem_of_mem hx
    rw [← hz, List.getD_eq_getElem?_getD, List.getElem?_eq_getElem (by omega), Option.getD_some]
    by_cases h : j = L.length - 1
    · subst h; exact Int.le_refl _
    · exact Int.le_of_lt (List.pairwise_iff_getElem.1 hr j (L.length - 1) hj (by omega) (by omega))
  have r1 : addR L [(z.1 + 1, 0), (z.1 + 2, 0), x] = addR (L ++ [(z.1 + 1, 0)]) [(z.1 + 2, 0), x] := by
    rw [addR, if_neg (by simp; omega), if_neg (by simp; omega), if_neg (by rw [hz]; simp; omega), if_neg (by omega)]
  have g1 : (L ++ [(z.1 + 1, (0 : Int))]).getD ((L ++ [(z.1 + 1, (0 : Int))]).length - 1) (0, 0) = (z.1 + 1, 0) := by
    simp [List.getD_eq_getElem?_getD]
  have r2 : addR (L ++ [(z.1 + 1, 0)]) [(z.1 + 2, 0), x] = addR (L ++ [(z.1 + 1, 0)] ++ [(z.1 + 2, 0)]) [x] := by
    rw [addR, if_neg (by simp; omega), if_neg (by simp; omega), if_neg (by rw [g1]; simp), if_neg (by simp; omega)]
  have g2 : (L ++ [(z.1 + 1, (0 : Int))] ++ [(z.1 + 2, (0 : Int))]).getD ((L ++ [(z.1 + 1, (0 : Int))] ++ [(z.1 + 2, (0 : Int))]).length - 1) (0, 0) = (z.1 + 2, 0) := by
    simp [List.getD_eq_getElem?_getD]
  have r3 : (addR (L ++ [(z.1 + 1, 0)] ++ [(z.1 + 2, 0)]) [x]).1 = 2 := by
    rw [addR, if_neg (by omega), if_neg (by omega), if_pos ⟨by simp, by rw [g2]; simp; omega⟩]
  unfold addG
  rw [r1, r2, r3]
  simp
theorem parts_pure (x0 : List Int) (x1 x2 : Int) : ∃ m q, parts m x0 x1 x2 = some q := by
  obtain ⟨hr, hl, hb⟩ := samples_ok x0
  have ha := addG_ok hr (by omega) (fun x hx => by have := hb x hx; omega)
  have a1 : 0 ≤ withinI x1 0 260 ∧ withinI x1 0 260 ≤ 260 := by unfold withinI; omega
  refine ⟨0, (), ?_⟩
  obtain ⟨j, hj⟩ := parts_loop 0 x1 x2 (samplesG x0) hr hl hb 24 0 (by omega) (by omega)
  simp only [Int.natCast_zero, List.take_zero] at hj
  have hR : l10_0R 0 24 x1 x2 (samplesG x0) (samplesG x0) (((samplesG x0).length : Nat) : Int) 0 (samplesG x0) [] = (0, j, samplesG x0) := by
    unfold l10_0R
    rw [hj]
    rfl
  obtain ⟨b1, b2⟩ := bet_split (samplesG x0) (withinI x1 0 260) hr (fun x hx => by have := hb x hx; omega)
  have hk : cutN (samplesG x0) (withinI x1 0 260) ≤ (samplesG x0).length := upto_le _ _
  have w1 : IntKind.wrap .i64 (withinI x1 0 260 - (1)) = withinI x1 0 260 - 1 := wrap_id (by omega) (by omega)
  unfold parts
  simp only [ha, w1, b1, b2, hR]
  generalize samplesG x0 = L at *
  generalize withinI x1 0 260 = t at *
  generalize cutN L t = k at *
  have e1 : decide (List.length ([] : List (Int × Int)) ≤ 200 ∧ List.length L < 4611686018427387904) = true := decide_eq_true ⟨by simp, by omega⟩
  have e2 : ((0 : Int) != (0)) = false := rfl
  have l1 : (L.take k).length = k := by rw [List.length_take]; omega
  have l2 : (L.drop k).length = L.length - k := by rw [List.length_drop]
  have e3 : decide (List.length L ≤ 1000000) = true := decide_eq_true (by omega)
  have e4 : decide (((0 + (List.length (L.take k))) * 16) ≤ 70368744177664) = true := decide_eq_true (by omega)
  have e5 : decide ((((0 + (List.length (L.take k))) + (List.length (L.drop k))) * 16) ≤ 70368744177664) = true := decide_eq_true (by omega)
  have e6 : decide ((0 + (List.length (L.take k))) = List.length (L.take k)) = true := decide_eq_true (by omega)
  have e7 : decide ((0 + ((0 + (List.length (L.take k))) + (List.length (L.drop k)))) ≤ List.length (L.take k ++ L.drop k)) = true := decide_eq_true (by rw [List.length_append]; omega)
  have eT : List.take ((0 + (List.length (L.take k))) + (List.length (L.drop k))) (List.drop 0 (L.take k ++ L.drop k)) = L := by
    rw [List.drop_zero, List.take_append_drop, List.take_of_length_le (by omega)]
  have e8 : decide (List.length L < 4611686018427387904) = true := decide_eq_true (by omega)
  have e9 : (((k : Nat) : Int) != (((List.length (L.take k)) : Nat) : Int)) = false := by rw [l1]; simp
  have f1 : decide (List.length (L.drop k) ≤ 1000000) = true := decide_eq_true (by omega)
  have f2 : decide (List.length (L.drop k) < 4611686018427387904) = true := decide_eq_true (by omega)
  have f3 : decide (List.length L ≤ 200 ∧ List.length ([] : List (Int × Int)) < 4611686018427387904) = true := decide_eq_true ⟨by omega, by simp⟩
  have hE : addG L [] = (0, L) := by simp [addG, addR]
  have e0 : ((0 : Int) == (0)) = true := rfl
  simp only [e1, e2, e3, e4, e5, e6, e7, eT, e8, hj, hR, e9, f1, f2, f3, hE, e0, Option.isSome_some, beq_self_eq_true, ↓reduceIte, Bool.false_eq_true]
  by_cases h0 : 0 < L.length
  · have g1 : decide ((((List.length L) : Nat) : Int) > 0) = true := decide_eq_true (by omega)
    have wl : IntKind.wrap .i64 ((((List.length L) : Nat) : Int) - (1)) = ((L.length - 1 : Nat) : Int) := by rw [wrap_id (by omega) (by omega)]; omega
    obtain ⟨i, hi, hi'⟩ : ∃ i : Nat, withinI x2 0 ((L.length - 1 : Nat) : Int) = ((i : Nat) : Int) ∧ i < L.length := by
      have : 0 ≤ withinI x2 0 ((L.length - 1 : Nat) : Int) ∧ withinI x2 0 ((L.length - 1 : Nat) : Int) ≤ ((L.length - 1 : Nat) : Int) := by
        have p : ((L.length - 1 : Nat) : Int) - 0 + 1 > 0 := by omega
        have q1 := Int.emod_nonneg x2 (Int.ne_of_gt p)
        have q2 := Int.emod_lt_of_pos x2 p
        unfold withinI
        generalize x2 % (((L.length - 1 : Nat) : Int) - 0 + 1) = y at *
        omega
      exact ⟨(withinI x2 0 ((L.length - 1 : Nat) : Int)).toNat, by omega, by omega⟩
    have hx := getD_mem L i (0, 0) hi'
    have hzm := hb _ (getD_mem L (L.length - 1) (0, 0) (by omega))
    have g2 : decide ((0 : Int) ≤ ((L.length - 1 : Nat) : Int)) = true := decide_eq_true (by omega)
    have g3 : decide (((L.length - 1 : Nat) : Int) ≤ 2305843009213693951) = true := decide_eq_true (by omega)
    have g4 : decide (((L.length - 1 : Nat) : Int) - (0) ≤ 2305843009213693951) = true := decide_eq_true (by omega)
    have g5 : decide ((0 : Int) ≤ ((i : Nat) : Int)) = true := decide_eq_true (by omega)
    have g6 : decide (((i : Nat) : Int) < (((List.length L) : Nat) : Int)) = true := decide_eq_true (by omega)
    have g7 : decide (((L.length - 1 : Nat) : Int) < (((List.length L) : Nat) : Int)) = true := decide_eq_true (by omega)
    have hlate := addG_late hr hl hb h0 rfl hx
    rw [wl, hi]
    simp only [show ∀ n : Nat, Int.toNat ((n : Nat) : Int) = n from fun _ => rfl, g1, g2, g3, g4, g5, g6, g7, Bool.and_self, ↓reduceIte]
    generalize L.getD i (0, 0) = x at *
    generalize L.getD (L.length - 1) (0, 0) = z at *
    have v1 : IntKind.wrap .i64 (z.1 + (1)) = z.1 + 1 := wrap_id (by omega) (by omega)
    have v2 : IntKind.wrap .i64 (z.1 + (2)) = z.1 + 2 := wrap_id (by omega) (by omega)
    have d : ∀ y1 y2 y3 : Int × Int, decide (List.length L ≤ 200 ∧ List.length [y1, y2, y3] < 4611686018427387904) = true := fun _ _ _ => decide_eq_true ⟨by omega, by simp⟩
    have n2 : ((2 : Int) != (2)) = false := rfl
    simp only [v1, v2, d, hlate, n2, e3, e8, f3, hE, e0, beq_self_eq_true, ↓reduceIte, Bool.false_eq_true]
  · have g1 : decide ((((List.length L) : Nat) : Int) > 0) = false := decide_eq_false (by omega)
    simp only [g1, ↓reduceIte, Bool.false_eq_true]
theorem parts_law (x0 : List Int) (x1 x2 : Int) : ∃ g B', CallAt Try.prog 10 g ∧ (g [argAV false (.sl (.int .i64)) x0, argAV false (.int .i64) x1, argAV false (.int .i64) x2] []).run = some (.d (.bool true), B') := parts_at x0 x1 x2 (parts_pure x0 x1 x2)

end Go.Proofs.Ytkppbflmlpabjab.Dec
