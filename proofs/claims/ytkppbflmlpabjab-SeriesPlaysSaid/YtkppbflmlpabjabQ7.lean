/- SeriesPlays: its plain law. -/
import Derived.Test.YtkppbflmlpabjabQ6
import Derived.KernelRfl
namespace Go.Proofs.Ytkppbflmlpabjab.Dec
open Go.Ev
set_option linter.unusedVariables false
set_option linter.unusedSimpArgs false
set_option maxRecDepth 100000

/-- By rising times. -/
def Rises (l : SL) : Prop := l.Pairwise fun a b => a.1 < b.1
theorem upto_eq : ∀ (l : SL) (t : Int) (i : Nat), Rises l → i < l.length → (l.getD i (0, 0)).1 ≤ t → (i + 1 < l.length → t < (l.getD (i + 1) (0, 0)).1) → uptoG l t = i + 1
  | [], t, i, _, h, _, _ => by simp at h
  | a :: r, t, 0, hr, _, h1, h2 => by
    rw [upto_cons]
    have h1' : a.1 ≤ t := by simpa using h1
    rw [if_pos h1']
    cases r with
    | nil => rfl
    | cons b s =>
      have := h2 (by simp)
      have h3 : t < b.1 := by simpa using this
      rw [upto_cons, if_neg (by omega)]
  | a :: r, t, i + 1, hr, h, h1, h2 => by
    rw [upto_cons]
    have hp := List.pairwise_cons.1 hr
    have hi : i < r.length := by simpa using h
    have h1' : (r.getD i (0, 0)).1 ≤ t := by simpa using h1
    have hm := hp.1 _ (getD_mem r i (0, 0) hi)
    rw [if_pos (by omega), upto_eq r t i hp.2 hi h1' fun h3 => by simpa using h2 (by simpa using h3)]
theorem upto_last : ∀ (l : SL) (t : Int), uptoG l t ≠ 0 → (l.getD (uptoG l t - 1) (0, 0)).1 ≤ t
  | [], t, h => absurd rfl h
  | a :: r, t, h => by
    rw [upto_cons] at h ⊢
    by_cases ha : a.1 ≤ t
    · rw [if_pos ha]
      by_cases h0 : uptoG r t = 0
      · rw [h0]; simpa using ha
      · have := upto_last r t h0
        obtain ⟨k, hk⟩ : ∃ k, uptoG r t = k + 1 := ⟨uptoG r t - 1, by omega⟩
        rw [hk] at this ⊢
        simpa using this
    · rw [if_neg ha] at h; exact absurd rfl h
theorem sampGo_len : ∀ (ks : List Int) (t : Int), (sampGo t ks).length = ks.length
  | [], t => rfl
  | k :: ks, t => by simp [sampGo, sampGo_len ks]
theorem sampGo_above : ∀ (ks : List Int) (t : Int) x, x ∈ sampGo t ks → t < x.1 ∧ x.1 ≤ t + 12 * ks.length
  | [], t, x, h => by simp [sampGo] at h
  | k :: ks, t, x, h => by
    have hw := within_1_12 k
    rcases List.mem_cons.1 h with rfl | h
    · simp only [List.length_cons]; omega
    · have := sampGo_above ks _ x h
      simp only [List.length_cons]; omega
theorem sampGo_rises : ∀ (ks : List Int) (t : Int), Rises (sampGo t ks)
  | [], t => List.Pairwise.nil
  | k :: ks, t => List.pairwise_cons.2 ⟨fun x hx => (sampGo_above ks _ x hx).1, sampGo_rises ks _⟩
set_option maxHeartbeats 20000000 in
theorem samples_ok (ks : List Int) : Rises (samplesG ks) ∧ (samplesG ks).length ≤ 20 ∧ ∀ x ∈ samplesG ks, 1 ≤ x.1 ∧ x.1 ≤ 240 := by
  refine ⟨sampGo_rises _ _, by unfold samplesG; rw [sampGo_len, List.length_take]; omega, fun x hx => ?_⟩
  have := sampGo_above _ _ x hx
  rw [List.length_take] at this
  omega
set_option maxHeartbeats 20000000 in
theorem addR_ok : ∀ (xs out : SL), Rises (out ++ xs) → (out ++ xs).length ≤ 200 → (∀ x ∈ xs, 0 ≤ x.1 ∧ x.1 ≤ 1099511627776) → addR out xs = (0, out ++ xs)
  | [], out, _, _, _ => by simp [addR]
  | x :: xs, out, h1, h2, h3 => by
    have hx := h3 x (List.mem_cons_self ..)
    rw [addR, if_neg (by omega), if_neg (by omega)]
    have hno : ¬ (0 < out.length ∧ x.1 ≤ (out.getD (out.length - 1) (0, 0)).1) := by
      rintro ⟨h4, h5⟩
      have := (List.pairwise_append.1 h1).2.2 _ (getD_mem out (out.length - 1) (0, 0) (by omega)) x (List.mem_cons_self ..)
      omega
    rw [if_neg hno, if_neg (by simp at h2; omega)]
    have e : out ++ x :: xs = (out ++ [x]) ++ xs := by simp
    rw [e] at h1 h2 ⊢
    exact addR_ok xs (out ++ [x]) h1 h2 fun y hy => h3 y (List.mem_cons_of_mem _ hy)
set_option maxHeartbeats 20000000 in
theorem addG_ok {xs : SL} (h1 : Rises xs) (h2 : xs.length ≤ 200) (h3 : ∀ x ∈ xs, 0 ≤ x.1 ∧ x.1 ≤ 1099511627776) : addG [] xs = (0, xs) := by
  have := addR_ok xs [] (by simpa using h1) (by simpa using h2) h3
  unfold addG
  rw [this]
  simp
theorem atB_true {l : SL} {t look : Int} {i : Nat} (h : uptoG l t = i + 1) (h2 : t - look < (l.getD i (0, 0)).1) : atB l t look = true ∧ atV l t look = (l.getD i (0, 0)).2 := by
  have hb : atB l t look = true := by
    unfold atB
    rw [h]
    have d1 : decide (i + 1 = 0) = false := decide_eq_false (by omega)
    have d2 : decide ((l.getD (i + 1 - 1) (0, 0)).1 ≤ t - look) = false := decide_eq_false (by rw [Nat.add_sub_cancel]; omega)
    rw [d1, d2]
    rfl
  refine ⟨hb, ?_⟩
  unfold atV
  rw [if_pos hb, h]
  rfl
theorem atB_false {l : SL} {t look : Int} {i : Nat} (h : uptoG l t = i + 1) (h2 : (l.getD i (0, 0)).1 ≤ t - look) : atB l t look = false := by
  unfold atB
  rw [h]
  have d2 : decide ((l.getD (i + 1 - 1) (0, 0)).1 ≤ t - look) = true := decide_eq_true (by rw [Nat.add_sub_cancel]; omega)
  rw [d2]
  simp

theorem rises_snoc {out : SL} {x : Int × Int} (h : Rises out) (hx : ¬ (0 < out.length ∧ x.1 ≤ (out.getD (out.length - 1) (0, 0)).1)) : Rises (out ++ [x]) := by
  refine List.pairwise_append.2 ⟨h, List.pairwise_singleton _ _, fun a ha b hb => ?_⟩
  rw [List.mem_singleton.1 hb]
  obtain ⟨j, hj, rfl⟩ := List.getElem_of_mem ha
  have h0 : 0 < out.length := by omega
  have h1 : ¬ x.1 ≤ (out.getD (out.length - 1) (0, 0)).1 := fun h => hx ⟨h0, h⟩
  rw [List.getD_eq_getElem?_getD, List.getElem?_eq_getElem (by omega), Option.getD_some] at h1
  by_cases hj' : j = out.length - 1
  · subst hj'; omega
  · have := List.pairwise_iff_getElem.1 h j (out.length - 1) hj (by omega) (by omega)
    omega
theorem addR_inv : ∀ (xs out : SL), Rises out → out.length ≤ 200 → Rises (addR out xs).2 ∧ (addR out xs).2.length ≤ 200
  | [], out, h1, h2 => ⟨h1, h2⟩
  | x :: xs, out, h1, h2 => by
    unfold addR
    split
    · exact ⟨h1, h2⟩
    · split
      · exact ⟨h1, h2⟩
      · split
        · exact ⟨h1, h2⟩
        · rename_i hx
          split
          · exact ⟨h1, h2⟩
          · exact addR_inv xs _ (rises_snoc h1 hx) (by simp; omega)
theorem upto_above (L : SL) (t : Int) (hr : Rises L) : ∀ j, uptoG L t ≤ j → j < L.length → t < (L.getD j (0, 0)).1 := by
  induction L with
  | nil => intro j _ h; simp at h
  | cons a r ih =>
    intro j h1 h2
    have hp := List.pairwise_cons.1 hr
    rw [upto_cons] at h1
    by_cases ha : a.1 ≤ t
    · rw [if_pos ha] at h1
      obtain ⟨i, rfl⟩ : ∃ i, j = i + 1 := ⟨j - 1, by omega⟩
      have := ih hp.2 i (by omega) (by simpa using h2)
      simpa using this
    · cases j with
      | zero => simpa using ha
      | succ i =>
        have := hp.1 _ (getD_mem r i (0, 0) (by simpa using h2))
        simp only [List.getD_cons_succ]
        omega
theorem refGo_eq (L : SL) (t look : Int) (hr : Rises L) (hw : IntKind.wrap .i64 (t - look) = t - look) : ∀ n, uptoG L t ≤ n → n ≤ L.length →
    refGo L t look n = if uptoG L t = 0 then (0, false) else ((L.getD (uptoG L t - 1) (0, 0)).2, decide ((L.getD (uptoG L t - 1) (0, 0)).1 > t - look))
  | 0, h1, h2 => by rw [if_pos (by omega)]; rfl
  | n + 1, h1, h2 => by
    unfold refGo
    by_cases hn : uptoG L t ≤ n
    · have := upto_above L t hr n hn (by omega)
      rw [if_neg (by omega), refGo_eq L t look hr hw n hn (by omega)]
    · have he : uptoG L t = n + 1 := by omega
      have := upto_last L t (by omega)
      rw [he, Nat.add_sub_cancel] at this
      rw [if_pos this, if_neg (by omega), he, Nat.add_sub_cancel, hw]
theorem refAt_eq (L : SL) (t look : Int) (hr : Rises L) (hw : IntKind.wrap .i64 (t - look) = t - look) : (refAtG L t look).2 = atB L t look ∧ (atB L t look = true → (refAtG L t look).1 = atV L t look) := by
  unfold refAtG
  rw [refGo_eq L t look hr hw L.length (upto_le L t) (Nat.le_refl _)]
  have hB : atB L t look = true → atV L t look = (L.getD (uptoG L t - 1) (0, 0)).2 := by
    intro h; unfold atV; rw [if_pos h]
  by_cases h0 : uptoG L t = 0
  · rw [if_pos h0]
    have : atB L t look = false := by unfold atB; rw [h0]; rfl
    rw [this]
    exact ⟨rfl, fun h => by cases h⟩
  · rw [if_neg h0]
    refine ⟨?_, fun h => (hB h).symm⟩
    unfold atB
    rw [show decide (uptoG L t = 0) = false from decide_eq_false h0]
    by_cases hc : (L.getD (uptoG L t - 1) (0, 0)).1 ≤ t - look
    · rw [show decide ((L.getD (uptoG L t - 1) (0, 0)).1 ≤ t - look) = true from decide_eq_true hc, show decide ((L.getD (uptoG L t - 1) (0, 0)).1 > t - look) = false from decide_eq_false (by omega)]
      rfl
    · rw [show decide ((L.getD (uptoG L t - 1) (0, 0)).1 ≤ t - look) = false from decide_eq_false hc, show decide ((L.getD (uptoG L t - 1) (0, 0)).1 > t - look) = true from decide_eq_true (by omega)]
      rfl
abbrev AskT := Int × Int × Int × SL
theorem play1 (m : Nat) (x0 : List AskT) (s4 : SL) (s5 : Int) (b0 s8 xs : SL) (hx : xs.length ≤ 1000000) : ∀ (n k : Nat) (w : Int) (nx : SL), k ≤ xs.length → nx.length ≤ 200 → xs.length - k < n →
    ∃ j, l11_1 m n x0 s4 s5 b0 s8 w (xs.length : Nat) (k : Nat) xs nx = some (0, (if w = 0 then addR nx (xs.drop k) else (w, nx)).1, j, (if w = 0 then addR nx (xs.drop k) else (w, nx)).2)
  | 0, k, w, nx, _, _, h => by omega
  | n + 1, k, w, nx, h1, h2, h3 => by
    rw [l11_1]
    by_cases hk : k < xs.length
    · have e1 : decide (((k : Nat) : Int) < (((List.length xs) : Nat) : Int)) = true := decide_eq_true (by omega)
      have e2 : decide ((0 : Int) ≤ ((k : Nat) : Int)) = true := decide_eq_true (by omega)
      have e3 : decide (k < List.length xs) = true := decide_eq_true (by omega)
      have e7 : IntKind.wrap .i64 (((k : Nat) : Int) + (1)) = ((k + 1 : Nat) : Int) := by rw [wrap_id (by omega) (by omega)]; rfl
      have go := fun (w' : Int) (nx' : SL) (h : nx'.length ≤ 200) => play1 m x0 s4 s5 b0 s8 xs hx n (k + 1) w' nx' (by omega) h (by omega)
      rw [drop_getD xs k (0, 0) hk]
      simp only [show Int.toNat ((k : Nat) : Int) = k from rfl, Nat.zero_add, e1, e2, e3, e7, ↓reduceIte]
      generalize List.getD xs k (0, 0) = x at *
      by_cases hw : w = 0
      · subst hw
        have f0 : ((0 : Int) != (0)) = false := rfl
        simp only [f0, ↓reduceIte, Bool.false_eq_true]
        rw [addR]
        by_cases c1 : x.1 < 0
        · have g1 : decide (x.1 < 0) = true := decide_eq_true c1
          simp only [g1, c1, ↓reduceIte]
          obtain ⟨j, hj⟩ := go 1 nx h2
          exact ⟨j, hj⟩
        · have g1 : decide (x.1 < 0) = false := decide_eq_false c1
          simp only [g1, c1, ↓reduceIte, Bool.false_eq_true]
          by_cases c2 : x.1 > 1099511627776
          · have g2 : decide (x.1 > 1099511627776) = true := decide_eq_true c2
            simp only [g2, c2, ↓reduceIte]
            obtain ⟨j, hj⟩ := go 1 nx h2
            exact ⟨j, hj⟩
          · have g2 : decide (x.1 > 1099511627776) = false := decide_eq_false c2
            simp only [g2, c2, ↓reduceIte, Bool.false_eq_true]
            have e4 : decide ((((List.length nx) + 1) * 16) ≤ 70368744177664) = true := decide_eq_true (by omega)
            by_cases c3 : 0 < nx.length
            · have f1 : decide ((((List.length nx) : Nat) : Int) > 0) = true := decide_eq_true (by omega)
              have f2 : IntKind.wrap .i64 ((((List.length nx) : Nat) : Int) - (1)) = ((nx.length - 1 : Nat) : Int) := by rw [wrap_id (by omega) (by omega)]; omega
              have f3 : decide ((0 : Int) ≤ ((nx.length - 1 : Nat) : Int)) = true := decide_eq_true (by omega)
              have f4 : decide (((nx.length - 1 : Nat) : Int) < (((List.length nx) : Nat) : Int)) = true := decide_eq_true (by omega)
              have f5 : decide ((nx.length - 1) < (List.length nx)) = true := decide_eq_true (by omega)
              simp only [f1, f2, f3, f4, f5, show ∀ n : Nat, Int.toNat ((n : Nat) : Int) = n from fun _ => rfl, ↓reduceIte]
              by_cases c4 : x.1 ≤ (nx.getD (nx.length - 1) (0, 0)).1
              · have g4 : decide (x.1 ≤ (nx.getD (nx.length - 1) (0, 0)).1) = true := decide_eq_true c4
                simp only [g4, c3, c4, and_self, ↓reduceIte]
                obtain ⟨j, hj⟩ := go 2 nx h2
                exact ⟨j, hj⟩
              · have g4 : decide (x.1 ≤ (nx.getD (nx.length - 1) (0, 0)).1) = false := decide_eq_false c4
                simp only [g4, c4, and_false, ↓reduceIte, Bool.false_eq_true]
                by_cases c5 : nx.length = 200
                · have g5 : decide ((((List.length nx) : Nat) : Int) ≥ 200) = true := decide_eq_true (by omega)
                  simp only [g5, c5, ↓reduceIte]
                  obtain ⟨j, hj⟩ := go 8 nx h2
                  exact ⟨j, hj⟩
                · have g5 : decide ((((List.length nx) : Nat) : Int) ≥ 200) = false := decide_eq_false (by omega)
                  simp only [g5, c5, e4, ↓reduceIte, Bool.false_eq_true]
                  obtain ⟨j, hj⟩ := go 0 (nx ++ [x]) (by simp; omega)
                  exact ⟨j, hj⟩
            · have f1 : decide ((((List.length nx) : Nat) : Int) > 0) = false := decide_eq_false (by omega)
              have g5 : decide ((((List.length nx) : Nat) : Int) ≥ 200) = false := decide_eq_false (by omega)
              have c5 : ¬ nx.length = 200 := by omega
              simp only [f1, g5, c3, c5, e4, false_and, ↓reduceIte, Bool.false_eq_true]
              obtain ⟨j, hj⟩ := go 0 (nx ++ [x]) (by simp; omega)
              exact ⟨j, hj⟩
      · have f0 : (w != (0)) = true := by simpa using hw
        simp only [f0, hw, ↓reduceIte]
        obtain ⟨j, hj⟩ := go w nx h2
        exact ⟨j, by rw [hj, if_neg hw]⟩
    · have e1 : decide (((k : Nat) : Int) < (((List.length xs) : Nat) : Int)) = false := decide_eq_false (by omega)
      simp only [e1, ↓reduceIte, Bool.false_eq_true]
      rw [List.drop_eq_nil_of_le (by omega)]
      refine ⟨(k : Nat), ?_⟩
      by_cases hw : w = 0
      · subst hw; rfl
      · rw [if_neg hw]
theorem play2 (m : Nat) (x0 : List AskT) (l : SL) (s5 : Int) (b0 : SL) (q : AskT) (hb : l.length ≤ 1000000) : ∀ (n k : Nat), k ≤ l.length → l.length - k < n → ∃ e, l11_2 m n x0 l s5 b0 (k : Nat) q = some (e, ((k + cutN (l.drop k) q.2.1 : Nat) : Int)) ∧ (e = 0 ∨ e = 1)
  | 0, k, _, h => by omega
  | n + 1, k, h1, h2 => by
    rw [l11_2]
    by_cases hk : k < l.length
    · have e1 : decide (((k : Nat) : Int) < (((List.length l) : Nat) : Int)) = true := decide_eq_true (by omega)
      have e2 : decide ((0 : Int) ≤ ((k : Nat) : Int)) = true := decide_eq_true (by omega)
      have e7 : IntKind.wrap .i64 (((k : Nat) : Int) + (1)) = ((k + 1 : Nat) : Int) := by rw [wrap_id (by omega) (by omega)]; rfl
      rw [drop_getD l k (0, 0) hk, Int.toNat_natCast, e7, if_pos e1, if_pos e2]
      generalize l.getD k (0, 0) = x
      unfold cutN
      by_cases hc : x.1 < q.2.1
      · obtain ⟨e, hr, he⟩ := play2 m x0 l s5 b0 q hb n (k + 1) (by omega) (by omega)
        refine ⟨e, ?_, he⟩
        rw [if_pos (decide_eq_true hc), hr, upto_cons, if_pos (by omega)]
        unfold cutN
        rw [show k + 1 + uptoG (l.drop (k + 1)) (q.2.1 - 1) = k + (uptoG (l.drop (k + 1)) (q.2.1 - 1) + 1) by omega]
      · refine ⟨0, ?_, .inl rfl⟩
        rw [if_neg (by simpa using hc), upto_cons, if_neg (by omega)]
        rfl
    · have e1 : decide (((k : Nat) : Int) < (((List.length l) : Nat) : Int)) = false := decide_eq_false (by omega)
      rw [e1, if_neg (by simp), List.drop_eq_nil_of_le (by omega)]
      exact ⟨1, rfl, .inr rfl⟩
theorem play3 (m : Nat) (x0 : List AskT) (l : SL) (s5 : Int) (b0 : SL) (q : AskT) (hb : l.length ≤ 1000000) : ∀ (n k : Nat) (acc : SL), k ≤ l.length → acc.length ≤ k → l.length - k < n → ∃ s, l11_3 m n x0 l s5 b0 (l.length : Nat) (k : Nat) q acc = some (0, s, acc ++ betG (l.drop k) q.2.1 q.2.2.1)
  | 0, k, acc, _, _, h => by omega
  | n + 1, k, acc, h1, h2, h3 => by
    rw [l11_3]
    by_cases hk : k < l.length
    · have e1 : decide (((k : Nat) : Int) < (((List.length l) : Nat) : Int)) = true := decide_eq_true (by omega)
      have e2 : decide ((0 : Int) ≤ ((k : Nat) : Int)) = true := decide_eq_true (by omega)
      have e7 : IntKind.wrap .i64 (((k : Nat) : Int) + (1)) = ((k + 1 : Nat) : Int) := by rw [wrap_id (by omega) (by omega)]; rfl
      have e4 : decide ((((List.length acc) + 1) * 16) ≤ 70368744177664) = true := decide_eq_true (by omega)
      rw [drop_getD l k (0, 0) hk, Int.toNat_natCast, e7, if_pos e1, if_pos e2, if_pos e1, if_pos e4]
      generalize l.getD k (0, 0) = x
      have go := play3 m x0 l s5 b0 q hb n (k + 1)
      by_cases c1 : x.1 ≥ q.2.1
      · by_cases c2 : x.1 ≤ q.2.2.1
        · rw [if_pos (decide_eq_true c1), if_pos (decide_eq_true c2)]
          obtain ⟨s, hs⟩ := go (acc ++ [x]) (by omega) (by simp; omega) (by omega)
          refine ⟨s, ?_⟩
          rw [hs]
          simp [betG, c1, c2]
        · rw [if_pos (decide_eq_true c1), if_neg (by simpa using c2)]
          obtain ⟨s, hs⟩ := go acc (by omega) (by omega) (by omega)
          refine ⟨s, ?_⟩
          rw [hs]
          simp [betG, c2]
      · rw [if_neg (by simpa using c1)]
        obtain ⟨s, hs⟩ := go acc (by omega) (by omega) (by omega)
        refine ⟨s, ?_⟩
        rw [hs]
        simp [betG, c1]
    · have e1 : decide (((k : Nat) : Int) < (((List.length l) : Nat) : Int)) = false := decide_eq_false (by omega)
      rw [e1, if_neg (by simp), List.drop_eq_nil_of_le (by omega)]
      exact ⟨((k : Nat) : Int), by simp [betG]⟩
theorem plays_loop (m : Nat) (hm : 1000 ≤ m) (x0 : List AskT) : ∀ (n k : Nat) (L : SL), k ≤ 30 → 30 - k < n → Rises L → L.length ≤ 200 → ∃ q, l11_0 m n x0 L (k : Nat) L = some q ∧ (q.1 = 0 ∨ q.1 = 1)
  | 0, k, L, _, h, _, _ => by omega
  | n + 1, k, L, h1, h2, hr, hl => by
    rw [l11_0]
    by_cases hk : k < x0.length
    · have e1 : decide (((k : Nat) : Int) < (((List.length x0) : Nat) : Int)) = true := decide_eq_true (by omega)
      by_cases hk3 : k < 30
      · have e2 : decide (((k : Nat) : Int) < 30) = true := decide_eq_true (by omega)
        have e3 : decide ((0 : Int) ≤ ((k : Nat) : Int)) = true := decide_eq_true (by omega)
        have e7 : IntKind.wrap .i64 (((k : Nat) : Int) + (1)) = ((k + 1 : Nat) : Int) := by rw [wrap_id (by omega) (by omega)]; rfl
        have go := fun (L' : SL) (h : Rises L') (h' : L'.length ≤ 200) => plays_loop m hm x0 n (k + 1) L' (by omega) (by omega) h h'
        rw [show Int.toNat ((k : Nat) : Int) = k from rfl, e7]
        simp only [e1, e2, e3, ↓reduceIte]
        generalize List.getD x0 k (0, (0, (0, ([] : List (Int × Int))))) = q
        have hL1 : decide (List.length L ≤ 1000000) = true := decide_eq_true (by omega)
        by_cases k1 : q.1 = 1
        · have d1 : (q.1 == (1)) = true := by simp [k1]
          simp only [d1, ↓reduceIte]
          have c0 : (decide (0 ≤ (if (8) < (((List.length q.2.2.2) : Nat) : Int) then (8) else (((List.length q.2.2.2) : Nat) : Int))) && decide ((if (8) < (((List.length q.2.2.2) : Nat) : Int) then (8) else (((List.length q.2.2.2) : Nat) : Int)) ≤ (((List.length q.2.2.2) : Nat) : Int))) = true := by
            split <;> simp <;> omega
          have hXS : List.drop 0 (List.take (Int.toNat (if (8) < (((List.length q.2.2.2) : Nat) : Int) then (8) else (((List.length q.2.2.2) : Nat) : Int))) q.2.2.2) = q.2.2.2.take 8 := by
            rw [List.drop_zero]
            split
            · rfl
            · rw [Int.toNat_natCast, List.take_length, List.take_of_length_le (by omega)]
          have hx8 : (q.2.2.2.take 8).length ≤ 8 := by rw [List.length_take]; omega
          simp only [c0, hXS, ↓reduceIte]
          generalize q.2.2.2.take 8 = xs at hx8 ⊢
          have eT : List.take (List.length xs) (List.drop 0 xs) = xs := by rw [List.drop_zero, List.take_length]
          have e4 : decide ((List.length xs * 16) ≤ 70368744177664) = true := decide_eq_true (by omega)
          have e5 : decide (List.length xs ≤ List.length xs) = true := decide_eq_true (Nat.le_refl _)
          have e6 : decide (List.length xs ≤ 1000000) = true := decide_eq_true (by omega)
          have e8 : decide ((List.length L * 16) ≤ 70368744177664) = true := decide_eq_true (by omega)
          obtain ⟨j, hj⟩ := play1 m x0 L (k : Nat) L (sroomyG xs ((7), (0))) xs (by omega) (m + 24) 0 0 L (by omega) hl (by omega)
          rw [if_pos rfl, List.drop_zero, Int.natCast_zero] at hj
          have hF : List.drop 0 (List.take (List.length xs) (sroomyG xs ((7), (0)))) = xs := by
            rw [List.drop_zero]
            unfold sroomyG
            rw [List.take_left']
            rfl
          have hFl : (sroomyG xs ((7), (0))).length = xs.length + 80 := by unfold sroomyG; rw [List.length_append, List.length_replicate]
          have e9 : (decide (0 ≤ (((List.length xs) : Nat) : Int)) && decide ((((List.length xs) : Nat) : Int) ≤ (((List.length (sroomyG xs ((7), (0)))) : Nat) : Int))) = true := by
            rw [hFl]; simp; omega
          have ea : decide (List.length L ≤ 200 ∧ List.length xs < 4611686018427387904) = true := decide_eq_true ⟨hl, by omega⟩
          have eb : decide (List.length (sroomyG xs ((7), (0))) ≤ 1000000 ∧ List.length xs ≤ 1000000) = true := decide_eq_true ⟨by omega, by omega⟩
          have ec : sintactG (sroomyG xs ((7), (0))) xs ((7), (0)) = true := decide_eq_true rfl
          have hinv := addR_inv xs L hr hl
          have hG : addG L xs = if (addR L xs).1 = 0 then (0, (addR L xs).2) else ((addR L xs).1, L) := rfl
          simp only [Nat.zero_add, show ∀ n : Nat, Int.toNat ((n : Nat) : Int) = n from fun _ => rfl, eT, e4, e5, e6, e8, ↓reduceIte]
          generalize sroomyG xs ((7), (0)) = full at *
          generalize addR L xs = r at *
          obtain ⟨w, K⟩ := r
          simp only at hinv hG hj
          obtain ⟨hRK, hK⟩ := hinv
          by_cases hw : w = 0
          · subst hw
            rw [if_pos rfl] at hG
            have n0 : ((0 : Int) != (0)) = false := rfl
            have eK : List.take (List.length K) (List.drop 0 K) = K := by rw [List.drop_zero, List.take_length]
            have t1 : decide (List.length K ≤ 1000000) = true := decide_eq_true (by omega)
            have t2 : decide (List.length K < 4611686018427387904) = true := decide_eq_true (by omega)
            have t3 : ((K : SL) == K) = true := beq_self_eq_true _
            by_cases hp : 0 < List.length K
            · have t4 : slastB K = true := decide_eq_true hp
              have t5 : decide ((((List.length K) : Nat) : Int) > 0) = true := decide_eq_true (by omega)
              have t6 : IntKind.wrap .i64 ((((List.length K) : Nat) : Int) - (1)) = ((List.length K - 1 : Nat) : Int) := by rw [wrap_id (by omega) (by omega)]; omega
              have t7 : decide ((0 : Int) ≤ ((List.length K - 1 : Nat) : Int)) = true := decide_eq_true (by omega)
              have t8 : decide (((List.length K - 1 : Nat) : Int) < (((List.length K) : Nat) : Int)) = true := decide_eq_true (by omega)
              have t9 : decide ((List.length K - 1) < (List.length K)) = true := decide_eq_true (by omega)
              have tv : slastV K = List.getD K (List.length K - 1) (0, 0) := if_pos hp
              simp only [eT, e6, l11_1R, hj, e9, hF, ea, hG, n0, eb, ec, Option.isSome_some, Option.getD_some, eK, t1, t2, t3, t4, t5, t6, t7, t8, t9, tv, Nat.zero_add, show ∀ n : Nat, Int.toNat ((n : Nat) : Int) = n from fun _ => rfl, beq_self_eq_true, Bool.and_self, Bool.and_true, ↓reduceIte, Bool.false_eq_true]
              exact go K (by assumption) (by assumption)
            · have t4 : slastB K = false := decide_eq_false hp
              have t5 : decide ((((List.length K) : Nat) : Int) > 0) = false := decide_eq_false (by omega)
              simp only [eT, e6, l11_1R, hj, e9, hF, ea, hG, n0, eb, ec, Option.isSome_some, Option.getD_some, eK, t1, t2, t3, t4, t5, Nat.zero_add, show ∀ n : Nat, Int.toNat ((n : Nat) : Int) = n from fun _ => rfl, beq_self_eq_true, ↓reduceIte, Bool.false_eq_true]
              exact go K (by assumption) (by assumption)
          · rw [if_neg hw] at hG
            have n0 : (w != w) = false := by simp
            have n1 : (w == (0)) = false := by simpa using hw
            have t1 : decide (List.length L ≤ 1000000) = true := decide_eq_true (by omega)
            have t2 : decide (List.length L < 4611686018427387904) = true := decide_eq_true (by omega)
            have t3 : ((L : SL) == L) = true := beq_self_eq_true _
            by_cases hp : 0 < List.length L
            · have t4 : slastB L = true := decide_eq_true hp
              have t5 : decide ((((List.length L) : Nat) : Int) > 0) = true := decide_eq_true (by omega)
              have t6 : IntKind.wrap .i64 ((((List.length L) : Nat) : Int) - (1)) = ((List.length L - 1 : Nat) : Int) := by rw [wrap_id (by omega) (by omega)]; omega
              have t7 : decide ((0 : Int) ≤ ((List.length L - 1 : Nat) : Int)) = true := decide_eq_true (by omega)
              have t8 : decide (((List.length L - 1 : Nat) : Int) < (((List.length L) : Nat) : Int)) = true := decide_eq_true (by omega)
              have t9 : decide ((List.length L - 1) < (List.length L)) = true := decide_eq_true (by omega)
              have tv : slastV L = List.getD L (List.length L - 1) (0, 0) := if_pos hp
              simp only [eT, e6, l11_1R, hj, e9, hF, ea, hG, n0, eb, ec, Option.isSome_some, Option.getD_some, n1, t1, t2, t3, t4, t5, t6, t7, t8, t9, tv, Nat.zero_add, show ∀ n : Nat, Int.toNat ((n : Nat) : Int) = n from fun _ => rfl, beq_self_eq_true, Bool.and_self, Bool.and_true, ↓reduceIte, Bool.false_eq_true]
              exact go L (by assumption) (by assumption)
            · have t4 : slastB L = false := decide_eq_false hp
              have t5 : decide ((((List.length L) : Nat) : Int) > 0) = false := decide_eq_false (by omega)
              simp only [eT, e6, l11_1R, hj, e9, hF, ea, hG, n0, eb, ec, Option.isSome_some, Option.getD_some, n1, t1, t2, t3, t4, t5, Nat.zero_add, show ∀ n : Nat, Int.toNat ((n : Nat) : Int) = n from fun _ => rfl, beq_self_eq_true, ↓reduceIte, Bool.false_eq_true]
              exact go L (by assumption) (by assumption)
        · have d1 : (q.1 == (1)) = false := by simp [k1]
          simp only [d1, ↓reduceIte, Bool.false_eq_true]
          by_cases k2 : q.1 = 2
          · have d2 : (q.1 == (2)) = true := by simp [k2]
            simp only [d2, ↓reduceIte]
            obtain ⟨e, hc, he⟩ := play2 m x0 L (k : Nat) L q (by omega) (m + 24) 0 (by omega) (by omega)
            rw [Nat.zero_add, List.drop_zero, Int.natCast_zero] at hc
            have hle : cutN L q.2.1 ≤ L.length := upto_le _ _
            generalize cutN L q.2.1 = c at *
            have n0 : (((c : Nat) : Int) != ((c : Nat) : Int)) = false := by simp
            have e4 : (decide (0 ≤ ((c : Nat) : Int)) && decide (((c : Nat) : Int) ≤ (((List.length L) : Nat) : Int))) = true := by simp; omega
            have hD : List.drop (Int.toNat ((c : Nat) : Int)) (List.take (List.length L) L) = L.drop c := by rw [Int.toNat_natCast, List.take_length]
            have hK : (L.drop c).length ≤ 200 := by rw [List.length_drop]; omega
            have hRK : Rises (L.drop c) := hr.sublist (List.drop_sublist _ _)
            simp only [l11_2R, hc, Option.isSome_some, Option.getD_some, hL1, n0, e4, hD, ↓reduceIte, Bool.false_eq_true]
            generalize L.drop c = K at *
            rcases he with rfl | rfl
            · have z0 : ((0 : Nat) == 0) = true := rfl
              have t1 : decide (List.length K ≤ 1000000) = true := decide_eq_true (by omega)
              have t2 : decide (List.length K < 4611686018427387904) = true := decide_eq_true (by omega)
              have t3 : ((K : SL) == K) = true := beq_self_eq_true _
              by_cases hp : 0 < List.length K
              · have t4 : slastB K = true := decide_eq_true hp
                have t5 : decide ((((List.length K) : Nat) : Int) > 0) = true := decide_eq_true (by omega)
                have t6 : IntKind.wrap .i64 ((((List.length K) : Nat) : Int) - (1)) = ((List.length K - 1 : Nat) : Int) := by rw [wrap_id (by omega) (by omega)]; omega
                have t7 : decide ((0 : Int) ≤ ((List.length K - 1 : Nat) : Int)) = true := decide_eq_true (by omega)
                have t8 : decide (((List.length K - 1 : Nat) : Int) < (((List.length K) : Nat) : Int)) = true := decide_eq_true (by omega)
                have t9 : decide ((List.length K - 1) < (List.length K)) = true := decide_eq_true (by omega)
                have tv : slastV K = List.getD K (List.length K - 1) (0, 0) := if_pos hp
                simp only [z0, t1, t2, t3, t4, t5, t6, t7, t8, t9, tv, Nat.zero_add, show ∀ n : Nat, Int.toNat ((n : Nat) : Int) = n from fun _ => rfl, beq_self_eq_true, Bool.and_self, Bool.and_true, ↓reduceIte, Bool.false_eq_true]
                exact go K (by assumption) (by assumption)
              · have t4 : slastB K = false := decide_eq_false hp
                have t5 : decide ((((List.length K) : Nat) : Int) > 0) = false := decide_eq_false (by omega)
                simp only [z0, t1, t2, t3, t4, t5, Nat.zero_add, show ∀ n : Nat, Int.toNat ((n : Nat) : Int) = n from fun _ => rfl, beq_self_eq_true, ↓reduceIte, Bool.false_eq_true]
                exact go K (by assumption) (by assumption)
            · have z0 : ((1 : Nat) == 0) = false := rfl
              have z1 : ((1 : Nat) == 1) = true := rfl
              have t1 : decide (List.length K ≤ 1000000) = true := decide_eq_true (by omega)
              have t2 : decide (List.length K < 4611686018427387904) = true := decide_eq_true (by omega)
              have t3 : ((K : SL) == K) = true := beq_self_eq_true _
              by_cases hp : 0 < List.length K
              · have t4 : slastB K = true := decide_eq_true hp
                have t5 : decide ((((List.length K) : Nat) : Int) > 0) = true := decide_eq_true (by omega)
                have t6 : IntKind.wrap .i64 ((((List.length K) : Nat) : Int) - (1)) = ((List.length K - 1 : Nat) : Int) := by rw [wrap_id (by omega) (by omega)]; omega
                have t7 : decide ((0 : Int) ≤ ((List.length K - 1 : Nat) : Int)) = true := decide_eq_true (by omega)
                have t8 : decide (((List.length K - 1 : Nat) : Int) < (((List.length K) : Nat) : Int)) = true := decide_eq_true (by omega)
                have t9 : decide ((List.length K - 1) < (List.length K)) = true := decide_eq_true (by omega)
                have tv : slastV K = List.getD K (List.length K - 1) (0, 0) := if_pos hp
                simp only [z0, z1, t1, t2, t3, t4, t5, t6, t7, t8, t9, tv, Nat.zero_add, show ∀ n : Nat, Int.toNat ((n : Nat) : Int) = n from fun _ => rfl, beq_self_eq_true, Bool.and_self, Bool.and_true, ↓reduceIte, Bool.false_eq_true]
                exact go K (by assumption) (by assumption)
              · have t4 : slastB K = false := decide_eq_false hp
                have t5 : decide ((((List.length K) : Nat) : Int) > 0) = false := decide_eq_false (by omega)
                simp only [z0, z1, t1, t2, t3, t4, t5, Nat.zero_add, show ∀ n : Nat, Int.toNat ((n : Nat) : Int) = n from fun _ => rfl, beq_self_eq_true, ↓reduceIte, Bool.false_eq_true]
                exact go K (by assumption) (by assumption)
          · have d2 : (q.1 == (2)) = false := by simp [k2]
            simp only [d2, ↓reduceIte, Bool.false_eq_true]
            by_cases k3 : q.1 = 3
            · have d3 : (q.1 == (3)) = true := by simp [k3]
              simp only [d3, ↓reduceIte]
              have a1 : -9 ≤ withinI q.2.1 (-9) (500) ∧ withinI q.2.1 (-9) (500) ≤ 500 := by
                have y1 := Int.emod_nonneg q.2.1 (b := 510) (by omega)
                have y2 := Int.emod_lt_of_pos q.2.1 (b := 510) (by omega)
                unfold withinI
                rw [show (500 : Int) - -9 + 1 = 510 from rfl]
                omega
              have a2 : -3 ≤ withinI q.2.2.1 (-3) (90) ∧ withinI q.2.2.1 (-3) (90) ≤ 90 := by
                have y1 := Int.emod_nonneg q.2.2.1 (b := 94) (by omega)
                have y2 := Int.emod_lt_of_pos q.2.2.1 (b := 94) (by omega)
                unfold withinI
                rw [show (90 : Int) - -3 + 1 = 94 from rfl]
                omega
              generalize withinI q.2.1 (-9) (500) = t at *
              generalize withinI q.2.2.1 (-3) (90) = look at *
              have e4 : atPre L t look = true := decide_eq_true (by omega)
              obtain ⟨r1, r2⟩ := refAt_eq L t look hr (wrap_id (by omega) (by omega))
              have z0 : (refAtG L t look).2 = atB L t look := r1
              by_cases hB : atB L t look = true
              · have hV := r2 hB
                have n0 : (atV L t look != atV L t look) = false := by simp
                have t1 : decide (List.length L ≤ 1000000) = true := decide_eq_true (by omega)
                have t2 : decide (List.length L < 4611686018427387904) = true := decide_eq_true (by omega)
                have t3 : ((L : SL) == L) = true := beq_self_eq_true _
                by_cases hp : 0 < List.length L
                · have t4 : slastB L = true := decide_eq_true hp
                  have t5 : decide ((((List.length L) : Nat) : Int) > 0) = true := decide_eq_true (by omega)
                  have t6 : IntKind.wrap .i64 ((((List.length L) : Nat) : Int) - (1)) = ((List.length L - 1 : Nat) : Int) := by rw [wrap_id (by omega) (by omega)]; omega
                  have t7 : decide ((0 : Int) ≤ ((List.length L - 1 : Nat) : Int)) = true := decide_eq_true (by omega)
                  have t8 : decide (((List.length L - 1 : Nat) : Int) < (((List.length L) : Nat) : Int)) = true := decide_eq_true (by omega)
                  have t9 : decide ((List.length L - 1) < (List.length L)) = true := decide_eq_true (by omega)
                  have tv : slastV L = List.getD L (List.length L - 1) (0, 0) := if_pos hp
                  simp only [e4, hL1, z0, hB, hV, n0, t1, t2, t3, t4, t5, t6, t7, t8, t9, tv, Nat.zero_add, show ∀ n : Nat, Int.toNat ((n : Nat) : Int) = n from fun _ => rfl, beq_self_eq_true, Bool.and_self, Bool.and_true, ↓reduceIte, Bool.false_eq_true]
                  exact go L hr hl
                · have t4 : slastB L = false := decide_eq_false hp
                  have t5 : decide ((((List.length L) : Nat) : Int) > 0) = false := decide_eq_false (by omega)
                  simp only [e4, hL1, z0, hB, hV, n0, t1, t2, t3, t4, t5, Nat.zero_add, show ∀ n : Nat, Int.toNat ((n : Nat) : Int) = n from fun _ => rfl, beq_self_eq_true, ↓reduceIte, Bool.false_eq_true]
                  exact go L hr hl
              · have hB : atB L t look = false := by simpa using hB
                have hV : atV L t look = 0 := by unfold atV; rw [hB]; rfl
                have n0 : ((0 : Int) != (0)) = false := rfl
                have t1 : decide (List.length L ≤ 1000000) = true := decide_eq_true (by omega)
                have t2 : decide (List.length L < 4611686018427387904) = true := decide_eq_true (by omega)
                have t3 : ((L : SL) == L) = true := beq_self_eq_true _
                by_cases hp : 0 < List.length L
                · have t4 : slastB L = true := decide_eq_true hp
                  have t5 : decide ((((List.length L) : Nat) : Int) > 0) = true := decide_eq_true (by omega)
                  have t6 : IntKind.wrap .i64 ((((List.length L) : Nat) : Int) - (1)) = ((List.length L - 1 : Nat) : Int) := by rw [wrap_id (by omega) (by omega)]; omega
                  have t7 : decide ((0 : Int) ≤ ((List.length L - 1 : Nat) : Int)) = true := decide_eq_true (by omega)
                  have t8 : decide (((List.length L - 1 : Nat) : Int) < (((List.length L) : Nat) : Int)) = true := decide_eq_true (by omega)
                  have t9 : decide ((List.length L - 1) < (List.length L)) = true := decide_eq_true (by omega)
                  have tv : slastV L = List.getD L (List.length L - 1) (0, 0) := if_pos hp
                  simp only [e4, hL1, z0, hB, hV, n0, t1, t2, t3, t4, t5, t6, t7, t8, t9, tv, Nat.zero_add, show ∀ n : Nat, Int.toNat ((n : Nat) : Int) = n from fun _ => rfl, beq_self_eq_true, Bool.and_self, Bool.and_true, ↓reduceIte, Bool.false_eq_true]
                  exact go L hr hl
                · have t4 : slastB L = false := decide_eq_false hp
                  have t5 : decide ((((List.length L) : Nat) : Int) > 0) = false := decide_eq_false (by omega)
                  simp only [e4, hL1, z0, hB, hV, n0, t1, t2, t3, t4, t5, Nat.zero_add, show ∀ n : Nat, Int.toNat ((n : Nat) : Int) = n from fun _ => rfl, beq_self_eq_true, ↓reduceIte, Bool.false_eq_true]
                  exact go L hr hl
            · have d3 : (q.1 == (3)) = false := by simp [k3]
              simp only [d3, ↓reduceIte, Bool.false_eq_true]
              by_cases k4 : q.1 = 4
              · have d4 : (q.1 == (4)) = true := by simp [k4]
                simp only [d4, ↓reduceIte]
                obtain ⟨s, hs⟩ := play3 m x0 L (k : Nat) L q (by omega) (m + 24) 0 [] (by omega) (by simp) (by omega)
                rw [List.nil_append, List.drop_zero, Int.natCast_zero] at hs
                have hb : (betG L q.2.1 q.2.2.1).length ≤ L.length := List.length_filter_le _ _
                generalize betG L q.2.1 q.2.2.1 = W at *
                have e4 : decide (List.length W < 4611686018427387904) = true := decide_eq_true (by omega)
                have e5 : List.take (List.length W) (List.drop 0 W) = W := by rw [List.drop_zero, List.take_length]
                have e6 : (W == W) = true := beq_self_eq_true _
                have t1 : decide (List.length L ≤ 1000000) = true := decide_eq_true (by omega)
                have t2 : decide (List.length L < 4611686018427387904) = true := decide_eq_true (by omega)
                have t3 : ((L : SL) == L) = true := beq_self_eq_true _
                by_cases hp : 0 < List.length L
                · have t4 : slastB L = true := decide_eq_true hp
                  have t5 : decide ((((List.length L) : Nat) : Int) > 0) = true := decide_eq_true (by omega)
                  have t6 : IntKind.wrap .i64 ((((List.length L) : Nat) : Int) - (1)) = ((List.length L - 1 : Nat) : Int) := by rw [wrap_id (by omega) (by omega)]; omega
                  have t7 : decide ((0 : Int) ≤ ((List.length L - 1 : Nat) : Int)) = true := decide_eq_true (by omega)
                  have t8 : decide (((List.length L - 1 : Nat) : Int) < (((List.length L) : Nat) : Int)) = true := decide_eq_true (by omega)
                  have t9 : decide ((List.length L - 1) < (List.length L)) = true := decide_eq_true (by omega)
                  have tv : slastV L = List.getD L (List.length L - 1) (0, 0) := if_pos hp
                  simp only [l11_3R, hs, Option.isSome_some, Option.getD_some, hL1, e4, e5, e6, t1, t2, t3, t4, t5, t6, t7, t8, t9, tv, Nat.zero_add, show ∀ n : Nat, Int.toNat ((n : Nat) : Int) = n from fun _ => rfl, beq_self_eq_true, Bool.and_self, Bool.and_true, ↓reduceIte, Bool.false_eq_true]
                  exact go L hr hl
                · have t4 : slastB L = false := decide_eq_false hp
                  have t5 : decide ((((List.length L) : Nat) : Int) > 0) = false := decide_eq_false (by omega)
                  simp only [l11_3R, hs, Option.isSome_some, Option.getD_some, hL1, e4, e5, e6, t1, t2, t3, t4, t5, Nat.zero_add, show ∀ n : Nat, Int.toNat ((n : Nat) : Int) = n from fun _ => rfl, beq_self_eq_true, ↓reduceIte, Bool.false_eq_true]
                  exact go L hr hl
              · have d4 : (q.1 == (4)) = false := by simp [k4]
                simp only [d4, ↓reduceIte, Bool.false_eq_true]
                have t1 : decide (List.length L ≤ 1000000) = true := decide_eq_true (by omega)
                have t2 : decide (List.length L < 4611686018427387904) = true := decide_eq_true (by omega)
                have t3 : ((L : SL) == L) = true := beq_self_eq_true _
                by_cases hp : 0 < List.length L
                · have t4 : slastB L = true := decide_eq_true hp
                  have t5 : decide ((((List.length L) : Nat) : Int) > 0) = true := decide_eq_true (by omega)
                  have t6 : IntKind.wrap .i64 ((((List.length L) : Nat) : Int) - (1)) = ((List.length L - 1 : Nat) : Int) := by rw [wrap_id (by omega) (by omega)]; omega
                  have t7 : decide ((0 : Int) ≤ ((List.length L - 1 : Nat) : Int)) = true := decide_eq_true (by omega)
                  have t8 : decide (((List.length L - 1 : Nat) : Int) < (((List.length L) : Nat) : Int)) = true := decide_eq_true (by omega)
                  have t9 : decide ((List.length L - 1) < (List.length L)) = true := decide_eq_true (by omega)
                  have tv : slastV L = List.getD L (List.length L - 1) (0, 0) := if_pos hp
                  simp only [t1, t2, t3, t4, t5, t6, t7, t8, t9, tv, Nat.zero_add, show ∀ n : Nat, Int.toNat ((n : Nat) : Int) = n from fun _ => rfl, beq_self_eq_true, Bool.and_self, Bool.and_true, ↓reduceIte, Bool.false_eq_true]
                  exact go L hr hl
                · have t4 : slastB L = false := decide_eq_false hp
                  have t5 : decide ((((List.length L) : Nat) : Int) > 0) = false := decide_eq_false (by omega)
                  simp only [t1, t2, t3, t4, t5, Nat.zero_add, show ∀ n : Nat, Int.toNat ((n : Nat) : Int) = n from fun _ => rfl, beq_self_eq_true, ↓reduceIte, Bool.false_eq_true]
                  exact go L hr hl
      · have e2 : decide (((k : Nat) : Int) < 30) = false := decide_eq_false (by omega)
        simp only [e1, e2, ↓reduceIte, Bool.false_eq_true]
        exact ⟨_, rfl, by simp⟩
    · have e1 : decide (((k : Nat) : Int) < (((List.length x0) : Nat) : Int)) = false := decide_eq_false (by omega)
      simp only [e1, ↓reduceIte, Bool.false_eq_true]
      exact ⟨_, rfl, by simp⟩
theorem plays_pure (x0 : List AskT) : ∃ m q, plays m x0 = some q := by
  refine ⟨1000, (), ?_⟩
  unfold plays
  obtain ⟨q, hq, he⟩ := plays_loop 1000 (by omega) x0 (1000 + 24) 0 [] (by omega) (by omega) List.Pairwise.nil (by simp)
  simp only [Int.natCast_zero] at hq
  simp only [l11_0R, hq, Option.isSome_some, Option.getD_some, ↓reduceIte]
  rcases he with he | he <;> simp [he]
theorem plays_law (x0 : List AskT) : ∃ g B', CallAt Try.prog 11 g ∧ (g [argAV false (.sl (.pair (.int .i64) (.pair (.int .i64) (.pair (.int .i64) (.sl (.pair (.int .i64) (.int .i64))))))) x0] []).run = some (.d (.bool true), B') := plays_at x0 (plays_pure x0)

end Go.Proofs.Ytkppbflmlpabjab.Dec
