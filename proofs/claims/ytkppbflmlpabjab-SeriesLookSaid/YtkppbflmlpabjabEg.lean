/- SeriesLook: its plain law. -/
import Derived.Test.YtkppbflmlpabjabEf
import Derived.Test.YtkppbflmlpabjabEvZn
import Derived.KernelRfl
namespace Go.Proofs.Ytkppbflmlpabjab.Dec
open Go.Ev
set_option linter.unusedVariables false
set_option linter.unusedSimpArgs false
set_option maxRecDepth 100000

/-- By rising times. -/
def Rises (l : SL) : Prop := l.Pairwise fun a b => a.1 < b.1
theorem upto_eq : ∀ (l : SL) (t : Int) (i : Nat), Rises l → i < l.length → (l.getD i (0, 0)).1 ≤ t → (i + 1 < l.length → t < (l.getD (i + 1) (0, 0)).1) → uptoG l t = i + 1
  | [], t, i, _, h, _, _ => by simp at h
  | a :: r, t, 0, hr, _, h1, h2 => by
    rw [upto_cons]
    have h1' : a.1 ≤ t := by simpa using h1
    rw [if_pos h1']
    cases r with
    | nil => rfl
    | cons b s =>
      have := h2 (by simp)
      have h3 : t < b.1 := by simpa using this
      rw [upto_cons, if_neg (by omega)]
  | a :: r, t, i + 1, hr, h, h1, h2 => by
    rw [upto_cons]
    have hp := List.pairwise_cons.1 hr
    have hi : i < r.length := by simpa using h
    have h1' : (r.getD i (0, 0)).1 ≤ t := by simpa using h1
    have hm := hp.1 _ (getD_mem r i (0, 0) hi)
    rw [if_pos (by omega), upto_eq r t i hp.2 hi h1' fun h3 => by simpa using h2 (by simpa using h3)]
theorem upto_last : ∀ (l : SL) (t : Int), uptoG l t ≠ 0 → (l.getD (uptoG l t - 1) (0, 0)).1 ≤ t
  | [], t, h => absurd rfl h
  | a :: r, t, h => by
    rw [upto_cons] at h ⊢
    by_cases ha : a.1 ≤ t
    · rw [if_pos ha]
      by_cases h0 : uptoG r t = 0
      · rw [h0]; simpa using ha
      · have := upto_last r t h0
        obtain ⟨k, hk⟩ : ∃ k, uptoG r t = k + 1 := ⟨uptoG r t - 1, by omega⟩
        rw [hk] at this ⊢
        simpa using this
    · rw [if_neg ha] at h; exact absurd rfl h
theorem sampGo_len : ∀ (ks : List Int) (t : Int), (sampGo t ks).length = ks.length
  | [], t => rfl
  | k :: ks, t => by simp [sampGo, sampGo_len ks]
theorem sampGo_above : ∀ (ks : List Int) (t : Int) x, x ∈ sampGo t ks → t < x.1 ∧ x.1 ≤ t + 12 * ks.length
  | [], t, x, h => by simp [sampGo] at h
  | k :: ks, t, x, h => by
    have hw := within_1_12 k
    rcases List.mem_cons.1 h with rfl | h
    · simp only [List.length_cons]; omega
    · have := sampGo_above ks _ x h
      simp only [List.length_cons]; omega
theorem sampGo_rises : ∀ (ks : List Int) (t : Int), Rises (sampGo t ks)
  | [], t => List.Pairwise.nil
  | k :: ks, t => List.pairwise_cons.2 ⟨fun x hx => (sampGo_above ks _ x hx).1, sampGo_rises ks _⟩
set_option maxHeartbeats 20000000 in
theorem samples_ok (ks : List Int) : Rises (samplesG ks) ∧ (samplesG ks).length ≤ 20 ∧ ∀ x ∈ samplesG ks, 1 ≤ x.1 ∧ x.1 ≤ 240 := by
  refine ⟨sampGo_rises _ _, by unfold samplesG; rw [sampGo_len, List.length_take]; omega, fun x hx => ?_⟩
  have := sampGo_above _ _ x hx
  rw [List.length_take] at this
  omega
set_option maxHeartbeats 20000000 in
theorem addR_ok : ∀ (xs out : SL), Rises (out ++ xs) → (out ++ xs).length ≤ 200 → (∀ x ∈ xs, 0 ≤ x.1 ∧ x.1 ≤ 1099511627776) → addR out xs = (0, out ++ xs)
  | [], out, _, _, _ => by simp [addR]
  | x :: xs, out, h1, h2, h3 => by
    have hx := h3 x (List.mem_cons_self ..)
    rw [addR, if_neg (by omega), if_neg (by omega)]
    have hno : ¬ (0 < out.length ∧ x.1 ≤ (out.getD (out.length - 1) (0, 0)).1) := by
      rintro ⟨h4, h5⟩
      have := (List.pairwise_append.1 h1).2.2 _ (getD_mem out (out.length - 1) (0, 0) (by omega)) x (List.mem_cons_self ..)
      omega
    rw [if_neg hno, if_neg (by simp at h2; omega)]
    have e : out ++ x :: xs = (out ++ [x]) ++ xs := by simp
    rw [e] at h1 h2 ⊢
    exact addR_ok xs (out ++ [x]) h1 h2 fun y hy => h3 y (List.mem_cons_of_mem _ hy)
set_option maxHeartbeats 20000000 in
theorem addG_ok {xs : SL} (h1 : Rises xs) (h2 : xs.length ≤ 200) (h3 : ∀ x ∈ xs, 0 ≤ x.1 ∧ x.1 ≤ 1099511627776) : addG [] xs = (0, xs) := by
  have := addR_ok xs [] (by simpa using h1) (by simpa using h2) h3
  unfold addG
  rw [this]
  simp
theorem atB_true {l : SL} {t look : Int} {i : Nat} (h : uptoG l t = i + 1) (h2 : t - look < (l.getD i (0, 0)).1) : atB l t look = true ∧ atV l t look = (l.getD i (0, 0)).2 := by
  have hb : atB l t look = true := by
    unfold atB
    rw [h]
    have d1 : decide (i + 1 = 0) = false := decide_eq_false (by omega)
    have d2 : decide ((l.getD (i + 1 - 1) (0, 0)).1 ≤ t - look) = false := decide_eq_false (by rw [Nat.add_sub_cancel]; omega)
    rw [d1, d2]
    rfl
  refine ⟨hb, ?_⟩
  unfold atV
  rw [if_pos hb, h]
  rfl
theorem atB_false {l : SL} {t look : Int} {i : Nat} (h : uptoG l t = i + 1) (h2 : (l.getD i (0, 0)).1 ≤ t - look) : atB l t look = false := by
  unfold atB
  rw [h]
  have d2 : decide ((l.getD (i + 1 - 1) (0, 0)).1 ≤ t - look) = true := decide_eq_true (by rw [Nat.add_sub_cancel]; omega)
  rw [d2]
  simp

theorem look_loop (m : Nat) (x2 x3 : Int) (L : SL) (k : Int) (hk1 : 1 ≤ k) (hk2 : k ≤ 40) (hr : Rises L) (hl : L.length ≤ 20) (hb : ∀ x ∈ L, 1 ≤ x.1 ∧ x.1 ≤ 240) :
    ∀ (n i : Nat), i ≤ L.length → L.length - i < n → ∃ j, l9_0 m n x2 x3 L k L (L.length : Nat) (i : Nat) L = some (0, j)
  | 0, i, _, h => by omega
  | n + 1, i, h1, h2 => by
    rw [l9_0]
    by_cases hi : i < L.length
    · obtain ⟨j, ih⟩ := look_loop m x2 x3 L k hk1 hk2 hr hl hb n (i + 1) (by omega) (by omega)
      have hx := hb _ (getD_mem L i (0, 0) hi)
      have e1 : decide (((i : Nat) : Int) < (((List.length L) : Nat) : Int)) = true := decide_eq_true (by omega)
      have e2 : decide ((0 : Int) ≤ ((i : Nat) : Int)) = true := decide_eq_true (by omega)
      have ei : IntKind.wrap .i64 (((i : Nat) : Int) + (1)) = ((i + 1 : Nat) : Int) := by rw [wrap_id (by omega) (by omega)]; rfl
      have e3 : decide ((0 : Int) ≤ ((i + 1 : Nat) : Int)) = true := decide_eq_true (by omega)
      have hnext : i + 1 < L.length → (L.getD i (0, 0)).1 < (L.getD (i + 1) (0, 0)).1 := by
        intro h
        rw [List.getD_eq_getElem?_getD, List.getD_eq_getElem?_getD, List.getElem?_eq_getElem hi, List.getElem?_eq_getElem h]
        exact List.pairwise_iff_getElem.1 hr i (i + 1) hi h (by omega)
      have pre : ∀ t : Int, -1000 ≤ t → t ≤ 1000 → atPre L t k = true := fun t h1 h2 => decide_eq_true (by omega)
      rw [ei]
      simp only [show Int.toNat ((i : Nat) : Int) = i from rfl, show Int.toNat ((i + 1 : Nat) : Int) = i + 1 from rfl, e1, e2, e3, ↓reduceIte]
      have hbn : i + 1 < L.length → 1 ≤ (L.getD (i + 1) (0, 0)).1 ∧ (L.getD (i + 1) (0, 0)).1 ≤ 240 := fun h => hb _ (getD_mem L (i + 1) (0, 0) h)
      generalize hgx : L.getD i (0, 0) = x at *
      have u0 : uptoG L x.1 = i + 1 := upto_eq L x.1 i hr hi (by rw [hgx]; omega) (fun h => hnext h)
      obtain ⟨a1, a2⟩ := atB_true (look := k) u0 (by rw [hgx]; omega)
      rw [hgx] at a2
      have w1 : IntKind.wrap .i64 (x.1 + k) = x.1 + k := wrap_id (by omega) (by omega)
      have w2 : IntKind.wrap .i64 (x.1 + k - (1)) = x.1 + k - 1 := wrap_id (by omega) (by omega)
      have n1 : (x.2 != x.2) = false := by simp
      simp only [pre x.1 (by omega) (by omega), pre (x.1 + k) (by omega) (by omega), a1, a2, w1, w2, n1, ↓reduceIte, Bool.false_eq_true]
      by_cases hn : i + 1 < L.length
      · have e4 : decide (((i + 1 : Nat) : Int) < (((List.length L) : Nat) : Int)) = true := decide_eq_true (by omega)
        have e5 : (((i + 1 : Nat) : Int) == (((List.length L) : Nat) : Int)) = false := by simp; omega
        have hnx := hnext hn
        have hby := hbn hn
        simp only [e4, e5, ↓reduceIte, Bool.false_eq_true]
        generalize hgy : L.getD (i + 1) (0, 0) = y at *
        have w3 : IntKind.wrap .i64 (y.1 - (1)) = y.1 - 1 := wrap_id (by omega) (by omega)
        simp only [w3, pre (y.1 - 1) (by omega) (by omega), pre (x.1 + k - 1) (by omega) (by omega), ↓reduceIte]
        by_cases hc : y.1 < x.1 + k
        · have u1 : uptoG L (y.1 - 1) = i + 1 := upto_eq L _ i hr hi (by rw [hgx]; omega) (fun h => by rw [hgy]; omega)
          obtain ⟨b1, b2⟩ := atB_true (look := k) u1 (by rw [hgx]; omega)
          rw [hgx] at b2
          have e6 : decide (y.1 < x.1 + k) = true := decide_eq_true hc
          have e7 : decide (y.1 > x.1 + k) = false := decide_eq_false (by omega)
          simp only [e6, e7, b1, b2, n1, ↓reduceIte, Bool.false_eq_true, ite_self]
          exact ⟨j, ih⟩
        · have e6 : decide (y.1 < x.1 + k) = false := decide_eq_false hc
          have u1 : uptoG L (x.1 + k - 1) = i + 1 := upto_eq L _ i hr hi (by rw [hgx]; omega) (fun h => by rw [hgy]; omega)
          obtain ⟨b1, b2⟩ := atB_true (look := k) u1 (by rw [hgx]; omega)
          rw [hgx] at b2
          simp only [e6, b1, b2, n1, ↓reduceIte, Bool.false_eq_true]
          by_cases hd : y.1 > x.1 + k
          · have u2 : uptoG L (x.1 + k) = i + 1 := upto_eq L _ i hr hi (by rw [hgx]; omega) (fun h => by rw [hgy]; omega)
            have c1 := atB_false (look := k) u2 (by rw [hgx]; omega)
            simp only [c1, ↓reduceIte, Bool.false_eq_true]
            exact ⟨j, ih⟩
          · have e7 : decide (y.1 > x.1 + k) = false := decide_eq_false hd
            simp only [e7, ↓reduceIte, Bool.false_eq_true, ite_self]
            exact ⟨j, ih⟩
      · have e4 : decide (((i + 1 : Nat) : Int) < (((List.length L) : Nat) : Int)) = false := decide_eq_false (by omega)
        have u1 : uptoG L (x.1 + k - 1) = i + 1 := upto_eq L _ i hr hi (by rw [hgx]; omega) (fun h => absurd h hn)
        obtain ⟨b1, b2⟩ := atB_true (look := k) u1 (by rw [hgx]; omega)
        rw [hgx] at b2
        have u2 : uptoG L (x.1 + k) = i + 1 := upto_eq L _ i hr hi (by rw [hgx]; omega) (fun h => absurd h hn)
        have c1 := atB_false (look := k) u2 (by rw [hgx]; omega)
        simp only [e4, pre (x.1 + k - 1) (by omega) (by omega), b1, b2, n1, c1, ↓reduceIte, Bool.false_eq_true]
        exact ⟨j, ih⟩
    · have e1 : decide (((i : Nat) : Int) < (((List.length L) : Nat) : Int)) = false := decide_eq_false (by omega)
      simp only [e1, ↓reduceIte, Bool.false_eq_true]
      exact ⟨_, rfl⟩

theorem look_pure (x0 : List Int) (x1 x2 x3 : Int) : ∃ m q, look m x0 x1 x2 x3 = some q := by
  obtain ⟨hr, hl, hb⟩ := samples_ok x0
  have ha := addG_ok hr (by omega) (fun x hx => by have := hb x hx; omega)
  have a1 : 1 ≤ withinI x1 1 40 ∧ withinI x1 1 40 ≤ 40 := by unfold withinI; omega
  have a2 : 0 ≤ withinI x2 0 50 ∧ withinI x2 0 50 ≤ 50 := by unfold withinI; omega
  have a3 : 0 ≤ withinI x3 0 300 ∧ withinI x3 0 300 ≤ 300 := by unfold withinI; omega
  refine ⟨0, (), ?_⟩
  obtain ⟨j, hj⟩ := look_loop 0 x2 x3 (samplesG x0) (withinI x1 1 40) a1.1 a1.2 hr hl hb 24 0 (by omega) (by omega)
  simp only [Int.natCast_zero] at hj
  unfold look
  generalize samplesG x0 = L at *
  generalize withinI x1 1 40 = k at *
  generalize withinI x2 0 50 = more at *
  generalize withinI x3 0 300 = t at *
  have e1 : decide (List.length ([] : List (Int × Int)) ≤ 200 ∧ List.length L < 4611686018427387904) = true := decide_eq_true ⟨by simp, by omega⟩
  have e2 : ((0 : Int) != (0)) = false := rfl
  have w1 : IntKind.wrap .i64 (k + more) = k + more := wrap_id (by omega) (by omega)
  have pre : ∀ d : Int, 0 ≤ d → d ≤ 1000 → atPre L t d = true := fun d h1 h2 => decide_eq_true (by omega)
  have none0 : atB L t 0 = false := by
    unfold atB
    by_cases h : uptoG L t = 0
    · simp [h]
    · have := upto_last L t h
      have d2 : decide ((L.getD (uptoG L t - 1) (0, 0)).1 ≤ t - 0) = true := decide_eq_true (by omega)
      rw [d2]
      simp
  have more1 : atB L t k = true → atB L t (k + more) = true ∧ atV L t k = atV L t (k + more) := by
    intro h
    have h' : atB L t (k + more) = true := by
      unfold atB at h ⊢
      simp at h ⊢
      exact ⟨h.1, by omega⟩
    refine ⟨h', ?_⟩
    unfold atV
    rw [if_pos h, if_pos h']
  simp only [e1, ha, e2, hj, w1, pre k (by omega) (by omega), pre (k + more) (by omega) (by omega), pre 0 (by omega) (by omega), none0, Option.isSome_some, Option.getD_some, ↓reduceIte, Bool.false_eq_true]
  by_cases h : atB L t k = true
  · obtain ⟨m1, m2⟩ := more1 h
    simp only [h, m1, m2, beq_self_eq_true, ↓reduceIte]
  · rw [if_neg h]
theorem look_law (x0 : List Int) (x1 x2 x3 : Int) : ∃ g B', CallAt Try.prog 9 g ∧ (g [argAV false (.sl (.int .i64)) x0, argAV false (.int .i64) x1, argAV false (.int .i64) x2, argAV false (.int .i64) x3] []).run = some (.d (.bool true), B') := look_at x0 x1 x2 x3 (look_pure x0 x1 x2 x3)

end Go.Proofs.Ytkppbflmlpabjab.Dec
