/- SeriesChanges: its plain law. -/
import Derived.Test.YtahdcmicifokgaaQC5
import Derived.KernelRfl
namespace Go.Proofs.Ytahdcmicifokgaa.Dec
open Go.Ev
set_option linter.unusedVariables false
set_option linter.unusedSimpArgs false
set_option maxRecDepth 100000

/-- By rising times. -/
def Rises (l : SL) : Prop := l.Pairwise fun a b => a.1 < b.1
theorem upto_eq : ∀ (l : SL) (t : Int) (i : Nat), Rises l → i < l.length → (l.getD i (0, 0)).1 ≤ t → (i + 1 < l.length → t < (l.getD (i + 1) (0, 0)).1) → uptoG l t = i + 1
  | [], t, i, _, h, _, _ => by simp at h
  | a :: r, t, 0, hr, _, h1, h2 => by
    rw [upto_cons]
    have h1' : a.1 ≤ t := by simpa using h1
    rw [if_pos h1']
    cases r with
    | nil => rfl
    | cons b s =>
      have := h2 (by simp)
      have h3 : t < b.1 := by simpa using this
      rw [upto_cons, if_neg (by omega)]
  | a :: r, t, i + 1, hr, h, h1, h2 => by
    rw [upto_cons]
    have hp := List.pairwise_cons.1 hr
    have hi : i < r.length := by simpa using h
    have h1' : (r.getD i (0, 0)).1 ≤ t := by simpa using h1
    have hm := hp.1 _ (getD_mem r i (0, 0) hi)
    rw [if_pos (by omega), upto_eq r t i hp.2 hi h1' fun h3 => by simpa using h2 (by simpa using h3)]
theorem upto_last : ∀ (l : SL) (t : Int), uptoG l t ≠ 0 → (l.getD (uptoG l t - 1) (0, 0)).1 ≤ t
  | [], t, h => absurd rfl h
  | a :: r, t, h => by
    rw [upto_cons] at h ⊢
    by_cases ha : a.1 ≤ t
    · rw [if_pos ha]
      by_cases h0 : uptoG r t = 0
      · rw [h0]; simpa using ha
      · have := upto_last r t h0
        obtain ⟨k, hk⟩ : ∃ k, uptoG r t = k + 1 := ⟨uptoG r t - 1, by omega⟩
        rw [hk] at this ⊢
        simpa using this
    · rw [if_neg ha] at h; exact absurd rfl h
theorem sampGo_len : ∀ (ks : List Int) (t : Int), (sampGo t ks).length = ks.length
  | [], t => rfl
  | k :: ks, t => by simp [sampGo, sampGo_len ks]
theorem sampGo_above : ∀ (ks : List Int) (t : Int) x, x ∈ sampGo t ks → t < x.1 ∧ x.1 ≤ t + 12 * ks.length
  | [], t, x, h => by simp [sampGo] at h
  | k :: ks, t, x, h => by
    have hw := within_1_12 k
    rcases List.mem_cons.1 h with rfl | h
    · simp only [List.length_cons]; omega
    · have := sampGo_above ks _ x h
      simp only [List.length_cons]; omega
theorem sampGo_rises : ∀ (ks : List Int) (t : Int), Rises (sampGo t ks)
  | [], t => List.Pairwise.nil
  | k :: ks, t => List.pairwise_cons.2 ⟨fun x hx => (sampGo_above ks _ x hx).1, sampGo_rises ks _⟩
set_option maxHeartbeats 20000000 in
theorem samples_ok (ks : List Int) : Rises (samplesG ks) ∧ (samplesG ks).length ≤ 20 ∧ ∀ x ∈ samplesG ks, 1 ≤ x.1 ∧ x.1 ≤ 240 := by
  refine ⟨sampGo_rises _ _, by unfold samplesG; rw [sampGo_len, List.length_take]; omega, fun x hx => ?_⟩
  have := sampGo_above _ _ x hx
  rw [List.length_take] at this
  omega
set_option maxHeartbeats 20000000 in
theorem addR_ok : ∀ (xs out : SL), Rises (out ++ xs) → (out ++ xs).length ≤ 200 → (∀ x ∈ xs, 0 ≤ x.1 ∧ x.1 ≤ 1099511627776) → addR out xs = (0, out ++ xs)
  | [], out, _, _, _ => by simp [addR]
  | x :: xs, out, h1, h2, h3 => by
    have hx := h3 x (List.mem_cons_self ..)
    rw [addR, if_neg (by omega), if_neg (by omega)]
    have hno : ¬ (0 < out.length ∧ x.1 ≤ (out.getD (out.length - 1) (0, 0)).1) := by
      rintro ⟨h4, h5⟩
      have := (List.pairwise_append.1 h1).2.2 _ (getD_mem out (out.length - 1) (0, 0) (by omega)) x (List.mem_cons_self ..)
      omega
    rw [if_neg hno, if_neg (by simp at h2; omega)]
    have e : out ++ x :: xs = (out ++ [x]) ++ xs := by simp
    rw [e] at h1 h2 ⊢
    exact addR_ok xs (out ++ [x]) h1 h2 fun y hy => h3 y (List.mem_cons_of_mem _ hy)
set_option maxHeartbeats 20000000 in
theorem addG_ok {xs : SL} (h1 : Rises xs) (h2 : xs.length ≤ 200) (h3 : ∀ x ∈ xs, 0 ≤ x.1 ∧ x.1 ≤ 1099511627776) : addG [] xs = (0, xs) := by
  have := addR_ok xs [] (by simpa using h1) (by simpa using h2) h3
  unfold addG
  rw [this]
  simp
theorem atB_true {l : SL} {t look : Int} {i : Nat} (h : uptoG l t = i + 1) (h2 : t - look < (l.getD i (0, 0)).1) : atB l t look = true ∧ atV l t look = (l.getD i (0, 0)).2 := by
  have hb : atB l t look = true := by
    unfold atB
    rw [h]
    have d1 : decide (i + 1 = 0) = false := decide_eq_false (by omega)
    have d2 : decide ((l.getD (i + 1 - 1) (0, 0)).1 ≤ t - look) = false := decide_eq_false (by rw [Nat.add_sub_cancel]; omega)
    rw [d1, d2]
    rfl
  refine ⟨hb, ?_⟩
  unfold atV
  rw [if_pos hb, h]
  rfl
theorem atB_false {l : SL} {t look : Int} {i : Nat} (h : uptoG l t = i + 1) (h2 : (l.getD i (0, 0)).1 ≤ t - look) : atB l t look = false := by
  unfold atB
  rw [h]
  have d2 : decide ((l.getD (i + 1 - 1) (0, 0)).1 ≤ t - look) = true := decide_eq_true (by rw [Nat.add_sub_cancel]; omega)
  rw [d2]
  simp

theorem keyI (x y : Int) : keyEq (.int .i64) x y = (x == y) := rfl
theorem hasKey_cons (x : Int) (l : List Int) (t : Int) : hasKey (.int .i64) (x :: l) t = ((t == x) || hasKey (.int .i64) l t) := rfl
theorem hasKey_iff : ∀ (l : List Int) (t : Int), hasKey (.int .i64) l t = true ↔ t ∈ l
  | [], t => by
    constructor
    · intro h; exact absurd h (by simp [hasKey])
    · intro h; simp at h
  | x :: l, t => by rw [hasKey_cons, Bool.or_eq_true, beq_iff_eq, hasKey_iff l t, List.mem_cons]
theorem addKey_mem (l : List Int) (x t : Int) : t ∈ (show List Int from addKey (.int .i64) l x) ↔ t ∈ l ∨ t = x := by
  unfold addKey
  by_cases h : hasKey (.int .i64) l x = true
  · rw [if_pos h]
    constructor
    · exact .inl
    · rintro (h2 | rfl)
      · exact h2
      · exact (hasKey_iff l t).1 h
  · rw [if_neg h]
    show t ∈ l ++ [x] ↔ _
    rw [List.mem_append, List.mem_singleton]
theorem put_loop (m : Nat) (X : SL) (K A B : Int) (c : List Int) (b0 : SL) (hs : c.Pairwise (· < ·)) (hr : ∀ t ∈ c, A ≤ t ∧ t ≤ B) (hl : c.length ≤ 1000000) : ∀ (n i : Nat) (b1 : List Int), i ≤ c.length → c.length - i < n →
    ∃ j b, l3_0 m n X K A B c c ((c.length : Nat) : Int) (i : Nat) b0 b1 = some (0, j, b) ∧ ∀ t, t ∈ b ↔ t ∈ b1 ∨ t ∈ c.drop i
  | 0, i, b1, _, h => by omega
  | n + 1, i, b1, h1, h2 => by
    rw [l3_0]
    by_cases hi : i < c.length
    · have e1 : decide (((i : Nat) : Int) < (((List.length c) : Nat) : Int)) = true := decide_eq_true (by omega)
      have e2 : decide ((0 : Int) ≤ ((i : Nat) : Int)) = true := decide_eq_true (by omega)
      have e7 : IntKind.wrap .i64 (((i : Nat) : Int) + (1)) = ((i + 1 : Nat) : Int) := by rw [wrap_id (by omega) (by omega)]; rfl
      have hm := hr _ (getD_mem c i 0 hi)
      have hd := drop_getD c i 0 hi
      have fin : ∃ j b, l3_0 m n X K A B c c ((c.length : Nat) : Int) ((i + 1 : Nat) : Int) b0 (addKey (.int .i64) b1 (c.getD i 0)) = some (0, j, b) ∧ ∀ t, t ∈ b ↔ t ∈ b1 ∨ t ∈ c.drop i := by
        obtain ⟨j, b, q1, q2⟩ := put_loop m X K A B c b0 hs hr hl n (i + 1) (addKey (.int .i64) b1 (c.getD i 0)) (by omega) (by omega)
        refine ⟨j, b, q1, fun t => ?_⟩
        rw [q2 t, hd, List.mem_cons]
        have := addKey_mem b1 (c.getD i 0) t
        constructor
        · rintro (h | h)
          · rcases this.1 h with h | h
            · exact .inl h
            · exact .inr (.inl h)
          · exact .inr (.inr h)
        · rintro (h | h | h)
          · exact .inl (this.2 (.inl h))
          · exact .inl (this.2 (.inr h))
          · exact .inr h
      rw [Int.toNat_natCast, e7, if_pos e1, if_pos e2, if_pos e1, if_neg (by intro h; have := of_decide_eq_true h; omega), if_neg (by intro h; have := of_decide_eq_true h; omega)]
      by_cases h0 : 0 < i
      · have f1 : decide (((i : Nat) : Int) > 0) = true := decide_eq_true (by omega)
        have f2 : IntKind.wrap .i64 (((i : Nat) : Int) - (1)) = ((i - 1 : Nat) : Int) := by rw [wrap_id (by omega) (by omega)]; omega
        have f3 : decide ((0 : Int) ≤ ((i - 1 : Nat) : Int)) = true := decide_eq_true (by omega)
        have f4 : decide (((i - 1 : Nat) : Int) < (((List.length c) : Nat) : Int)) = true := decide_eq_true (by omega)
        rw [f2, Int.toNat_natCast, if_pos f1, if_pos f3, if_pos f4]
        have hlt : c.getD (i - 1) 0 < c.getD i 0 := by
          have := List.pairwise_iff_getElem.1 hs (i - 1) i (by omega) hi (by omega)
          simpa [List.getD_eq_getElem?_getD, List.getElem?_eq_getElem hi, List.getElem?_eq_getElem (show i - 1 < c.length by omega)] using this
        rw [if_neg (by intro h; have := of_decide_eq_true h; omega)]
        exact fin
      · rw [if_neg (by intro h; have := of_decide_eq_true h; omega)]
        exact fin
    · have e1 : decide (((i : Nat) : Int) < (((List.length c) : Nat) : Int)) = false := decide_eq_false (by omega)
      rw [List.drop_eq_nil_of_le (by omega), e1]
      exact ⟨(i : Nat), b1, by simp, fun t => by simp⟩
/-- Is it a sample's time; is it a sample's end. -/
def atS (l : SL) (t : Int) : Bool := l.any fun x => x.1 == t
def atE : SL → Int → Int → Bool
  | [], _, _ => false
  | x :: r, k, t => (x.1 + k == t && (decide (r = []) || decide ((r.getD 0 (0, 0)).1 > t))) || atE r k t
theorem seek_loop (m : Nat) (X : SL) (K B t : Int) (b0 : SL) (b1 : List Int) (hl : X.length ≤ 1000000) (hx : ∀ x ∈ X, 0 ≤ x.1 ∧ x.1 ≤ 1099511627776) (k0 : 0 ≤ K) (k1 : K ≤ 1099511627776) : ∀ (n i : Nat) (p q : Bool), i ≤ X.length → X.length - i < n →
    ∃ j, l3_2 m n X K B t b0 b1 p q ((X.length : Nat) : Int) (i : Nat) = some (0, p || atS (X.drop i) t, q || atE (X.drop i) K t, j)
  | 0, i, p, q, _, h => by omega
  | n + 1, i, p, q, h1, h2 => by
    rw [l3_2]
    by_cases hi : i < X.length
    · have e1 : decide (((i : Nat) : Int) < (((List.length X) : Nat) : Int)) = true := decide_eq_true (by omega)
      have e2 : decide ((0 : Int) ≤ ((i : Nat) : Int)) = true := decide_eq_true (by omega)
      have e7 : IntKind.wrap .i64 (((i : Nat) : Int) + (1)) = ((i + 1 : Nat) : Int) := by rw [wrap_id (by omega) (by omega)]; rfl
      have hm := hx _ (getD_mem X i (0, 0) hi)
      have e8 : IntKind.wrap .i64 ((X.getD i (0, 0)).1 + K) = (X.getD i (0, 0)).1 + K := wrap_id (by omega) (by omega)
      have hh : (X.drop (i + 1)).getD 0 (0, 0) = X.getD (i + 1) (0, 0) := by simp [List.getD_eq_getElem?_getD]
      have hN : ((((i + 1 : Nat) : Int) == (((List.length X) : Nat) : Int)) = true ∧ X.drop (i + 1) = []) ∨ ((((i + 1 : Nat) : Int) == (((List.length X) : Nat) : Int)) = false ∧ X.drop (i + 1) ≠ [] ∧ decide (((i + 1 : Nat) : Int) < (((List.length X) : Nat) : Int)) = true) := by
        by_cases hn : i + 1 = X.length
        · exact .inl ⟨by simp; omega, List.drop_eq_nil_of_le (by omega)⟩
        · refine .inr ⟨by simp; omega, fun h => ?_, decide_eq_true (by omega)⟩
          have := congrArg List.length h
          simp at this
          omega
      have f2 : decide ((0 : Int) ≤ ((i + 1 : Nat) : Int)) = true := decide_eq_true (by omega)
      have ih := fun p q => seek_loop m X K B t b0 b1 hl hx k0 k1 n (i + 1) p q (by omega) (by omega)
      rw [drop_getD X i (0, 0) hi, Int.toNat_natCast, e7, Int.toNat_natCast, e8, if_pos e1, if_pos e2, if_pos e1, if_pos f2]
      have hS : atS (X.getD i (0, 0) :: X.drop (i + 1)) t = (((X.getD i (0, 0)).1 == t) || atS (X.drop (i + 1)) t) := rfl
      have hE : atE (X.getD i (0, 0) :: X.drop (i + 1)) K t = ((((X.getD i (0, 0)).1 + K == t) && (decide (X.drop (i + 1) = []) || decide ((X.getD (i + 1) (0, 0)).1 > t))) || atE (X.drop (i + 1)) K t) := by rw [atE, hh]
      rw [hS, hE]
      generalize ((X.getD i (0, 0)).1 == t) = u
      generalize ((X.getD i (0, 0)).1 + K == t) = v
      have goal : ∀ P Q P' Q' : Bool, P' = (P || atS (X.drop (i + 1)) t) → Q' = (Q || atE (X.drop (i + 1)) K t) → ∃ j, l3_2 m n X K B t b0 b1 P Q ((X.length : Nat) : Int) ((i + 1 : Nat) : Int) = some (0, P', Q', j) := fun P Q P' Q' g1 g2 => by
        obtain ⟨j, hj⟩ := ih P Q
        exact ⟨j, by rw [hj, g1, g2]⟩
      rcases hN with ⟨a1, a2⟩ | ⟨a1, a2, a3⟩
      · have d1 : decide (X.drop (i + 1) = []) = true := decide_eq_true a2
        rw [a1, d1]
        cases p <;> cases q <;> cases v <;> simp only [Bool.false_eq_true, ↓reduceIte] <;> apply goal <;> simp
      · have d1 : decide (X.drop (i + 1) = []) = false := decide_eq_false a2
        rw [a1, d1, if_pos a3]
        generalize decide ((X.getD (i + 1) (0, 0)).1 > t) = w
        cases p <;> cases q <;> cases v <;> cases w <;> simp only [f2, a3, Bool.false_eq_true, ↓reduceIte] <;> apply goal <;> simp
    · have e1 : decide (((i : Nat) : Int) < (((List.length X) : Nat) : Int)) = false := decide_eq_false (by omega)
      rw [List.drop_eq_nil_of_le (by omega), e1]
      exact ⟨(i : Nat), by simp [atS, atE]⟩
theorem mem_chgAll : ∀ (l : SL) (k t : Int), t ∈ chgAll l k ↔ (atS l t || atE l k t) = true
  | [], k, t => by simp [chgAll, atS, atE]
  | x :: r, k, t => by
    have ih := mem_chgAll r k t
    have hS : atS (x :: r) t = ((x.1 == t) || atS r t) := rfl
    rw [chgAll, hS, atE, List.mem_cons, List.mem_append, ih]
    have h3 : t ∈ (if r = [] ∨ (r.getD 0 (0, 0)).1 > x.1 + k then [x.1 + k] else []) ↔ (x.1 + k == t && (decide (r = []) || decide ((r.getD 0 (0, 0)).1 > t))) = true := by
      simp only [Bool.and_eq_true, beq_iff_eq, Bool.or_eq_true, decide_eq_true_eq]
      split
      · rename_i h
        rw [List.mem_singleton]
        constructor
        · rintro rfl; exact ⟨rfl, h⟩
        · rintro ⟨h, _⟩; exact h.symm
      · rename_i h
        constructor
        · intro h2; simp at h2
        · rintro ⟨rfl, h2⟩; exact absurd h2 h
    rw [h3]
    simp only [Bool.or_eq_true, beq_iff_eq]
    constructor
    · rintro (h | h | h | h)
      · exact .inl (.inl h.symm)
      · exact .inr (.inl h)
      · exact .inl (.inr h)
      · exact .inr (.inr h)
    · rintro ((h | h) | h | h)
      · exact .inl h.symm
      · exact .inr (.inr (.inl h))
      · exact .inr (.inl h)
      · exact .inr (.inr (.inr h))
theorem chgAll_above : ∀ (l : SL) (k s : Int), 0 ≤ k → (∀ x ∈ l, s < x.1) → ∀ t ∈ chgAll l k, s < t
  | [], k, s, _, _, t, h => by simp [chgAll] at h
  | x :: r, k, s, hk, h, t, ht => by
    have hx := h x (List.mem_cons_self ..)
    rw [chgAll, List.mem_cons, List.mem_append] at ht
    rcases ht with rfl | ht | ht
    · exact hx
    · split at ht
      · rw [List.mem_singleton] at ht; omega
      · simp at ht
    · exact chgAll_above r k s hk (fun y hy => h y (List.mem_cons_of_mem _ hy)) t ht
theorem chgAll_rises : ∀ (l : SL) (k : Int), 1 ≤ k → Rises l → (chgAll l k).Pairwise (· < ·)
  | [], k, _, _ => List.Pairwise.nil
  | x :: r, k, hk, h => by
    have hp := List.pairwise_cons.1 h
    have ih := chgAll_rises r k hk hp.2
    rw [chgAll]
    split
    · rename_i hc
      have hab : ∀ y ∈ r, x.1 + k < y.1 := by
        cases r with
        | nil => intro y hy; simp at hy
        | cons z s =>
          rcases hc with hc | hc
          · cases hc
          · have hz : x.1 + k < z.1 := by simpa using hc
            intro y hy
            rcases List.mem_cons.1 hy with rfl | hy
            · exact hz
            · have := (List.pairwise_cons.1 hp.2).1 y hy
              omega
      have h1 := chgAll_above r k (x.1 + k) (by omega) hab
      refine List.pairwise_cons.2 ⟨fun y hy => ?_, List.pairwise_cons.2 ⟨h1, ih⟩⟩
      rcases List.mem_cons.1 hy with rfl | hy
      · omega
      · have := h1 y hy
        omega
    · exact List.pairwise_cons.2 ⟨chgAll_above r k x.1 (by omega) hp.1, ih⟩
theorem upto_stop : ∀ (l : SL) (t : Int), uptoG l t < l.length → t < (l.getD (uptoG l t) (0, 0)).1
  | [], t, h => by simp at h
  | a :: r, t, h => by
    rw [upto_cons] at h ⊢
    by_cases ha : a.1 ≤ t
    · rw [if_pos ha] at h ⊢
      have := upto_stop r t (by simpa using h)
      simpa using this
    · rw [if_neg ha]; simpa using ha
theorem upto_prev : ∀ (l : SL) (t : Int), atS l t = false → uptoG l (t - 1) = uptoG l t
  | [], t, _ => rfl
  | a :: r, t, h => by
    have hS : atS (a :: r) t = ((a.1 == t) || atS r t) := rfl
    rw [hS, Bool.or_eq_false_iff] at h
    have hne : a.1 ≠ t := by simpa using h.1
    rw [upto_cons, upto_cons, upto_prev r t h.2]
    by_cases ha : a.1 ≤ t
    · rw [if_pos ha, if_pos (by omega)]
    · rw [if_neg ha, if_neg (by omega)]
theorem atE_of : ∀ (l : SL) (k t : Int) (i : Nat), i < l.length → (l.getD i (0, 0)).1 + k = t → (i + 1 < l.length → t < (l.getD (i + 1) (0, 0)).1) → atE l k t = true
  | [], k, t, i, h, _, _ => by simp at h
  | x :: r, k, t, 0, h, h1, h2 => by
    rw [atE]
    have h1' : x.1 + k = t := by simpa using h1
    cases r with
    | nil => simp [h1']
    | cons y s =>
      have h3 : t < y.1 := by simpa using h2 (by simp)
      simp [h1', h3]
  | x :: r, k, t, i + 1, h, h1, h2 => by
    rw [atE, atE_of r k t i (by simpa using h) (by simpa using h1) (fun q => by simpa using h2 (by simpa using q))]
    simp
theorem at_prev (l : SL) (t k : Int) (h1 : atS l t = false) (h2 : atE l k t = false) : atB l (t - 1) k = atB l t k ∧ atV l (t - 1) k = atV l t k := by
  have hB : atB l (t - 1) k = atB l t k := by
    unfold atB
    rw [upto_prev l t h1]
    by_cases h0 : uptoG l t = 0
    · simp [h0]
    · have hle := upto_le l t
      have hne : (l.getD (uptoG l t - 1) (0, 0)).1 + k ≠ t := by
        intro he
        have := atE_of l k t (uptoG l t - 1) (by omega) he fun q => by
          rw [show uptoG l t - 1 + 1 = uptoG l t by omega] at q ⊢
          exact upto_stop l t q
        rw [this] at h2
        cases h2
      congr 2
      exact decide_eq_decide.2 (by omega)
  refine ⟨hB, ?_⟩
  unfold atV
  rw [hB, upto_prev l t h1]
theorem all_loop (m : Nat) (X : SL) (K A B : Int) (b1 : List Int) (hr : Rises X) (hl : X.length ≤ 200) (hx : ∀ x ∈ X, 1 ≤ x.1 ∧ x.1 ≤ 240) (k0 : 1 ≤ K) (k1 : K ≤ 40) (ha : 0 ≤ A) (hB : B ≤ 300) (hm : 200 ≤ m) (hb : ∀ t, A ≤ t → t ≤ B → (t ∈ b1 ↔ (atS X t || atE X K t) = true)) : ∀ (n : Nat) (t : Int), A ≤ t → t ≤ B + 1 → B + 1 - t < n →
    ∃ j, l3_1 m n X K B t X b1 = some (0, j)
  | 0, t, _, _, h => by omega
  | n + 1, t, h1, h2, h3 => by
    rw [l3_1]
    by_cases ht : t ≤ B
    · have e0 : IntKind.wrap .i64 (t - (1)) = t - 1 := wrap_id (by omega) (by omega)
      have e9 : IntKind.wrap .i64 (t + (1)) = t + 1 := wrap_id (by omega) (by omega)
      have p1 : atPre X t K = true := decide_eq_true ⟨by omega, by omega, by omega, by omega, by omega⟩
      have p2 : atPre X (t - 1) K = true := decide_eq_true ⟨by omega, by omega, by omega, by omega, by omega⟩
      obtain ⟨j, hj⟩ := seek_loop m X K B t X b1 (by omega) (fun x hx' => by have := hx x hx'; omega) (by omega) (by omega) (m + 24) 0 false false (by omega) (by omega)
      simp only [Int.natCast_zero, List.drop_zero, Bool.false_or] at hj
      have ih := all_loop m X K A B b1 hr hl hx k0 k1 ha hB hm hb n (t + 1) (by omega) (by omega) (by omega)
      have hk : hasKey (.int .i64) b1 t = (atS X t || atE X K t) := by
        rw [Bool.eq_iff_iff, hasKey_iff]; exact hb t h1 ht
      rw [if_pos (decide_eq_true ht), e0, e9, if_pos p1, if_pos p2]
      unfold l3_2R
      rw [hj, hk]
      cases hS : atS X t <;> cases hE : atE X K t
      · obtain ⟨q1, q2⟩ := at_prev X t K hS hE
        rw [q1, q2]
        simpa using ih
      · simpa using ih
      · simpa using ih
      · simpa using ih
    · exact ⟨t, by rw [if_neg (by simpa using ht)]⟩
theorem within_in (x lo hi : Int) (h : lo ≤ hi) : lo ≤ withinI x lo hi ∧ withinI x lo hi ≤ hi := by
  have h1 := Int.emod_nonneg x (show hi - lo + 1 ≠ 0 by omega)
  have h2 := Int.emod_lt_of_pos x (show 0 < hi - lo + 1 by omega)
  unfold withinI
  omega
theorem chg_law (ks : List Int) (look from_ to_ : Int) : ∃ m q, chg m ks look from_ to_ = some q := by
  obtain ⟨hr, hl, hx⟩ := samples_ok ks
  have hk := within_in look 1 40 (by omega)
  have hA := within_in from_ 0 200 (by omega)
  have hB := within_in to_ (withinI from_ 0 200) 300 (by omega)
  have hadd := addG_ok hr (by omega) (fun x h => by have := hx x h; omega)
  generalize hX : samplesG ks = X at *
  refine ⟨1000, (), ?_⟩
  unfold chg
  rw [hX, hadd]
  generalize withinI look 1 40 = K at *
  generalize withinI from_ 0 200 = A at *
  generalize withinI to_ A 300 = B at *
  have hp : chgPre X K A B = true := decide_eq_true ⟨by omega, fun x h => by have := hx x h; omega, by omega, by omega⟩
  have hrise : (chgG X K A B).Pairwise (· < ·) := (chgAll_rises X K hk.1 hr).filter _
  have hmem : ∀ t, t ∈ chgG X K A B ↔ (A ≤ t ∧ t ≤ B) ∧ t ∈ chgAll X K := fun t => by
    unfold chgG delG inB
    rw [List.mem_filter]
    simp only [Bool.and_eq_true, decide_eq_true_eq]
    exact and_comm
  have hlen : (chgG X K A B).length ≤ 400 := by
    have h1 := List.length_filter_le (inB A B) (chgAll X K)
    have h2 := chgAll_len X K
    unfold chgG delG
    omega
  obtain ⟨j, b, q1, q2⟩ := put_loop 1000 X K A B (chgG X K A B) X hrise (fun t h => ((hmem t).1 h).1) (by omega) (1000 + 24) 0 [] (by omega) (by omega)
  simp only [Int.natCast_zero, List.drop_zero] at q1 q2
  obtain ⟨j2, q3⟩ := all_loop 1000 X K A B b hr (by omega) hx hk.1 hk.2 hA.1 (by omega) (by omega) (fun t t1 t2 => by
    rw [q2 t, hmem t, mem_chgAll]
    simp [t1, t2]) (1000 + 24) A (by omega) (by omega) (by omega)
  have z1 : decide (List.length ([] : List (Int × Int)) ≤ 200 ∧ List.length X < 4611686018427387904) = true := decide_eq_true ⟨by simp, by omega⟩
  have z2 : decide (-4611686018427387904 ≤ A) = true := decide_eq_true (by omega)
  have z3 : decide (A ≤ 300) = true := decide_eq_true (by omega)
  have z4 : decide (300 - A ≤ 2305843009213693951) = true := decide_eq_true (by omega)
  rw [if_pos z1, if_neg (by simp), z2, z3, z4, if_pos (by rfl), if_pos hp]
  unfold l3_0R
  rw [q1]
  simp only [Option.isSome_some, Option.getD_some, ↓reduceIte]
  show (if Option.isSome (l3_1 1000 (1000 + 24) X K B A X b) = true then some () else none) = some ()
  simp only [q3, Option.isSome_some, ↓reduceIte]
theorem chg_thm (x0 : List Int) (x1 x2 x3 : Int) : ∃ g B', CallAt Try.prog 3 g ∧ (g [argAV false (.sl (.int .i64)) x0, argAV false (.int .i64) x1, argAV false (.int .i64) x2, argAV false (.int .i64) x3] []).run = some (.d (.bool true), B') := chg_at x0 x1 x2 x3 (chg_law x0 x1 x2 x3)

end Go.Proofs.Ytahdcmicifokgaa.Dec
