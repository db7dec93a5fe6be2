/- For every two ints and every list of ints NumLaws returns true: what was added is taken away again, products by one and nought, a quotient and what it leaves, sums of opposites. No condition. -/
import Derived.Test.YtkppbflmlpabjaaPNumLawsx2
namespace Go.Proofs.Ytkppbflmlpabjaa.Pure
open Go.RowKit Go.Proofs.Ytkppbflmlpabjaa.PNumLaws Go.Proofs.YtkppbflmlpabjaaW.PrintWords Go.Proofs.YtkppbflmlpabjaaW.PrintLast Go.Proofs.YtkppbflmlpabjaaW.PrintMore
set_option linter.unusedVariables false
set_option linter.unusedSimpArgs false

def inr (x : Int) : Prop := -9223372036854775808 ≤ x ∧ x ≤ 9223372036854775807
instance (x : Int) : Decidable (inr x) := by unfold inr; infer_instance
theorem wrap_in {x : Int} (h : inr x) : wrap64 x = x := by unfold inr at h; unfold wrap64; omega
theorem wrap_inr (x : Int) : inr (wrap64 x) := by unfold inr wrap64; omega
theorem wrap_ex (x : Int) : ∃ m : Int, wrap64 x = x + 18446744073709551616 * m := ⟨-((x + 9223372036854775808) / 18446744073709551616), by unfold wrap64; omega⟩
theorem tmod_lt (p a : Int) : (0 < a → -a < Int.tmod p a ∧ Int.tmod p a < a) ∧ (a < 0 → a < Int.tmod p a ∧ Int.tmod p a < -a) := by
  refine ⟨fun h => ⟨Int.lt_tmod_of_pos p h, Int.tmod_lt_of_pos p h⟩, fun h => ?_⟩
  have h1 := Int.lt_tmod_of_pos p (show 0 < -a by omega)
  have h2 := Int.tmod_lt_of_pos p (show 0 < -a by omega)
  rw [Int.tmod_neg] at h1 h2
  omega
theorem mul_key {a b : Int} (ha : inr a) (hb : inr b) (h0 : a ≠ 0) (hn : ¬ (a = -1 ∧ b = -9223372036854775808)) :
    wrap64 (Int.tdiv (wrap64 (a * b)) a) = b ↔ inr (a * b) := by
  constructor
  · intro h
    obtain ⟨m, hm⟩ := wrap_ex (a * b)
    have hp := wrap_inr (a * b)
    have hd := Int.mul_tdiv_add_tmod (wrap64 (a * b)) a
    have ht := tmod_lt (wrap64 (a * b)) a
    have hq : (Int.tdiv (wrap64 (a * b)) a).natAbs ≤ (wrap64 (a * b)).natAbs := Int.natAbs_tdiv_le_natAbs _ _
    generalize Int.tmod (wrap64 (a * b)) a = r at *
    generalize hqq : Int.tdiv (wrap64 (a * b)) a = q at *
    generalize hpp : wrap64 (a * b) = p at *
    by_cases e : q = 9223372036854775808
    · subst e
      have hw : wrap64 9223372036854775808 = -9223372036854775808 := by unfold wrap64; omega
      rw [hw] at h
      unfold inr at *
      exfalso
      rcases Int.lt_or_gt_of_ne h0 with hl | hg
      · have := ht.2 hl; omega
      · have := ht.1 hg; omega
    · have hqi : inr q := by unfold inr at *; omega
      rw [wrap_in hqi] at h
      subst h
      unfold inr at *
      rcases Int.lt_or_gt_of_ne h0 with hl | hg
      · have := ht.2 hl; omega
      · have := ht.1 hg; omega
  · intro h
    rw [wrap_in h, Int.mul_tdiv_cancel_left b h0, wrap_in hb]
theorem wf_inr {n : Int} (h : (Go.Lit.int .i64 n).wf = true) : inr n := by
  simp [Go.Lit.wf, Go.IntKind.min, Go.IntKind.max, Go.IntKind.signed, Go.IntKind.bits] at h
  unfold inr; omega

theorem add_spec {a b : Int} (ha : inr a) (hb : inr b) : num_Add.f a b = some (if inr (a + b) then (a + b, 0) else (0, 3)) := by
  unfold num_Add.f
  by_cases h : inr (a + b)
  · rw [if_pos h, wrap_in h]
    rw [if_neg (by by_cases hb0 : b > 0 <;> simp [hb0] <;> omega)]
  · rw [if_neg h]
    have : ¬ (b = 0) := by rintro rfl; simp at h; exact h ha
    rw [if_pos (by
      unfold inr at *
      by_cases hb0 : b > 0
      · have hw : wrap64 (a + b) = a + b - 18446744073709551616 := by unfold wrap64; omega
        simp [hb0, hw]; omega
      · have hw : wrap64 (a + b) = a + b + 18446744073709551616 := by unfold wrap64; omega
        simp [hb0, hw]; omega), if_neg this]
theorem sub_in {a b : Int} (ha : inr a) (hb : inr b) : ((decide (wrap64 (a - b) < a)) == (decide (b > 0))) = decide (inr (a - b)) := by
  by_cases h : inr (a - b)
  · rw [wrap_in h]
    by_cases hb0 : b > 0 <;> simp [hb0, h] <;> omega
  · have : ¬ (b = 0) := by rintro rfl; simp at h; exact h ha
    by_cases hb0 : b > 0
    · have hw : wrap64 (a - b) = a - b + 18446744073709551616 := by unfold inr wrap64 at *; omega
      simp [hb0, hw, h]; unfold inr at *; omega
    · have hw : wrap64 (a - b) = a - b - 18446744073709551616 := by unfold inr wrap64 at *; omega
      simp [hb0, hw, h]; unfold inr at *; omega
theorem sub_spec {a b : Int} (ha : inr a) (hb : inr b) : num_Sub.f a b = some (if inr (a - b) then (a - b, 0) else (0, 3)) := by
  unfold num_Sub.f
  have h2 := sub_in ha hb
  rw [bne, h2]
  by_cases h : inr (a - b)
  · rw [if_pos h, wrap_in h]; simp [h]
  · have : ¬ (b = 0) := by rintro rfl; simp at h; exact h ha
    simp [h, this]
theorem mul_spec {a b : Int} (ha : inr a) (hb : inr b) : num_Mul.f a b = some (if inr (a * b) then (a * b, 0) else (0, 3)) := by
  unfold num_Mul.f
  by_cases a0 : a = 0
  · subst a0
    have : inr (0 * b) := by simp [inr]
    rw [if_pos this]; simp [wrap64]
  · by_cases e : a = -1 ∧ b = -9223372036854775808
    · obtain ⟨rfl, rfl⟩ := e
      decide +kernel
    · have key := mul_key ha hb a0 e
      by_cases h : inr (a * b)
      · have k2 := key.2 h
        rw [if_pos h]
        have w1 := wrap_in h
        have e2 : ¬ (a = -9223372036854775808 ∧ b = -1) := by rintro ⟨rfl, rfl⟩; revert h; decide
        by_cases c1 : a = -9223372036854775808 <;> by_cases c2 : b = -1 <;> by_cases c3 : b = -9223372036854775808 <;> by_cases c4 : a = -1 <;> simp_all
      · have k2 : ¬ _ := fun x => h (key.1 x)
        rw [if_neg h]
        by_cases c1 : a = -9223372036854775808 <;> by_cases c2 : b = -1 <;> by_cases c3 : b = -9223372036854775808 <;> by_cases c4 : a = -1 <;> simp_all

theorem tmod_emod (n m : Int) (hm : 0 < m) : (if Int.tmod n m < 0 then Int.tmod n m + m else Int.tmod n m) = n % m := by
  have hd := Int.mul_tdiv_add_tmod n m
  have ht := (tmod_lt n m).1 hm
  have he : n % m = Int.tmod n m % m := by
    conv => lhs; rw [← hd]
    rw [Int.add_comm, Int.add_mul_emod_self_left]
  rw [he]
  split
  · rename_i h
    rw [← Int.add_emod_right (Int.tmod n m) m, Int.emod_eq_of_lt (by omega) (by omega)]
  · rename_i h
    rw [Int.emod_eq_of_lt (by omega) (by omega)]
/-- A number brought into lo .. hi. -/
theorem within_val {n lo hi : Int} (h1 : -4611686018427387904 ≤ lo) (h2 : lo ≤ hi) (h3 : hi ≤ 4611686018427387903) (h4 : hi - lo ≤ 4611686018427387902) : klaxonbook_Within.f n lo hi = some (lo + n % (hi - lo + 1)) := by
  unfold klaxonbook_Within.f
  have w1 : wrap64 (hi - lo) = hi - lo := wrap_in ⟨by omega, by omega⟩
  have w2 : wrap64 (hi - lo + 1) = hi - lo + 1 := wrap_in ⟨by omega, by omega⟩
  have he := tmod_emod n (hi - lo + 1) (by omega)
  have ht := (tmod_lt n (hi - lo + 1)).1 (by omega)
  rw [w1, w2, if_neg (by omega)]
  generalize Int.tmod n (hi - lo + 1) = t at *
  generalize n % (hi - lo + 1) = v at *
  by_cases hneg : t < 0
  · rw [if_pos hneg] at he ⊢
    have a1 : wrap64 (t + hi) = t + hi := wrap_in ⟨by omega, by omega⟩
    have a2 : wrap64 (t + hi - lo) = t + hi - lo := wrap_in ⟨by omega, by omega⟩
    have a3 : wrap64 (t + hi - lo + 1) = t + hi - lo + 1 := wrap_in ⟨by omega, by omega⟩
    have a4 : wrap64 (lo + (t + hi - lo + 1)) = lo + (t + hi - lo + 1) := wrap_in ⟨by omega, by omega⟩
    rw [a1, a2, a3, a4, ← he]
    congr 1; omega
  · rw [if_neg hneg] at he ⊢
    have a4 : wrap64 (lo + t) = lo + t := wrap_in ⟨by omega, by omega⟩
    rw [a4, he]
theorem within_some {n lo hi : Int} (h1 : -4611686018427387904 ≤ lo) (h2 : lo ≤ hi) (h3 : hi ≤ 4611686018427387903) (h4 : hi - lo ≤ 4611686018427387902) : ∃ r, klaxonbook_Within.f n lo hi = some r ∧ lo ≤ r ∧ r ≤ hi := by
  refine ⟨_, within_val h1 h2 h3 h4, ?_⟩
  have e1 := Int.emod_nonneg n (show hi - lo + 1 ≠ 0 by omega)
  have e2 := Int.emod_lt_of_pos n (show 0 < hi - lo + 1 by omega)
  omega

def foldS : Int → List Int → Int × Int
  | acc, [] => (acc, 0)
  | acc, y :: ys => if inr (acc + y) then foldS (acc + y) ys else (0, 3)
theorem rd_at {xs : List Int} {j : Nat} (h : j < xs.length) : rd xs (j : Int) = xs[j] := by simp [rd, h]
theorem sum_l0 (xs : List Int) (hn : xs.length ≤ 1000000000000000000) (hx : ∀ x ∈ xs, inr x) (d : Nat) : ∀ (k : Nat) (acc : Int) (j : Nat), j ≤ xs.length → xs.length - j = d → d < k → inr acc →
    num_Sum.l0 k acc xs (xs.length : Int) (j : Int) = some (foldS acc (xs.drop j)) := by
  induction d with
  | zero =>
    intro k acc j h1 h2 h3 h4
    obtain ⟨k, rfl⟩ : ∃ m, k = m + 1 := ⟨k - 1, by omega⟩
    have : j = xs.length := by omega
    subst this
    simp only [num_Sum.l0]
    rw [if_neg (by omega), List.drop_length]; rfl
  | succ d ih =>
    intro k acc j h1 h2 h3 h4
    obtain ⟨k, rfl⟩ : ∃ m, k = m + 1 := ⟨k - 1, by omega⟩
    have hlt : j < xs.length := by omega
    have hy : inr xs[j] := hx _ (List.getElem_mem hlt)
    simp only [num_Sum.l0]
    rw [if_pos (by omega), if_pos (by omega), if_pos (by omega), rd_at hlt, add_spec h4 hy, List.drop_eq_getElem_cons hlt]
    simp only [Option.bind_some, foldS]
    have hw : wrap64 ((j : Int) + 1) = ((j + 1 : Nat) : Int) := by rw [wrap_in ⟨by omega, by omega⟩]; rfl
    by_cases hc : inr (acc + xs[j])
    · simp only [if_pos hc, if_true]
      rw [hw]
      exact ih k _ (j + 1) (by omega) (by omega) (by omega) hc
    · simp [if_neg hc]
theorem sum_val (xs : List Int) (hn : xs.length ≤ 1000000000000000000) (hx : ∀ x ∈ xs, inr x) (k : Nat) (hk : xs.length < k) : num_Sum.f k xs = some (foldS 0 xs) := by
  have := sum_l0 xs hn hx xs.length k 0 0 (by omega) (by omega) hk (by unfold inr; omega)
  simpa [num_Sum.f] using this

def pairs : List Int → List Int
  | [] => []
  | x :: xs => x :: -x :: pairs xs
theorem pairs_snoc (l : List Int) (x : Int) : pairs (l ++ [x]) = pairs l ++ [x, -x] := by
  induction l with
  | nil => rfl
  | cons y ys ih => simp [pairs, ih]
theorem pairs_length (l : List Int) : (pairs l).length = 2 * l.length := by
  induction l with
  | nil => rfl
  | cons y ys ih => simp [pairs, ih]; omega
def Small (x : Int) : Prop := -1125899906842624 ≤ x ∧ x ≤ 1125899906842624
theorem foldS_pairs (l : List Int) (h : ∀ x ∈ l, Small x) : foldS 0 (pairs l) = (0, 0) := by
  induction l with
  | nil => rfl
  | cons y ys ih =>
    have hy : Small y := h y (by simp)
    have i1 : inr y := by unfold Small at hy; unfold inr; omega
    have i2 : inr 0 := by unfold inr; omega
    simp only [pairs, foldS]
    rw [Int.zero_add, if_pos i1]
    have e : y + -y = 0 := by omega
    rw [e, if_pos i2]
    exact ih (fun x hx => h x (by simp [hx]))
theorem pairs_mem {l : List Int} {x : Int} (h : x ∈ pairs l) (hl : ∀ x ∈ l, Small x) : inr x := by
  induction l with
  | nil => simp [pairs] at h
  | cons y ys ih =>
    have hy : Small y := hl y (by simp)
    simp only [pairs, List.mem_cons] at h
    unfold Small at hy
    rcases h with rfl | rfl | h
    · unfold inr; omega
    · unfold inr; omega
    · exact ih h (fun x hx => hl x (by simp [hx]))
theorem runs_true (k : Nat) : klaxonlaw1_NumRuns.f (k + 1) = some true := at_rounds klaxonlaw1_NumRuns.mono (k := 1) (by omega) (by decide +kernel)
theorem exit_ (ms : List Int) (hm : ∀ x ∈ ms, Small x) (h12 : ms.length ≤ 12) (k : Nat) (hk : 30 < k) :
    num_Sum.f k (pairs ms) = some (0, 0) := by
  have hl := pairs_length ms
  rw [sum_val (pairs ms) (by omega) (fun x hx => pairs_mem hx hm) k (by omega), foldS_pairs ms hm]
theorem loop_ (l : List Int) (d : Nat) : ∀ (k : Nat) (ms : List Int), ms.length ≤ 12 → 12 - ms.length = d → d + 40 < k → (∀ x ∈ ms, Small x) →
    klaxonlaw1_NumLaws.l0 k l (pairs ms) (ms.length : Int) = some true := by
  induction d with
  | zero =>
    intro k ms h1 h2 h3 hm
    obtain ⟨k, rfl⟩ : ∃ m, k = m + 2 := ⟨k - 2, by omega⟩
    simp only [klaxonlaw1_NumLaws.l0]
    have e := exit_ ms hm h1 (k + 1) (by omega)
    rw [e, runs_true]
    have : ¬ (ms.length : Int) < 12 := by omega
    simp [this]
  | succ d ih =>
    intro k ms h1 h2 h3 hm
    obtain ⟨k, rfl⟩ : ∃ m, k = m + 2 := ⟨k - 2, by omega⟩
    simp only [klaxonlaw1_NumLaws.l0]
    have e := exit_ ms hm h1 (k + 1) (by omega)
    rw [e, runs_true]
    by_cases hlt : (ms.length : Int) < (l.length : Int)
    · rw [if_pos hlt, if_pos (by omega), if_pos (by omega)]
      obtain ⟨r, hr, r1, r2⟩ := within_some (n := rd l (ms.length : Int)) (lo := -1125899906842624) (hi := 1125899906842624) (by omega) (by omega) (by omega) (by omega)
      rw [hr]
      have hlen := pairs_length ms
      have hw : wrap64 (-r) = -r := wrap_in ⟨by omega, by omega⟩
      simp only [Option.bind_some, hw]
      rw [if_pos (by simp; omega)]
      have hw2 : wrap64 ((ms.length : Int) + 1) = (((ms ++ [r]).length : Nat) : Int) := by rw [wrap_in ⟨by omega, by omega⟩]; simp
      rw [hw2, ← pairs_snoc]
      refine ih (k + 1) (ms ++ [r]) (by simp; omega) (by simp; omega) (by omega) ?_
      intro x hx
      rcases List.mem_append.1 hx with h | h
      · exact hm x h
      · have : x = r := by simpa using h
        rw [this]; exact ⟨r1, r2⟩
    · rw [if_neg hlt]; simp
theorem div_rem {a b : Int} (ha : inr a) (b0 : b ≠ 0) (e : ¬ (a = -9223372036854775808 ∧ b = -1)) : wrap64 (wrap64 (wrap64 (Int.tdiv a b) * b) + Int.tmod a b) = a := by
  have hd := Int.mul_tdiv_add_tmod a b
  have ht := tmod_lt a b
  have hq : (Int.tdiv a b).natAbs ≤ a.natAbs := Int.natAbs_tdiv_le_natAbs _ _
  have hr : Int.natAbs (Int.tmod a b) ≤ a.natAbs := by
    have := Int.natAbs_tmod a b
    rw [this]; exact Nat.mod_le _ _
  have hs : (0 ≤ a → 0 ≤ Int.tmod a b) ∧ (a ≤ 0 → Int.tmod a b ≤ 0) := by
    refine ⟨fun h => Int.tmod_nonneg b h, fun h => ?_⟩
    have := Int.tmod_nonneg b (show 0 ≤ -a by omega)
    rw [Int.neg_tmod] at this
    omega
  have hne : Int.tdiv a b ≠ 9223372036854775808 := by
    intro h
    rw [h] at hd
    unfold inr at ha
    rcases Int.lt_or_gt_of_ne b0 with hl | hg
    · have := ht.2 hl; exact e (by omega)
    · have := ht.1 hg; omega
  generalize Int.tmod a b = r at *
  generalize Int.tdiv a b = q at *
  unfold inr at ha
  rw [wrap_in (x := q) ⟨by omega, by omega⟩]
  have hc : q * b = b * q := Int.mul_comm _ _
  rw [wrap_in (x := q * b) ⟨by omega, by omega⟩, wrap_in ⟨by omega, by omega⟩]
  omega
theorem j1_ (a b : Int) (l : List Int) (ha : inr a) (k : Nat) (hk : 60 < k) : klaxonlaw1_NumLaws.j1 k a b l false = some true := by
  obtain ⟨k, rfl⟩ : ∃ m, k = m + 2 := ⟨k - 2, by omega⟩
  have hl : klaxonlaw1_NumLaws.j2 (k + 1) l false = some true := by
    simp only [klaxonlaw1_NumLaws.j2]
    have := loop_ l 12 k [] (by simp) (by simp) (by omega) (by simp)
    simpa [pairs] using this
  simp only [klaxonlaw1_NumLaws.j1]
  by_cases b0 : b = 0
  · subst b0
    simp [num_Div.f, num_Mod.f, hl]
  · by_cases e : a = -9223372036854775808 ∧ b = -1
    · obtain ⟨rfl, rfl⟩ := e
      simp [num_Div.f, num_Mod.f, hl]
    · have hq : num_Div.f a b = some (wrap64 (Int.tdiv a b), 0) := by
        unfold num_Div.f
        by_cases c1 : a = -9223372036854775808 <;> by_cases c2 : b = -1 <;> simp_all
      rw [hq]
      simp only [num_Mod.f, if_neg b0, Option.bind_some]
      have := div_rem ha b0 e
      simp [this, hl]
theorem NumLaws : klaxonlaw1_NumLaws.Pure := by
  intro a b l ha hb _ _ _
  replace ha := wf_inr ha
  replace hb := wf_inr hb
  refine ⟨70, ?_⟩
  have hj0 : klaxonlaw1_NumLaws.j0 70 a b l (if inr (a + b) then (a + b, (0 : Int)) else (0, 3)).1 (if inr (a + b) then (a + b, (0 : Int)) else (0, 3)).2 = some true := by
    simp only [klaxonlaw1_NumLaws.j0]
    have m1 : inr (a * 1) := by rw [Int.mul_one]; exact ha
    have m0 : inr (a * 0) := by rw [Int.mul_zero]; unfold inr; omega
    have o1 : inr 1 := by unfold inr; omega
    have o0 : inr 0 := by unfold inr; omega
    rw [add_spec hb ha, mul_spec ha o1, mul_spec ha o0, if_pos m1, if_pos m0, Int.add_comm b a]
    have := j1_ a b l ha 69 (by omega)
    simp [this]
  unfold klaxonlaw1_NumLaws.f
  rw [add_spec ha hb]
  by_cases h : inr (a + b)
  · simp only [if_pos h, Option.bind_some, if_true] at hj0 ⊢
    rw [sub_spec h hb]
    have e : a + b - b = a := by omega
    rw [e, if_pos ha]
    simpa using hj0
  · simp only [if_neg h, Option.bind_some] at hj0 ⊢
    simpa using hj0

end Go.Proofs.Ytkppbflmlpabjaa.Pure
