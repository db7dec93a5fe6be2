/- For every three ints NumOrder returns true. No condition. -/
import Derived.Test.YtkppbflmlpabjaaMNumOrderx2
namespace Go.Proofs.Ytkppbflmlpabjaa.Pure
open Go.RowKit Go.Proofs.Ytkppbflmlpabjaa.PNumOrder Go.Proofs.YtkppbflmlpabjaaW.PrintWords Go.Proofs.YtkppbflmlpabjaaW.PrintLast Go.Proofs.YtkppbflmlpabjaaW.PrintMore
set_option linter.unusedVariables false
set_option linter.unusedSimpArgs false

def inr (x : Int) : Prop := -9223372036854775808 ≤ x ∧ x ≤ 9223372036854775807
instance (x : Int) : Decidable (inr x) := by unfold inr; infer_instance
theorem wrap_in {x : Int} (h : inr x) : wrap64 x = x := by unfold inr at h; unfold wrap64; omega
theorem wrap_inr (x : Int) : inr (wrap64 x) := by unfold inr wrap64; omega
theorem wrap_ex (x : Int) : ∃ m : Int, wrap64 x = x + 18446744073709551616 * m := ⟨-((x + 9223372036854775808) / 18446744073709551616), by unfold wrap64; omega⟩
theorem tmod_lt (p a : Int) : (0 < a → -a < Int.tmod p a ∧ Int.tmod p a < a) ∧ (a < 0 → a < Int.tmod p a ∧ Int.tmod p a < -a) := by
  refine ⟨fun h => ⟨Int.lt_tmod_of_pos p h, Int.tmod_lt_of_pos p h⟩, fun h => ?_⟩
  have h1 := Int.lt_tmod_of_pos p (show 0 < -a by omega)
  have h2 := Int.tmod_lt_of_pos p (show 0 < -a by omega)
  rw [Int.tmod_neg] at h1 h2
  omega
theorem mul_key {a b : Int} (ha : inr a) (hb : inr b) (h0 : a ≠ 0) (hn : ¬ (a = -1 ∧ b = -9223372036854775808)) :
    wrap64 (Int.tdiv (wrap64 (a * b)) a) = b ↔ inr (a * b) := by
  constructor
  · intro h
    obtain ⟨m, hm⟩ := wrap_ex (a * b)
    have hp := wrap_inr (a * b)
    have hd := Int.mul_tdiv_add_tmod (wrap64 (a * b)) a
    have ht := tmod_lt (wrap64 (a * b)) a
    have hq : (Int.tdiv (wrap64 (a * b)) a).natAbs ≤ (wrap64 (a * b)).natAbs := Int.natAbs_tdiv_le_natAbs _ _
    generalize Int.tmod (wrap64 (a * b)) a = r at *
    generalize hqq : Int.tdiv (wrap64 (a * b)) a = q at *
    generalize hpp : wrap64 (a * b) = p at *
    by_cases e : q = 9223372036854775808
    · subst e
      have hw : wrap64 9223372036854775808 = -9223372036854775808 := by unfold wrap64; omega
      rw [hw] at h
      unfold inr at *
      exfalso
      rcases Int.lt_or_gt_of_ne h0 with hl | hg
      · have := ht.2 hl; omega
      · have := ht.1 hg; omega
    · have hqi : inr q := by unfold inr at *; omega
      rw [wrap_in hqi] at h
      subst h
      unfold inr at *
      rcases Int.lt_or_gt_of_ne h0 with hl | hg
      · have := ht.2 hl; omega
      · have := ht.1 hg; omega
  · intro h
    rw [wrap_in h, Int.mul_tdiv_cancel_left b h0, wrap_in hb]
theorem wf_inr {n : Int} (h : (Go.Lit.int .i64 n).wf = true) : inr n := by
  simp [Go.Lit.wf, Go.IntKind.min, Go.IntKind.max, Go.IntKind.signed, Go.IntKind.bits] at h
  unfold inr; omega

theorem add_spec {a b : Int} (ha : inr a) (hb : inr b) : num_Add.f a b = some (if inr (a + b) then (a + b, 0) else (0, 3)) := by
  unfold num_Add.f
  by_cases h : inr (a + b)
  · rw [if_pos h, wrap_in h]
    rw [if_neg (by by_cases hb0 : b > 0 <;> simp [hb0] <;> omega)]
  · rw [if_neg h]
    have : ¬ (b = 0) := by rintro rfl; simp at h; exact h ha
    rw [if_pos (by
      unfold inr at *
      by_cases hb0 : b > 0
      · have hw : wrap64 (a + b) = a + b - 18446744073709551616 := by unfold wrap64; omega
        simp [hb0, hw]; omega
      · have hw : wrap64 (a + b) = a + b + 18446744073709551616 := by unfold wrap64; omega
        simp [hb0, hw]; omega), if_neg this]
theorem sub_in {a b : Int} (ha : inr a) (hb : inr b) : ((decide (wrap64 (a - b) < a)) == (decide (b > 0))) = decide (inr (a - b)) := by
  by_cases h : inr (a - b)
  · rw [wrap_in h]
    by_cases hb0 : b > 0 <;> simp [hb0, h] <;> omega
  · have : ¬ (b = 0) := by rintro rfl; simp at h; exact h ha
    by_cases hb0 : b > 0
    · have hw : wrap64 (a - b) = a - b + 18446744073709551616 := by unfold inr wrap64 at *; omega
      simp [hb0, hw, h]; unfold inr at *; omega
    · have hw : wrap64 (a - b) = a - b - 18446744073709551616 := by unfold inr wrap64 at *; omega
      simp [hb0, hw, h]; unfold inr at *; omega
theorem sub_spec {a b : Int} (ha : inr a) (hb : inr b) : num_Sub.f a b = some (if inr (a - b) then (a - b, 0) else (0, 3)) := by
  unfold num_Sub.f
  have h2 := sub_in ha hb
  rw [bne, h2]
  by_cases h : inr (a - b)
  · rw [if_pos h, wrap_in h]; simp [h]
  · have : ¬ (b = 0) := by rintro rfl; simp at h; exact h ha
    simp [h, this]
theorem mul_spec {a b : Int} (ha : inr a) (hb : inr b) : num_Mul.f a b = some (if inr (a * b) then (a * b, 0) else (0, 3)) := by
  unfold num_Mul.f
  by_cases a0 : a = 0
  · subst a0
    have : inr (0 * b) := by simp [inr]
    rw [if_pos this]; simp [wrap64]
  · by_cases e : a = -1 ∧ b = -9223372036854775808
    · obtain ⟨rfl, rfl⟩ := e
      decide +kernel
    · have key := mul_key ha hb a0 e
      by_cases h : inr (a * b)
      · have k2 := key.2 h
        rw [if_pos h]
        have w1 := wrap_in h
        have e2 : ¬ (a = -9223372036854775808 ∧ b = -1) := by rintro ⟨rfl, rfl⟩; revert h; decide
        by_cases c1 : a = -9223372036854775808 <;> by_cases c2 : b = -1 <;> by_cases c3 : b = -9223372036854775808 <;> by_cases c4 : a = -1 <;> simp_all
      · have k2 : ¬ _ := fun x => h (key.1 x)
        rw [if_neg h]
        by_cases c1 : a = -9223372036854775808 <;> by_cases c2 : b = -1 <;> by_cases c3 : b = -9223372036854775808 <;> by_cases c4 : a = -1 <;> simp_all

theorem tmod_emod (n m : Int) (hm : 0 < m) : (if Int.tmod n m < 0 then Int.tmod n m + m else Int.tmod n m) = n % m := by
  have hd := Int.mul_tdiv_add_tmod n m
  have ht := (tmod_lt n m).1 hm
  have he : n % m = Int.tmod n m % m := by
    conv => lhs; rw [← hd]
    rw [Int.add_comm, Int.add_mul_emod_self_left]
  rw [he]
  split
  · rename_i h
    rw [← Int.add_emod_right (Int.tmod n m) m, Int.emod_eq_of_lt (by omega) (by omega)]
  · rename_i h
    rw [Int.emod_eq_of_lt (by omega) (by omega)]
/-- A number brought into lo .. hi. -/
theorem within_val {n lo hi : Int} (h1 : -4611686018427387904 ≤ lo) (h2 : lo ≤ hi) (h3 : hi ≤ 4611686018427387903) (h4 : hi - lo ≤ 4611686018427387902) : klaxonbook_Within.f n lo hi = some (lo + n % (hi - lo + 1)) := by
  unfold klaxonbook_Within.f
  have w1 : wrap64 (hi - lo) = hi - lo := wrap_in ⟨by omega, by omega⟩
  have w2 : wrap64 (hi - lo + 1) = hi - lo + 1 := wrap_in ⟨by omega, by omega⟩
  have he := tmod_emod n (hi - lo + 1) (by omega)
  have ht := (tmod_lt n (hi - lo + 1)).1 (by omega)
  rw [w1, w2, if_neg (by omega)]
  generalize Int.tmod n (hi - lo + 1) = t at *
  generalize n % (hi - lo + 1) = v at *
  by_cases hneg : t < 0
  · rw [if_pos hneg] at he ⊢
    have a1 : wrap64 (t + hi) = t + hi := wrap_in ⟨by omega, by omega⟩
    have a2 : wrap64 (t + hi - lo) = t + hi - lo := wrap_in ⟨by omega, by omega⟩
    have a3 : wrap64 (t + hi - lo + 1) = t + hi - lo + 1 := wrap_in ⟨by omega, by omega⟩
    have a4 : wrap64 (lo + (t + hi - lo + 1)) = lo + (t + hi - lo + 1) := wrap_in ⟨by omega, by omega⟩
    rw [a1, a2, a3, a4, ← he]
    congr 1; omega
  · rw [if_neg hneg] at he ⊢
    have a4 : wrap64 (lo + t) = lo + t := wrap_in ⟨by omega, by omega⟩
    rw [a4, he]
theorem within_some {n lo hi : Int} (h1 : -4611686018427387904 ≤ lo) (h2 : lo ≤ hi) (h3 : hi ≤ 4611686018427387903) (h4 : hi - lo ≤ 4611686018427387902) : ∃ r, klaxonbook_Within.f n lo hi = some r ∧ lo ≤ r ∧ r ≤ hi := by
  refine ⟨_, within_val h1 h2 h3 h4, ?_⟩
  have e1 := Int.emod_nonneg n (show hi - lo + 1 ≠ 0 by omega)
  have e2 := Int.emod_lt_of_pos n (show 0 < hi - lo + 1 by omega)
  omega

/-- The quotient up: the least that is enough. -/
theorem up_spec {x y : Int} (h0 : 0 ≤ x) (h1 : 1 ≤ y) (hx : x ≤ 4611686018427387904) (hy : inr y) (k : Nat) :
    ∃ n, num_Up.f (k + 1) x y = some n ∧ 0 ≤ n ∧ n ≤ x ∧ x ≤ n * y ∧ ((n = 0 ∧ x = 0) ∨ (n - 1) * y < x) := by
  have hd : y * (x / y) + x % y = x := Int.mul_ediv_add_emod x y
  have r0 : 0 ≤ x % y := Int.emod_nonneg x (by omega)
  have r1 : x % y < y := Int.emod_lt_of_pos x (by omega)
  have q0 : 0 ≤ x / y := Int.ediv_nonneg h0 (by omega)
  have q1 : x / y ≤ y * (x / y) := by
    have := Int.mul_le_mul_of_nonneg_right h1 q0
    omega
  unfold num_Up.f
  rw [if_neg (by omega)]
  have hb : decide (y < 1) = false := by simp; omega
  rw [hb]
  simp only [num_Up.j0, Bool.false_eq_true, if_false]
  rw [Int.tdiv_eq_ediv_of_nonneg h0, Int.tmod_eq_emod_of_nonneg h0]
  have hc : x / y * y = y * (x / y) := Int.mul_comm _ _
  generalize x / y = q at *
  generalize x % y = r at *
  have w1 : wrap64 q = q := wrap_in ⟨by omega, by omega⟩
  have w2 : wrap64 (q + 1) = q + 1 := wrap_in ⟨by omega, by omega⟩
  rw [w1, w2, if_neg (by omega)]
  by_cases hr : r > 0
  · rw [if_pos hr]
    have e1 : (q + 1) * y = y * q + y := by rw [Int.add_mul, Int.mul_comm]; omega
    have e2 : (q + 1 - 1) * y = y * q := by rw [Int.add_sub_cancel, Int.mul_comm]
    exact ⟨q + 1, rfl, by omega, by omega, by omega, .inr (by omega)⟩
  · rw [if_neg hr]
    have e2 : (q - 1) * y = y * q - y := by rw [Int.sub_mul, Int.mul_comm]; omega
    exact ⟨q, rfl, by omega, by omega, by omega, by omega⟩

theorem runs_true (k : Nat) : klaxonlaw1_NumRuns.f (k + 1) = some true := at_rounds klaxonlaw1_NumRuns.mono (k := 1) (by omega) (by decide +kernel)
theorem j2_ {a b : Int} (k : Nat) (h2 : 2 ≤ b) (h3 : b ≤ 1099511627776) : klaxonlaw1_NumOrder.j2 (k + 3) a b false = some true := by
  have hd : b * (9223372036854775807 / b) + 9223372036854775807 % b = 9223372036854775807 := Int.mul_ediv_add_emod _ b
  have r0 : 0 ≤ (9223372036854775807 : Int) % b := Int.emod_nonneg _ (by omega)
  have r1 : (9223372036854775807 : Int) % b < b := Int.emod_lt_of_pos _ (by omega)
  have q0 : 0 ≤ (9223372036854775807 : Int) / b := Int.ediv_nonneg (by omega) (by omega)
  have q2 : 2 * (9223372036854775807 / b) ≤ b * (9223372036854775807 / b) := Int.mul_le_mul_of_nonneg_right h2 q0
  have c1 : 9223372036854775807 / b * b = b * (9223372036854775807 / b) := Int.mul_comm _ _
  have c2 : (9223372036854775807 / b + 1) * b = b * (9223372036854775807 / b) + b := by rw [Int.add_mul, Int.mul_comm]; omega
  simp only [klaxonlaw1_NumOrder.j2, Bool.false_eq_true, if_false]
  generalize (9223372036854775807 : Int) / b = q at *
  generalize (9223372036854775807 : Int) % b = r at *
  have w1 : wrap64 q = q := wrap_in ⟨by omega, by omega⟩
  have w2 : wrap64 (q + 1) = q + 1 := wrap_in ⟨by omega, by omega⟩
  have i1 : inr b := ⟨by omega, by omega⟩
  rw [w1, w2, if_neg (by omega), mul_spec ⟨by omega, by omega⟩ i1, mul_spec ⟨by omega, by omega⟩ i1]
  have n1 : ¬ inr ((q + 1) * b) := by unfold inr; omega
  have n2 : inr (q * b) := by unfold inr; omega
  rw [if_neg n1, if_pos n2]
  obtain ⟨x, hx, x0, x1⟩ := within_some (n := a) (lo := 0) (hi := 1099511627776) (by omega) (by omega) (by omega) (by omega)
  rw [hx]
  simp only [Option.bind_some]
  have w3 : wrap64 (x + 1) = x + 1 := wrap_in ⟨by omega, by omega⟩
  have w4 : wrap64 (x * 1) = x := by rw [Int.mul_one]; exact wrap_in ⟨by omega, by omega⟩
  obtain ⟨n, hn, n0, nx, nlo, nhi⟩ := up_spec x0 (show 1 ≤ b by omega) (by omega) i1 (k + 1)
  obtain ⟨m, hm, m0, mx, mlo, mhi⟩ := up_spec (show 0 ≤ x + 1 by omega) (show 1 ≤ b by omega) (by omega) i1 (k + 1)
  obtain ⟨p, hp, p0, px, plo, phi⟩ := up_spec x0 (show (1 : Int) ≤ 1 by omega) (by omega) (show inr 1 by unfold inr; omega) (k + 1)
  have hpx : p = x := by omega
  have hnm : n ≤ m := by
    rcases nhi with ⟨rfl, _⟩ | h
    · exact m0
    · have : (n - 1) * b < m * b := by omega
      have := Int.lt_of_mul_lt_mul_right this (by omega)
      omega
  rw [w3, w4, hn, hm, hp]
  have n3 : q * b ≤ 9223372036854775807 := n2.2
  simp [n3, hnm, hpx, runs_true]
theorem j1_ {a b : Int} (ha : inr a) (hb : inr b) (d : Int) (k : Nat) (h2 : 2 ≤ d) (h3 : d ≤ 1099511627776) (p : Int × Int) (hp : p = if inr (a + b) then (a + b, 0) else (0, 3)) :
    klaxonlaw1_NumOrder.j1 (k + 4) a b d p.1 p.2 false = some true := by
  subst hp
  have hj := j2_ (a := a) (b := d) k h2 h3
  simp only [klaxonlaw1_NumOrder.j1, Bool.false_eq_true, if_false]
  by_cases h : inr (a + b)
  · simp only [if_pos h]
    by_cases b0 : b ≥ 0
    · have c1 : ¬ a + b < a := by omega
      have c2 : ¬ b < 0 := by omega
      simp [b0, c1, c2, hj]
    · have c2 : b < 0 := by omega
      have c3 : decide (a + b ≥ a) = false := by simp; omega
      simp only [if_neg b0, if_pos c2, c3, hj]; simp
  · simp [if_neg h, hj]
theorem j0_ {a b : Int} (ha : inr a) (hb : inr b) (d : Int) (k : Nat) (h2 : 2 ≤ d) (h3 : d ≤ 1099511627776) (p : Int × Int) (hp : p = if inr (a + b) then (a + b, 0) else (0, 3)) :
    klaxonlaw1_NumOrder.j0 (k + 5) a b d p.1 p.2 false = some true := by
  have hj := j1_ ha hb d k h2 h3 p hp
  have i1 : inr d := ⟨by omega, by omega⟩
  simp only [klaxonlaw1_NumOrder.j0, Bool.false_eq_true, if_false]
  rw [sub_spec ha i1]
  by_cases h : inr (a - d)
  · have c : ¬ a - d ≥ a := by omega
    simp [h, c, hj]
  · have w : wrap64 (-9223372036854775808 + d) = -9223372036854775808 + d := wrap_in ⟨by omega, by omega⟩
    have c : decide (a ≥ -9223372036854775808 + d) = false := by unfold inr at *; simp; omega
    simp only [if_neg h, Option.bind_some, w, c, hj]; simp
theorem NumOrder : klaxonlaw1_NumOrder.Pure := by
  intro a b d ha hb hd
  replace ha := wf_inr ha
  replace hb := wf_inr hb
  refine ⟨9, ?_⟩
  obtain ⟨x, hx, x0, x1⟩ := within_some (n := d) (lo := 2) (hi := 1099511627776) (by omega) (by omega) (by omega) (by omega)
  have i1 : inr x := ⟨by omega, by omega⟩
  unfold klaxonlaw1_NumOrder.f
  rw [hx]
  simp only [Option.bind_some]
  rw [add_spec ha hb, add_spec ha i1]
  simp only [Option.bind_some]
  have hj := j0_ ha hb x 4 x0 x1 _ rfl
  by_cases h : inr (a + x)
  · have c : ¬ a + x ≤ a := by omega
    simp only [if_pos h, if_true, if_neg c]; exact hj
  · have w : wrap64 (9223372036854775807 - x) = 9223372036854775807 - x := wrap_in ⟨by omega, by omega⟩
    have c : decide (a ≤ 9223372036854775807 - x) = false := by unfold inr at *; simp; omega
    simp only [if_neg h, w, c]; simpa using hj

end Go.Proofs.Ytkppbflmlpabjaa.Pure
