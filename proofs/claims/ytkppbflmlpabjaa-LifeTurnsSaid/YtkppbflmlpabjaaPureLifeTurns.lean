/- For every list of ints LifeTurns returns true, said of the printed functions. No condition. -/
import Derived.Test.YtkppbflmlpabjaaMLifeTurnsx2
namespace Go.Proofs.Ytkppbflmlpabjaa.Pure
open Go.RowKit Go.Proofs.Ytkppbflmlpabjaa.PLifeTurns Go.Proofs.YtkppbflmlpabjaaW.PrintWords Go.Proofs.YtkppbflmlpabjaaW.PrintLast Go.Proofs.YtkppbflmlpabjaaW.PrintMore
set_option linter.unusedVariables false
set_option linter.unusedSimpArgs false

def inr (x : Int) : Prop := -9223372036854775808 ≤ x ∧ x ≤ 9223372036854775807
instance (x : Int) : Decidable (inr x) := by unfold inr; infer_instance
theorem wrap_in {x : Int} (h : inr x) : wrap64 x = x := by unfold inr at h; unfold wrap64; omega
theorem wrap_inr (x : Int) : inr (wrap64 x) := by unfold inr wrap64; omega
theorem wrap_ex (x : Int) : ∃ m : Int, wrap64 x = x + 18446744073709551616 * m := ⟨-((x + 9223372036854775808) / 18446744073709551616), by unfold wrap64; omega⟩
theorem tmod_lt (p a : Int) : (0 < a → -a < Int.tmod p a ∧ Int.tmod p a < a) ∧ (a < 0 → a < Int.tmod p a ∧ Int.tmod p a < -a) := by
  refine ⟨fun h => ⟨Int.lt_tmod_of_pos p h, Int.tmod_lt_of_pos p h⟩, fun h => ?_⟩
  have h1 := Int.lt_tmod_of_pos p (show 0 < -a by omega)
  have h2 := Int.tmod_lt_of_pos p (show 0 < -a by omega)
  rw [Int.tmod_neg] at h1 h2
  omega
theorem mul_key {a b : Int} (ha : inr a) (hb : inr b) (h0 : a ≠ 0) (hn : ¬ (a = -1 ∧ b = -9223372036854775808)) :
    wrap64 (Int.tdiv (wrap64 (a * b)) a) = b ↔ inr (a * b) := by
  constructor
  · intro h
    obtain ⟨m, hm⟩ := wrap_ex (a * b)
    have hp := wrap_inr (a * b)
    have hd := Int.mul_tdiv_add_tmod (wrap64 (a * b)) a
    have ht := tmod_lt (wrap64 (a * b)) a
    have hq : (Int.tdiv (wrap64 (a * b)) a).natAbs ≤ (wrap64 (a * b)).natAbs := Int.natAbs_tdiv_le_natAbs _ _
    generalize Int.tmod (wrap64 (a * b)) a = r at *
    generalize hqq : Int.tdiv (wrap64 (a * b)) a = q at *
    generalize hpp : wrap64 (a * b) = p at *
    by_cases e : q = 9223372036854775808
    · subst e
      have hw : wrap64 9223372036854775808 = -9223372036854775808 := by unfold wrap64; omega
      rw [hw] at h
      unfold inr at *
      exfalso
      rcases Int.lt_or_gt_of_ne h0 with hl | hg
      · have := ht.2 hl; omega
      · have := ht.1 hg; omega
    · have hqi : inr q := by unfold inr at *; omega
      rw [wrap_in hqi] at h
      subst h
      unfold inr at *
      rcases Int.lt_or_gt_of_ne h0 with hl | hg
      · have := ht.2 hl; omega
      · have := ht.1 hg; omega
  · intro h
    rw [wrap_in h, Int.mul_tdiv_cancel_left b h0, wrap_in hb]
theorem wf_inr {n : Int} (h : (Go.Lit.int .i64 n).wf = true) : inr n := by
  simp [Go.Lit.wf, Go.IntKind.min, Go.IntKind.max, Go.IntKind.signed, Go.IntKind.bits] at h
  unfold inr; omega

theorem tmod_emod (n m : Int) (hm : 0 < m) : (if Int.tmod n m < 0 then Int.tmod n m + m else Int.tmod n m) = n % m := by
  have hd := Int.mul_tdiv_add_tmod n m
  have ht := (tmod_lt n m).1 hm
  have he : n % m = Int.tmod n m % m := by
    conv => lhs; rw [← hd]
    rw [Int.add_comm, Int.add_mul_emod_self_left]
  rw [he]
  split
  · rename_i h
    rw [← Int.add_emod_right (Int.tmod n m) m, Int.emod_eq_of_lt (by omega) (by omega)]
  · rename_i h
    rw [Int.emod_eq_of_lt (by omega) (by omega)]
/-- A number brought into lo .. hi. -/
theorem within_val {n lo hi : Int} (h1 : -4611686018427387904 ≤ lo) (h2 : lo ≤ hi) (h3 : hi ≤ 4611686018427387903) (h4 : hi - lo ≤ 4611686018427387902) : klaxonbook_Within.f n lo hi = some (lo + n % (hi - lo + 1)) := by
  unfold klaxonbook_Within.f
  have w1 : wrap64 (hi - lo) = hi - lo := wrap_in ⟨by omega, by omega⟩
  have w2 : wrap64 (hi - lo + 1) = hi - lo + 1 := wrap_in ⟨by omega, by omega⟩
  have he := tmod_emod n (hi - lo + 1) (by omega)
  have ht := (tmod_lt n (hi - lo + 1)).1 (by omega)
  rw [w1, w2, if_neg (by omega)]
  generalize Int.tmod n (hi - lo + 1) = t at *
  generalize n % (hi - lo + 1) = v at *
  by_cases hneg : t < 0
  · rw [if_pos hneg] at he ⊢
    have a1 : wrap64 (t + hi) = t + hi := wrap_in ⟨by omega, by omega⟩
    have a2 : wrap64 (t + hi - lo) = t + hi - lo := wrap_in ⟨by omega, by omega⟩
    have a3 : wrap64 (t + hi - lo + 1) = t + hi - lo + 1 := wrap_in ⟨by omega, by omega⟩
    have a4 : wrap64 (lo + (t + hi - lo + 1)) = lo + (t + hi - lo + 1) := wrap_in ⟨by omega, by omega⟩
    rw [a1, a2, a3, a4, ← he]
    congr 1; omega
  · rw [if_neg hneg] at he ⊢
    have a4 : wrap64 (lo + t) = lo + t := wrap_in ⟨by omega, by omega⟩
    rw [a4, he]
theorem within_some {n lo hi : Int} (h1 : -4611686018427387904 ≤ lo) (h2 : lo ≤ hi) (h3 : hi ≤ 4611686018427387903) (h4 : hi - lo ≤ 4611686018427387902) : ∃ r, klaxonbook_Within.f n lo hi = some r ∧ lo ≤ r ∧ r ≤ hi := by
  refine ⟨_, within_val h1 h2 h3 h4, ?_⟩
  have e1 := Int.emod_nonneg n (show hi - lo + 1 ≠ 0 by omega)
  have e2 := Int.emod_lt_of_pos n (show 0 < hi - lo + 1 by omega)
  omega

theorem runs_true (k : Nat) (hk : 60 ≤ k) : klaxonlaw12_LifeRuns.f k = some true := at_rounds klaxonlaw12_LifeRuns.mono (k := 60) hk (by decide +kernel)
theorem rd_at {xs : List Int} {j : Nat} (h : j < xs.length) : rd xs (j : Int) = xs[j] := by simp [rd, h]
theorem rdT_at {xs : List S48} {j : Nat} (h : j < xs.length) : rd_T48 xs (j : Int) = xs[j] := by simp [rd_T48, h]
/-- Where the states aren't what they were, from a tick on. -/
def turnsFrom : Nat → Int → List Int → List S48
  | _, _, [] => []
  | i, last, s :: ss => if s = last then turnsFrom (i + 1) s ss else ⟨(i : Int), s, []⟩ :: turnsFrom (i + 1) s ss
theorem turns_len : ∀ (ss : List Int) (i : Nat) (last : Int), (turnsFrom i last ss).length ≤ ss.length := by
  intro ss
  induction ss with
  | nil => intro i last; simp [turnsFrom]
  | cons s ss ih =>
    intro i last
    unfold turnsFrom
    split
    · have := ih (i + 1) s; simp; omega
    · have := ih (i + 1) s; simp; omega
theorem turns_late : ∀ (ss : List Int) (i : Nat) (last : Int), ∀ x ∈ turnsFrom i last ss, (i : Int) ≤ x.f0 := by
  intro ss
  induction ss with
  | nil => intro i last x hx; simp [turnsFrom] at hx
  | cons s ss ih =>
    intro i last x hx
    unfold turnsFrom at hx
    split at hx
    · have := ih (i + 1) s x hx; omega
    · rcases List.mem_cons.1 hx with rfl | hx
      · exact Int.le_refl _
      · have := ih (i + 1) s x hx; omega
theorem turns_l0 (own : List Int) (hn : own.length ≤ 1000) (d : Nat) : ∀ (m : Nat) (acc : List S48) (last : Int) (j : Nat), j ≤ own.length → own.length - j = d → d < m → acc.length ≤ j →
    life_Turns.l0 m acc last own (own.length : Int) (j : Int) = some (acc ++ turnsFrom j last (own.drop j)) := by
  induction d with
  | zero =>
    intro m acc last j h1 h2 h3 h4
    obtain ⟨m, rfl⟩ : ∃ n, m = n + 1 := ⟨m - 1, by omega⟩
    have : j = own.length := by omega
    subst this
    simp only [life_Turns.l0]
    rw [if_neg (by omega), List.drop_length]; simp [turnsFrom]
  | succ d ih =>
    intro m acc last j h1 h2 h3 h4
    obtain ⟨m, rfl⟩ : ∃ n, m = n + 1 := ⟨m - 1, by omega⟩
    have hlt : j < own.length := by omega
    have hw : wrap64 ((j : Int) + 1) = ((j + 1 : Nat) : Int) := by rw [wrap_in ⟨by omega, by omega⟩]; rfl
    simp only [life_Turns.l0]
    rw [if_pos (by omega), if_pos (by omega), if_pos (by omega), rd_at hlt, hw, List.drop_eq_getElem_cons hlt]
    unfold turnsFrom
    by_cases hc : own[j] = last
    · rw [if_pos hc, if_pos hc, ih m acc _ (j + 1) (by omega) (by omega) (by omega) (by omega)]
    · rw [if_neg hc, if_neg hc, if_pos (by omega), ih m _ _ (j + 1) (by omega) (by omega) (by omega) (by simp; omega)]
      simp
theorem turns_val (own : List Int) (hn : own.length ≤ 1000) (m : Nat) (hm : own.length < m) : life_Turns.f m own = some (turnsFrom 0 0 own) := by
  have := turns_l0 own hn own.length m [] 0 0 (by omega) (by omega) hm (by simp)
  simpa [life_Turns.f] using this
theorem l1_ (own : List Int) (hn : own.length ≤ 40) (d : Nat) : ∀ (k j : Nat) (pre : List S48) (state : Int), j ≤ own.length → own.length - j = d → 3 * d + 70 ≤ k → pre.length ≤ j →
    klaxonlaw12_LifeTurns.l1 k own (pre ++ turnsFrom j state (own.drop j)) state (pre.length : Int) (own.length : Int) (j : Int) = some true := by
  induction d with
  | zero =>
    intro k j pre state h1 h2 h3 h4
    obtain ⟨k, rfl⟩ : ∃ n, k = n + 1 := ⟨k - 1, by omega⟩
    have : j = own.length := by omega
    subst this
    simp only [klaxonlaw12_LifeTurns.l1]
    rw [if_neg (by omega), List.drop_length]
    have e : turnsFrom own.length state [] = [] := rfl
    rw [e, List.append_nil, if_pos rfl, turns_val [] (by simp) k (by simp; omega)]
    have e2 : turnsFrom 0 0 [] = [] := rfl
    simp [e2, runs_true k (by omega)]
  | succ d ih =>
    intro k j pre state h1 h2 h3 h4
    obtain ⟨k, rfl⟩ : ∃ n, k = n + 3 := ⟨k - 3, by omega⟩
    have hlt : j < own.length := by omega
    have hw : wrap64 ((j : Int) + 1) = ((j + 1 : Nat) : Int) := by rw [wrap_in ⟨by omega, by omega⟩]; rfl
    have hlen := turns_len (own.drop (j + 1)) (j + 1) own[j]
    rw [List.length_drop] at hlen
    simp only [klaxonlaw12_LifeTurns.l1]
    rw [if_pos (by omega), List.drop_eq_getElem_cons hlt]
    unfold turnsFrom
    by_cases hc : own[j] = state
    · rw [if_pos hc]
      have hstep : klaxonlaw12_LifeTurns.j3 (k + 2) own (pre ++ turnsFrom (j + 1) own[j] (own.drop (j + 1))) state (pre.length : Int) (j : Int) (own.length : Int) (j : Int) false = some true := by
        simp only [klaxonlaw12_LifeTurns.j3, Bool.false_eq_true, if_false]
        rw [if_pos (by omega), if_pos (by omega), rd_at hlt, if_pos hc.symm, hw]
        have := ih (k + 1) (j + 1) pre own[j] (by omega) (by omega) (by omega) (by omega)
        rw [hc] at this ⊢
        exact this
      by_cases hl : (pre.length : Int) < ((pre ++ turnsFrom (j + 1) own[j] (own.drop (j + 1))).length : Int)
      · rw [if_pos hl, if_pos (by omega)]
        have hl' : pre.length < (pre ++ turnsFrom (j + 1) own[j] (own.drop (j + 1))).length := by omega
        rw [rdT_at hl']
        have hmem : (pre ++ turnsFrom (j + 1) own[j] (own.drop (j + 1)))[pre.length] ∈ turnsFrom (j + 1) own[j] (own.drop (j + 1)) := by
          rw [List.getElem_append_right (Nat.le_refl _)]
          exact List.getElem_mem _
        have hlate := turns_late _ _ _ _ hmem
        have hne : ((pre ++ turnsFrom (j + 1) own[j] (own.drop (j + 1)))[pre.length].f0 == (j : Int)) = false := by
          rw [beq_eq_false_iff_ne]; omega
        rw [hne]; exact hstep
      · rw [if_neg hl]; exact hstep
    · rw [if_neg hc]
      have hl' : pre.length < (pre ++ (⟨(j : Int), own[j], []⟩ : S48) :: turnsFrom (j + 1) own[j] (own.drop (j + 1))).length := by simp
      have hget : (pre ++ (⟨(j : Int), own[j], []⟩ : S48) :: turnsFrom (j + 1) own[j] (own.drop (j + 1)))[pre.length] = ⟨(j : Int), own[j], []⟩ := by
        rw [List.getElem_append_right (Nat.le_refl _)]; simp
      rw [if_pos (by omega), if_pos (by omega), rdT_at hl', hget]
      have hb : ((j : Int) == (j : Int)) = true := by simp
      have hz : (((([] : List S86).length : Nat) : Int) != 0) = false := by simp
      simp only [hb, klaxonlaw12_LifeTurns.j3, if_true]
      rw [if_pos (by omega), if_pos (by omega), rdT_at hl', hget]
      simp only [hz]
      rw [if_neg hc]
      simp only [klaxonlaw12_LifeTurns.j4, Bool.false_eq_true, if_false]
      have hw2 : wrap64 ((pre.length : Int) + 1) = (((pre ++ [(⟨(j : Int), own[j], []⟩ : S48)]).length : Nat) : Int) := by
        rw [wrap_in ⟨by omega, by omega⟩]; simp
      rw [if_pos (by omega), if_pos (by omega), if_pos (by omega), if_pos (by omega), rdT_at hl', hget, rd_at hlt]
      simp only [if_true, hw, hw2]
      have := ih k (j + 1) (pre ++ [(⟨(j : Int), own[j], []⟩ : S48)]) own[j] (by omega) (by omega) (by omega) (by simp; omega)
      rw [List.append_assoc] at this
      exact this
theorem j1_ (own : List Int) (hn : own.length ≤ 40) (k : Nat) (hk : 250 ≤ k) : klaxonlaw12_LifeTurns.j1 k own = some true := by
  obtain ⟨k, rfl⟩ : ∃ n, k = n + 1 := ⟨k - 1, by omega⟩
  simp only [klaxonlaw12_LifeTurns.j1]
  rw [turns_val own (by omega) k (by omega)]
  have := l1_ own hn own.length k 0 [] 0 (by omega) (by omega) (by omega) (by simp)
  simpa using this
theorem l0_ (xs : List Int) (d : Nat) : ∀ (k : Nat) (own : List Int), own.length ≤ 40 → 40 - own.length = d → d + 260 ≤ k →
    klaxonlaw12_LifeTurns.l0 k xs own (own.length : Int) = some true := by
  induction d with
  | zero =>
    intro k own h1 h2 h3
    obtain ⟨k, rfl⟩ : ∃ n, k = n + 1 := ⟨k - 1, by omega⟩
    have hj := j1_ own h1 k (by omega)
    simp only [klaxonlaw12_LifeTurns.l0, hj]
    have : ¬ (own.length : Int) < 40 := by omega
    simp [this]
  | succ d ih =>
    intro k own h1 h2 h3
    obtain ⟨k, rfl⟩ : ∃ n, k = n + 1 := ⟨k - 1, by omega⟩
    have hj := j1_ own h1 k (by omega)
    simp only [klaxonlaw12_LifeTurns.l0, hj]
    by_cases hl : (own.length : Int) < (xs.length : Int)
    · obtain ⟨r, hr, _, _⟩ := within_some (n := rd xs (own.length : Int)) (lo := 0) (hi := 2) (by omega) (by omega) (by omega) (by omega)
      rw [if_pos hl, if_pos (by omega), if_pos (by omega), hr]
      simp only [Option.bind_some]
      have hw : wrap64 ((own.length : Int) + 1) = (((own ++ [r]).length : Nat) : Int) := by rw [wrap_in ⟨by omega, by omega⟩]; simp
      rw [if_pos (by omega), hw]
      exact ih k (own ++ [r]) (by simp; omega) (by simp; omega) (by omega)
    · rw [if_neg hl]
theorem LifeTurns : klaxonlaw12_LifeTurns.Pure := by
  intro xs _ _ _
  refine ⟨320, ?_⟩
  unfold klaxonlaw12_LifeTurns.f
  exact l0_ xs 40 320 [] (by simp) (by simp) (by omega)

end Go.Proofs.Ytkppbflmlpabjaa.Pure
