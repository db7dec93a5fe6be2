/- For every list of bools and every four ints LifeMore returns true, said of the printed functions. No condition. -/
import Derived.Test.YtkppbflmlpabjaaMLifeMorex3
namespace Go.Proofs.Ytkppbflmlpabjaa.Pure
open Go.RowKit Go.Proofs.Ytkppbflmlpabjaa.PLifeMore Go.Proofs.YtkppbflmlpabjaaW.PrintWords Go.Proofs.YtkppbflmlpabjaaW.PrintLast Go.Proofs.YtkppbflmlpabjaaW.PrintMore
set_option linter.unusedVariables false
set_option linter.unusedSimpArgs false

def inr (x : Int) : Prop := -9223372036854775808 ≤ x ∧ x ≤ 9223372036854775807
instance (x : Int) : Decidable (inr x) := by unfold inr; infer_instance
theorem wrap_in {x : Int} (h : inr x) : wrap64 x = x := by unfold inr at h; unfold wrap64; omega
theorem wrap_inr (x : Int) : inr (wrap64 x) := by unfold inr wrap64; omega
theorem wrap_ex (x : Int) : ∃ m : Int, wrap64 x = x + 18446744073709551616 * m := ⟨-((x + 9223372036854775808) / 18446744073709551616), by unfold wrap64; omega⟩
theorem tmod_lt (p a : Int) : (0 < a → -a < Int.tmod p a ∧ Int.tmod p a < a) ∧ (a < 0 → a < Int.tmod p a ∧ Int.tmod p a < -a) := by
  refine ⟨fun h => ⟨Int.lt_tmod_of_pos p h, Int.tmod_lt_of_pos p h⟩, fun h => ?_⟩
  have h1 := Int.lt_tmod_of_pos p (show 0 < -a by omega)
  have h2 := Int.tmod_lt_of_pos p (show 0 < -a by omega)
  rw [Int.tmod_neg] at h1 h2
  omega
theorem mul_key {a b : Int} (ha : inr a) (hb : inr b) (h0 : a ≠ 0) (hn : ¬ (a = -1 ∧ b = -9223372036854775808)) :
    wrap64 (Int.tdiv (wrap64 (a * b)) a) = b ↔ inr (a * b) := by
  constructor
  · intro h
    obtain ⟨m, hm⟩ := wrap_ex (a * b)
    have hp := wrap_inr (a * b)
    have hd := Int.mul_tdiv_add_tmod (wrap64 (a * b)) a
    have ht := tmod_lt (wrap64 (a * b)) a
    have hq : (Int.tdiv (wrap64 (a * b)) a).natAbs ≤ (wrap64 (a * b)).natAbs := Int.natAbs_tdiv_le_natAbs _ _
    generalize Int.tmod (wrap64 (a * b)) a = r at *
    generalize hqq : Int.tdiv (wrap64 (a * b)) a = q at *
    generalize hpp : wrap64 (a * b) = p at *
    by_cases e : q = 9223372036854775808
    · subst e
      have hw : wrap64 9223372036854775808 = -9223372036854775808 := by unfold wrap64; omega
      rw [hw] at h
      unfold inr at *
      exfalso
      rcases Int.lt_or_gt_of_ne h0 with hl | hg
      · have := ht.2 hl; omega
      · have := ht.1 hg; omega
    · have hqi : inr q := by unfold inr at *; omega
      rw [wrap_in hqi] at h
      subst h
      unfold inr at *
      rcases Int.lt_or_gt_of_ne h0 with hl | hg
      · have := ht.2 hl; omega
      · have := ht.1 hg; omega
  · intro h
    rw [wrap_in h, Int.mul_tdiv_cancel_left b h0, wrap_in hb]
theorem wf_inr {n : Int} (h : (Go.Lit.int .i64 n).wf = true) : inr n := by
  simp [Go.Lit.wf, Go.IntKind.min, Go.IntKind.max, Go.IntKind.signed, Go.IntKind.bits] at h
  unfold inr; omega

theorem tmod_emod (n m : Int) (hm : 0 < m) : (if Int.tmod n m < 0 then Int.tmod n m + m else Int.tmod n m) = n % m := by
  have hd := Int.mul_tdiv_add_tmod n m
  have ht := (tmod_lt n m).1 hm
  have he : n % m = Int.tmod n m % m := by
    conv => lhs; rw [← hd]
    rw [Int.add_comm, Int.add_mul_emod_self_left]
  rw [he]
  split
  · rename_i h
    rw [← Int.add_emod_right (Int.tmod n m) m, Int.emod_eq_of_lt (by omega) (by omega)]
  · rename_i h
    rw [Int.emod_eq_of_lt (by omega) (by omega)]
/-- A number brought into lo .. hi. -/
theorem within_val {n lo hi : Int} (h1 : -4611686018427387904 ≤ lo) (h2 : lo ≤ hi) (h3 : hi ≤ 4611686018427387903) (h4 : hi - lo ≤ 4611686018427387902) : klaxonbook_Within.f n lo hi = some (lo + n % (hi - lo + 1)) := by
  unfold klaxonbook_Within.f
  have w1 : wrap64 (hi - lo) = hi - lo := wrap_in ⟨by omega, by omega⟩
  have w2 : wrap64 (hi - lo + 1) = hi - lo + 1 := wrap_in ⟨by omega, by omega⟩
  have he := tmod_emod n (hi - lo + 1) (by omega)
  have ht := (tmod_lt n (hi - lo + 1)).1 (by omega)
  rw [w1, w2, if_neg (by omega)]
  generalize Int.tmod n (hi - lo + 1) = t at *
  generalize n % (hi - lo + 1) = v at *
  by_cases hneg : t < 0
  · rw [if_pos hneg] at he ⊢
    have a1 : wrap64 (t + hi) = t + hi := wrap_in ⟨by omega, by omega⟩
    have a2 : wrap64 (t + hi - lo) = t + hi - lo := wrap_in ⟨by omega, by omega⟩
    have a3 : wrap64 (t + hi - lo + 1) = t + hi - lo + 1 := wrap_in ⟨by omega, by omega⟩
    have a4 : wrap64 (lo + (t + hi - lo + 1)) = lo + (t + hi - lo + 1) := wrap_in ⟨by omega, by omega⟩
    rw [a1, a2, a3, a4, ← he]
    congr 1; omega
  · rw [if_neg hneg] at he ⊢
    have a4 : wrap64 (lo + t) = lo + t := wrap_in ⟨by omega, by omega⟩
    rw [a4, he]
theorem within_some {n lo hi : Int} (h1 : -4611686018427387904 ≤ lo) (h2 : lo ≤ hi) (h3 : hi ≤ 4611686018427387903) (h4 : hi - lo ≤ 4611686018427387902) : ∃ r, klaxonbook_Within.f n lo hi = some r ∧ lo ≤ r ∧ r ≤ hi := by
  refine ⟨_, within_val h1 h2 h3 h4, ?_⟩
  have e1 := Int.emod_nonneg n (show hi - lo + 1 ≠ 0 by omega)
  have e2 := Int.emod_lt_of_pos n (show 0 < hi - lo + 1 by omega)
  omega

theorem tdiv_le {t s l : Int} (hs : 1 ≤ s) : t ≤ l / s ↔ t * s ≤ l := Int.le_ediv_iff_mul_le (by omega)
theorem mx_one {s : Int} (hs : 1 ≤ s) : mx s 1 = s := by unfold mx; split <;> omega
theorem most_val {t s l : Int} (hs : 1 ≤ s) (hl : 0 ≤ l) (hl2 : l ≤ 4611686018427387904) : life_most.f t s l = some (decide (t * s ≤ l)) := by
  have q0 : 0 ≤ l / s := Int.ediv_nonneg hl (by omega)
  have q1 : l / s ≤ l := Int.ediv_le_self s hl
  unfold life_most.f
  rw [mx_one hs, if_neg (by omega), Int.tdiv_eq_ediv_of_nonneg hl, wrap_in ⟨by omega, by omega⟩]
  simp only [tdiv_le hs]
theorem least_val {t s l : Int} (hs : 1 ≤ s) (hl : 0 ≤ l) (hl2 : l ≤ 4611686018427387904) : life_least.f t s l = some (decide (l ≤ t * s)) := by
  have q0 : 0 ≤ l / s := Int.ediv_nonneg hl (by omega)
  have q1 : l / s ≤ l := Int.ediv_le_self s hl
  have hd : s * (l / s) + l % s = l := Int.mul_ediv_add_emod l s
  have r0 : 0 ≤ l % s := Int.emod_nonneg l (by omega)
  have r1 : l % s < s := Int.emod_lt_of_pos l (by omega)
  unfold life_least.f
  rw [mx_one hs, if_neg (by omega), Int.tdiv_eq_ediv_of_nonneg hl, Int.tmod_eq_emod_of_nonneg hl]
  generalize l / s = q at *
  generalize l % s = r at *
  rw [wrap_in (x := q) ⟨by omega, by omega⟩, wrap_in (x := q + 1) ⟨by omega, by omega⟩]
  have up : ∀ x y : Int, x ≤ y → x * s ≤ y * s := fun x y h => Int.mul_le_mul_of_nonneg_right h (by omega)
  have hc : q * s = s * q := Int.mul_comm _ _
  have hc1 : (q + 1) * s = s * q + s := by rw [Int.add_mul, Int.mul_comm]; omega
  by_cases hr : r > 0
  · rw [if_pos hr]
    congr 1
    simp only [decide_eq_decide]
    constructor
    · intro h; have := up _ _ h; omega
    · intro h
      apply Int.not_lt.1; intro h2
      have := up t q (by omega)
      omega
  · rw [if_neg hr]
    congr 1
    simp only [decide_eq_decide]
    constructor
    · intro h; have := up _ _ h; omega
    · intro h
      apply Int.not_lt.1; intro h2
      have := up (t + 1) q (by omega)
      rw [Int.add_mul] at this
      omega
/-- A step of the life, as plain data: state, since, last. -/
def nx (s f k t : Int) (h : Bool) (l : Int × Int × Int) : Int × Int × Int :=
  if h = true then
    (if l.1 = 0 then (if f ≤ 0 then (2, t, t) else (1, t, t))
     else if l.1 = 1 then (if f ≤ (t - l.2.1) * s then (2, l.2.1, t) else (1, l.2.1, t))
     else (2, l.2.1, t))
  else if l.1 = 2 ∧ (t - l.2.2) * s ≤ k then l else (0, 0, 0)
def Fits (t : Int) (l : Int × Int × Int) : Prop := (l.1 = 0 ∨ l.1 = 1 ∨ l.1 = 2) ∧ 0 ≤ l.2.1 ∧ l.2.1 ≤ t ∧ 0 ≤ l.2.2 ∧ l.2.2 ≤ t
def Par (s f k : Int) : Prop := 1 ≤ s ∧ 0 ≤ f ∧ f ≤ 4611686018427387904 ∧ 0 ≤ k ∧ k ≤ 4611686018427387904
theorem next_val {s f k t : Int} (hp : Par s f k) (h : Bool) {l : Int × Int × Int} (hl : Fits t l) (ht : t ≤ 1000000) (m : Nat) (hm : 0 < m) :
    life_Life_Next.f m l.1 l.2.1 l.2.2 t s f k h = some (nx s f k t h l) := by
  obtain ⟨m, rfl⟩ : ∃ n, m = n + 1 := ⟨m - 1, by omega⟩
  obtain ⟨s1, f0, f1, k0, k1⟩ := hp
  obtain ⟨st, si, la⟩ := l
  obtain ⟨h1, h2, h3, h4, h5⟩ := hl
  simp only at h1 h2 h3 h4 h5
  have w1 : wrap64 (t - la) = t - la := wrap_in ⟨by omega, by omega⟩
  have w2 : wrap64 (t - si) = t - si := wrap_in ⟨by omega, by omega⟩
  have w3 : wrap64 (t - t) = 0 := by rw [Int.sub_self]; exact wrap_in ⟨by omega, by omega⟩
  unfold life_Life_Next.f nx
  simp only [w1, w2, w3, life_Life_Next.j0, most_val s1 k0 k1, least_val s1 f0 f1, Option.bind_some, Int.zero_mul]
  cases h with
  | true =>
    rcases h1 with rfl | rfl | rfl
    · by_cases c : f ≤ 0 <;> simp [c]
    · by_cases c : f ≤ (t - si) * s <;> simp [c]
    · simp
  | false =>
    rcases h1 with rfl | rfl | rfl
    · simp
    · simp
    · by_cases c : (t - la) * s ≤ k <;> simp [c]
theorem nx_fits {s f k t : Int} (h : Bool) {l : Int × Int × Int} (h0 : 0 ≤ t) (hl : Fits t l) : Fits (t + 1) (nx s f k t h l) := by
  obtain ⟨h1, h2, h3, h4, h5⟩ := hl
  unfold nx
  repeat' split
  all_goals (refine ⟨?_, ?_, ?_, ?_, ?_⟩ <;> first | (dsimp only; omega) | simp | omega)
/-- The states of a run from a tick on. -/
def runFrom (s f k : Int) : Int → Int × Int × Int → List Bool → List Int
  | _, _, [] => []
  | t, l, h :: hs => (nx s f k t h l).1 :: runFrom s f k (t + 1) (nx s f k t h l) hs
theorem runFrom_length (s f k : Int) (hs : List Bool) : ∀ t l, (runFrom s f k t l hs).length = hs.length := by
  induction hs with
  | nil => intro t l; rfl
  | cons h hs ih => intro t l; simp [runFrom, ih]
theorem rdOf_at {α : Type} {z : α} {xs : List α} {j : Nat} (h : j < xs.length) : rdOf z xs (j : Int) = xs[j] := by simp [rdOf, h]
theorem run_l0 {s f k : Int} (hp : Par s f k) (hs : List Bool) (hn : hs.length ≤ 1000000) (d : Nat) : ∀ (m : Nat) (acc : List Int) (j : Nat) (l : Int × Int × Int), j ≤ hs.length → hs.length - j = d → d + 2 < m → acc.length = j → Fits (j : Int) l →
    life_Run.l0 m s f k acc hs (hs.length : Int) (j : Int) l.1 l.2.1 l.2.2 = some (acc ++ runFrom s f k (j : Int) l (hs.drop j)) := by
  induction d with
  | zero =>
    intro m acc j l h1 h2 h3 h4 h5
    obtain ⟨m, rfl⟩ : ∃ n, m = n + 1 := ⟨m - 1, by omega⟩
    have : j = hs.length := by omega
    subst this
    simp only [life_Run.l0]
    rw [if_neg (by omega), List.drop_length]; simp [runFrom]
  | succ d ih =>
    intro m acc j l h1 h2 h3 h4 h5
    obtain ⟨m, rfl⟩ : ∃ n, m = n + 1 := ⟨m - 1, by omega⟩
    have hlt : j < hs.length := by omega
    simp only [life_Run.l0]
    rw [if_pos (by omega), if_pos (by omega), if_pos (by omega), rdOf_at hlt, next_val hp _ h5 (by omega) m (by omega), List.drop_eq_getElem_cons hlt]
    simp only [Option.bind_some]
    rw [if_pos (by omega)]
    have hw : wrap64 ((j : Int) + 1) = ((j + 1 : Nat) : Int) := by rw [wrap_in ⟨by omega, by omega⟩]; rfl
    rw [hw]
    have hf : Fits ((j + 1 : Nat) : Int) (nx s f k (j : Int) hs[j] l) := by
      have := nx_fits (s := s) (f := f) (k := k) hs[j] (show (0 : Int) ≤ (j : Int) by omega) h5
      simpa using this
    rw [ih m _ (j + 1) _ (by omega) (by omega) (by omega) (by simp [h4]) hf]
    simp [runFrom]
theorem run_val {s f k : Int} (hp : Par s f k) (hs : List Bool) (hn : hs.length ≤ 1000000) (m : Nat) (hm : hs.length + 3 ≤ m) :
    life_Run.f m s f k hs = some (runFrom s f k 0 (0, 0, 0) hs) := by
  have := run_l0 hp hs hn hs.length m [] 0 (0, 0, 0) (by omega) (by omega) (by omega) rfl ⟨by simp, by simp, by simp, by simp, by simp⟩
  simpa [life_Run.f] using this
theorem rd_at {xs : List Int} {j : Nat} (h : j < xs.length) : rd xs (j : Int) = xs[j] := by simp [rd, h]

theorem runs_true (k : Nat) (hk : 60 ≤ k) : klaxonlaw12_LifeRuns.f k = some true := at_rounds klaxonlaw12_LifeRuns.mono (k := 60) hk (by decide +kernel)
/-- The second is at least as far as the first. -/
def Rel (l1 l2 : Int × Int × Int) : Prop :=
  (l1.1 = 2 → l2.1 = 2 ∧ l2.2.2 = l1.2.2) ∧ (l1.1 = 1 → (l2.1 = 2 ∧ l2.2.2 = l1.2.2) ∨ l2 = l1) ∧ (l1.1 = 0 → l2.1 = 0 ∨ l2.1 = 2) ∧ (l1.1 = 0 ∨ l1.1 = 1 ∨ l1.1 = 2) ∧ (l1.1 = 1 → l1.2.2 < 1000000)
theorem rel_step {s f1 f2 k1 k2 t : Int} (hf : f2 ≤ f1) (hk : k1 ≤ k2) (ht : t < 1000000) (h : Bool) {l1 l2 : Int × Int × Int} (r : Rel l1 l2) : Rel (nx s f1 k1 t h l1) (nx s f2 k2 t h l2) := by
  obtain ⟨a1, b1, c1⟩ := l1
  obtain ⟨a2, b2, c2⟩ := l2
  obtain ⟨r1, r2, r3, r4, r5⟩ := r
  simp only at r1 r2 r3 r4
  unfold nx Rel
  cases h with
  | true =>
    rcases r4 with rfl | rfl | rfl
    · rcases r3 rfl with rfl | rfl
      · by_cases e1 : f1 ≤ 0
        · have e2 : f2 ≤ 0 := by omega
          simp [e1, e2]
        · by_cases e2 : f2 ≤ 0 <;> simp [e1, e2, ht]
      · by_cases e1 : f1 ≤ 0 <;> simp [e1, ht]
    · rcases r2 rfl with ⟨rfl, rfl⟩ | h2
      · by_cases e1 : f1 ≤ (t - b1) * s <;> simp [e1, ht]
      · obtain ⟨rfl, rfl, rfl⟩ : a2 = 1 ∧ b2 = b1 ∧ c2 = c1 := by simpa using h2
        by_cases e1 : f1 ≤ (t - b2) * s
        · have e2 : f2 ≤ (t - b2) * s := by omega
          simp [e1, e2]
        · by_cases e2 : f2 ≤ (t - b2) * s <;> simp [e1, e2, ht]
    · obtain ⟨rfl, rfl⟩ := r1 rfl
      simp
  | false =>
    rcases r4 with rfl | rfl | rfl
    · rcases r3 rfl with rfl | rfl
      · simp
      · by_cases e2 : (t - c2) * s ≤ k2 <;> simp [e2]
    · rcases r2 rfl with ⟨rfl, rfl⟩ | h2
      · by_cases e2 : (t - c2) * s ≤ k2 <;> simp [e2]
      · obtain ⟨rfl, rfl, rfl⟩ : a2 = 1 ∧ b2 = b1 ∧ c2 = c1 := by simpa using h2
        simp
    · obtain ⟨rfl, rfl⟩ := r1 rfl
      by_cases e1 : (t - c2) * s ≤ k1
      · have e2 : (t - c2) * s ≤ k2 := by omega
        simp [e1, e2]
      · by_cases e2 : (t - c2) * s ≤ k2 <;> simp [e1, e2]
theorem rel_run {s f1 f2 k1 k2 : Int} (hf : f2 ≤ f1) (hk : k1 ≤ k2) (hs : List Bool) : ∀ (t : Int) (l1 l2 : Int × Int × Int), t + hs.length < 1000000 → Rel l1 l2 → ∀ j, (runFrom s f1 k1 t l1 hs).getD j 0 = 2 → (runFrom s f2 k2 t l2 hs).getD j 0 = 2 := by
  induction hs with
  | nil => intro t l1 l2 _ _ j hj; simp [runFrom] at hj
  | cons h hs ih =>
    intro t l1 l2 ht r j hj
    have hr := rel_step (s := s) hf hk (t := t) (by simp at ht; omega) h r
    cases j with
    | zero =>
      simp only [runFrom, List.getD_cons_zero] at hj ⊢
      exact (hr.1 hj).1
    | succ j =>
      simp only [runFrom, List.getD_cons_succ] at hj ⊢
      exact ih (t + 1) _ _ (by simp at ht; omega) hr j hj
theorem range_run {s f k : Int} (hs : List Bool) : ∀ (t : Int) (l : Int × Int × Int), 0 ≤ t → Fits t l → ∀ j, 0 ≤ (runFrom s f k t l hs).getD j 0 ∧ (runFrom s f k t l hs).getD j 0 ≤ 2 ∧ (hs.getD j false = true → (runFrom s f k t l hs).getD j 0 ≠ 0) := by
  induction hs with
  | nil => intro t l _ _ j; simp [runFrom]
  | cons h hs ih =>
    intro t l ht r j
    have hr := nx_fits (s := s) (f := f) (k := k) h ht r
    cases j with
    | zero =>
      simp only [runFrom, List.getD_cons_zero]
      refine ⟨by rcases hr.1 with e | e | e <;> omega, by rcases hr.1 with e | e | e <;> omega, ?_⟩
      rintro rfl
      unfold nx
      simp only [if_true]
      repeat' split
      all_goals simp
    | succ j =>
      simp only [runFrom, List.getD_cons_succ]
      exact ih (t + 1) _ (by omega) hr j
theorem all_run {s f k : Int} (h1 : 1 ≤ s) (n : Nat) : ∀ (t : Int) (l : Int × Int × Int), 1 ≤ t → l = (if f ≤ (t - 1) * s then 2 else 1, 0, t - 1) → ∀ j, j < n → (runFrom s f k t l (List.replicate n true)).getD j 0 = if f ≤ (t + j) * s then 2 else 1 := by
  induction n with
  | zero => intro t l _ _ j hj; omega
  | succ n ih =>
    intro t l ht hl j hj
    have up : (t - 1) * s ≤ t * s := Int.mul_le_mul_of_nonneg_right (by omega) (by omega)
    have hn : nx s f k t true l = (if f ≤ t * s then 2 else 1, 0, t) := by
      subst hl
      unfold nx
      by_cases e : f ≤ (t - 1) * s
      · have e2 : f ≤ t * s := by omega
        simp [e, e2]
      · by_cases e2 : f ≤ t * s <;> simp [e, e2]
    rw [List.replicate_succ]
    cases j with
    | zero => simp only [runFrom, List.getD_cons_zero, hn]; simp
    | succ j =>
      simp only [runFrom, List.getD_cons_succ]
      rw [ih (t + 1) _ (by omega) (by have e : t + 1 - 1 = t := (by omega); rw [hn, e]) j (by omega)]
      have : t + 1 + (j : Int) = t + ((j + 1 : Nat) : Int) := by omega
      rw [this]
theorem all_run0 {s f k : Int} (h1 : 1 ≤ s) (n j : Nat) (hj : j < n) : (runFrom s f k 0 (0, 0, 0) (List.replicate n true)).getD j 0 = if f ≤ (j : Int) * s then 2 else 1 := by
  obtain ⟨n, rfl⟩ : ∃ m, n = m + 1 := ⟨n - 1, by omega⟩
  have hn : nx s f k 0 true (0, 0, 0) = (if f ≤ ((1 : Int) - 1) * s then 2 else 1, 0, 1 - 1) := by
    unfold nx
    by_cases e : f ≤ 0 <;> simp [e]
  rw [List.replicate_succ]
  cases j with
  | zero => simp only [runFrom, List.getD_cons_zero, hn]; simp
  | succ j =>
    simp only [runFrom, List.getD_cons_succ]
    rw [all_run h1 n (0 + 1) _ (by omega) (by rw [hn]; rfl) j (by omega)]
    have : (0 : Int) + 1 + (j : Int) = ((j + 1 : Nat) : Int) := by omega
    rw [this]
theorem rd_getD (xs : List Int) (j : Nat) : rd xs (j : Int) = xs.getD j 0 := by simp [rd]
theorem l2_ {s f : Int} (h1 : 1 ≤ s) (hs9 : s ≤ 9) (xs : List Int) (hl : xs.length = 45) (hx : ∀ j, j < 45 → xs.getD j 0 = if f ≤ (j : Int) * s then 2 else 1) (d : Nat) : ∀ (k j : Nat), j ≤ 45 → 45 - j = d → d + 61 ≤ k →
    klaxonlaw12_LifeMore.l2 k s f xs (xs.length : Int) (j : Int) = some true := by
  induction d with
  | zero =>
    intro k j h1 h2 h3
    obtain ⟨k, rfl⟩ : ∃ m, k = m + 1 := ⟨k - 1, by omega⟩
    simp only [klaxonlaw12_LifeMore.l2]
    rw [if_neg (by omega), runs_true k (by omega)]; rfl
  | succ d ih =>
    intro k j g1 g2 g3
    obtain ⟨k, rfl⟩ : ∃ m, k = m + 1 := ⟨k - 1, by omega⟩
    simp only [klaxonlaw12_LifeMore.l2]
    have hw : wrap64 ((j : Int) + 1) = ((j + 1 : Nat) : Int) := by rw [wrap_in ⟨by omega, by omega⟩]; rfl
    have b0 : 0 ≤ (j : Int) * s := Int.mul_nonneg (by omega) (by omega)
    have b1 : (j : Int) * s ≤ 45 * 9 := Int.mul_le_mul (by omega) hs9 (by omega) (by omega)
    have hw2 : wrap64 ((j : Int) * s) = (j : Int) * s := wrap_in ⟨by omega, by omega⟩
    rw [if_pos (by omega), if_pos (by omega), if_pos (by omega), hw, hw2, rd_getD, hx j (by omega), ih k (j + 1) (by omega) (by omega) (by omega)]
    by_cases e : f ≤ (j : Int) * s <;> simp [e]
theorem set_all (j d : Nat) : (List.replicate j true ++ List.replicate (d + 1) false).set j true = List.replicate (j + 1) true ++ List.replicate d false := by
  have e : (List.replicate (d + 1) false).set 0 true = true :: List.replicate d false := by rw [List.replicate_succ]; rfl
  rw [List.set_append_right _ _ (by simp), List.length_replicate, Nat.sub_self, e, List.replicate_succ', List.append_assoc]
  rfl
theorem l1_ {s f kp : Int} (h1 : 1 ≤ s) (hs9 : s ≤ 9) (hp : Par s f kp) (d : Nat) : ∀ (k j : Nat), j + d = 45 → d + 120 ≤ k →
    klaxonlaw12_LifeMore.l1 k s f kp (List.replicate j true ++ List.replicate d false) 45 (j : Int) = some true := by
  induction d with
  | zero =>
    intro k j g1 g2
    obtain ⟨k, rfl⟩ : ∃ m, k = m + 1 := ⟨k - 1, by omega⟩
    have : j = 45 := by omega
    subst this
    simp only [klaxonlaw12_LifeMore.l1]
    rw [if_neg (by omega), List.replicate_zero, List.append_nil, run_val hp _ (by simp) k (by simp; omega)]
    simp only [Option.bind_some]
    have hl : (runFrom s f kp 0 (0, 0, 0) (List.replicate 45 true)).length = 45 := by rw [runFrom_length, List.length_replicate]
    rw [if_pos (by omega)]
    exact l2_ h1 hs9 _ hl (fun j hj => all_run0 h1 45 j hj) 45 k 0 (by omega) (by omega) (by omega)
  | succ d ih =>
    intro k j g1 g2
    obtain ⟨k, rfl⟩ : ∃ m, k = m + 1 := ⟨k - 1, by omega⟩
    simp only [klaxonlaw12_LifeMore.l1]
    have hw : wrap64 ((j : Int) + 1) = ((j + 1 : Nat) : Int) := by rw [wrap_in ⟨by omega, by omega⟩]; rfl
    rw [if_pos (by omega), if_pos (by omega), if_pos (by simp; omega), hw, Int.toNat_natCast, set_all]
    exact ih k (j + 1) (by omega) (by omega)
theorem l0_ {s f kp : Int} (h1 : 1 ≤ s) (hs9 : s ≤ 9) (hp : Par s f kp) (own : List Bool) (a b c : List Int) (hn : own.length ≤ 1000) (ha : a.length = own.length) (hb : b.length = own.length) (hc : c.length = own.length)
    (hab : ∀ j, a.getD j 0 = 2 → b.getD j 0 = 2) (hca : ∀ j, c.getD j 0 = 2 → a.getD j 0 = 2) (hr : ∀ j, 0 ≤ a.getD j 0 ∧ a.getD j 0 ≤ 2 ∧ (own.getD j false = true → a.getD j 0 ≠ 0))
    (d : Nat) : ∀ (k j : Nat), j ≤ own.length → own.length - j = d → d + 170 ≤ k →
    klaxonlaw12_LifeMore.l0 k own s f kp a b c (a.length : Int) (j : Int) = some true := by
  induction d with
  | zero =>
    intro k j g1 g2 g3
    obtain ⟨k, rfl⟩ : ∃ m, k = m + 1 := ⟨k - 1, by omega⟩
    simp only [klaxonlaw12_LifeMore.l0]
    rw [if_neg (by omega), if_pos (by omega)]
    have := l1_ h1 hs9 hp 45 k 0 (by omega) (by omega)
    simpa using this
  | succ d ih =>
    intro k j g1 g2 g3
    obtain ⟨k, rfl⟩ : ∃ m, k = m + 1 := ⟨k - 1, by omega⟩
    simp only [klaxonlaw12_LifeMore.l0]
    have hw : wrap64 ((j : Int) + 1) = ((j + 1 : Nat) : Int) := by rw [wrap_in ⟨by omega, by omega⟩]; rfl
    have hi := ih k (j + 1) (by omega) (by omega) (by omega)
    rw [if_pos (by omega), if_pos (by omega), if_pos (by omega), hw, rd_getD, rd_getD, rd_getD]
    have e1 : (j : Int) < (b.length : Int) := by omega
    have e2 : (j : Int) < (c.length : Int) := by omega
    have e3 : (j : Int) < (own.length : Int) := by omega
    have h0 := hab j
    have h2 := hca j
    obtain ⟨h3, h4, h5⟩ := hr j
    have hd : rdOf false own (j : Int) = own.getD j false := by simp [rdOf]
    rw [hd]
    have e4 : ¬ a.getD j 0 < 0 := by omega
    have e5 : ¬ a.getD j 0 > 2 := by omega
    simp only [e1, e2, e3, e4, e5, if_true, if_false, hi]
    by_cases p : a.getD j 0 = 2 <;> by_cases q : c.getD j 0 = 2 <;> cases o : own.getD j false
    all_goals simp_all
theorem own_length (l0 : List Bool) (n : Int) (hn : 0 ≤ n) : ∃ own : List Bool, own = ([] : List Bool) ++ l0.take (mn (l0.length : Int) n).toNat ∧ (own.length : Int) ≤ n ∧ 0 ≤ mn (l0.length : Int) n ∧ mn (l0.length : Int) n ≤ (l0.length : Int) := by
  have h : 0 ≤ mn (l0.length : Int) n ∧ mn (l0.length : Int) n ≤ (l0.length : Int) ∧ mn (l0.length : Int) n ≤ n := by unfold mn; split <;> omega
  refine ⟨_, rfl, ?_, h.1, h.2.1⟩
  simp only [List.nil_append, List.length_take]
  omega
theorem LifeMore (l0 : List Bool) (a1 a2 a3 a4 : Int) : ∃ k, klaxonlaw12_LifeMore.f k l0 a1 a2 a3 a4 = some true := by
  refine ⟨400, ?_⟩
  obtain ⟨own, ho, hlen, m0, m1⟩ := own_length l0 40 (by omega)
  obtain ⟨s, hs, s0, s1⟩ := within_some (n := a1) (lo := 1) (hi := 9) (by omega) (by omega) (by omega) (by omega)
  obtain ⟨f, hf, f0, f1⟩ := within_some (n := a2) (lo := 0) (hi := 40) (by omega) (by omega) (by omega) (by omega)
  obtain ⟨kp, hk, k0, k1⟩ := within_some (n := a3) (lo := 0) (hi := 40) (by omega) (by omega) (by omega) (by omega)
  obtain ⟨n, hn, n0, n1⟩ := within_some (n := a4) (lo := 0) (hi := 30) (by omega) (by omega) (by omega) (by omega)
  unfold klaxonlaw12_LifeMore.f
  simp only [Option.bind_some]
  have hlt : ([] : List Bool).length + (l0.take (mn (l0.length : Int) 40).toNat).length < 140737488355328 := by
    have : own.length = (l0.take (mn (l0.length : Int) 40).toNat).length := by rw [ho]; simp
    rw [← this]; simp; omega
  rw [if_pos m0, if_pos m1, if_pos hlt, ← ho, hs, hf, hk, hn]
  have w2 : wrap64 (kp + n) = kp + n := wrap_in ⟨by omega, by omega⟩
  have w3 : wrap64 (f + n) = f + n := wrap_in ⟨by omega, by omega⟩
  simp only [Option.bind_some, w2, w3]
  rw [run_val (s := s) (f := f) (k := kp) ⟨by omega, by omega, by omega, by omega, by omega⟩ own (by omega) 400 (by omega),
    run_val (s := s) (f := f) (k := kp + n) ⟨by omega, by omega, by omega, by omega, by omega⟩ own (by omega) 400 (by omega),
    run_val (s := s) (f := f + n) (k := kp) ⟨by omega, by omega, by omega, by omega, by omega⟩ own (by omega) 400 (by omega)]
  simp only [Option.bind_some, runFrom_length, if_true]
  have ne : (((own.length : Nat) : Int) != ((own.length : Nat) : Int)) = false := by simp
  rw [ne]
  have r0 : Rel (0, 0, 0) (0, 0, 0) := ⟨fun h => by simp at h, fun h => by simp at h, fun _ => .inl rfl, .inl rfl, fun h => by simp at h⟩
  have fit : Fits 0 (0, 0, 0) := ⟨by simp, by simp, by simp, by simp, by simp⟩
  have := l0_ s0 s1 (s := s) (f := f) (kp := kp) ⟨by omega, by omega, by omega, by omega, by omega⟩ own (runFrom s f kp 0 (0, 0, 0) own) (runFrom s f (kp + n) 0 (0, 0, 0) own) (runFrom s (f + n) kp 0 (0, 0, 0) own) (by omega)
    (runFrom_length _ _ _ _ _ _) (runFrom_length _ _ _ _ _ _) (runFrom_length _ _ _ _ _ _)
    (rel_run (by omega) (by omega) own 0 _ _ (by omega) r0) (rel_run (by omega) (by omega) own 0 _ _ (by omega) r0) (range_run own 0 _ (by omega) fit) own.length 399 0 (by omega) (by omega) (by omega)
  simp only [klaxonlaw12_LifeMore.j0, Bool.false_eq_true, if_false]
  simpa [runFrom_length] using this

end Go.Proofs.Ytkppbflmlpabjaa.Pure
