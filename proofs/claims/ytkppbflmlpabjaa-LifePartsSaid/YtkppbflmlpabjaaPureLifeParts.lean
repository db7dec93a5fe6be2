/- For every list of bools and every five ints LifeParts returns true, said of the printed functions. No condition. -/
import Derived.Test.YtkppbflmlpabjaaMLifePartsx4
namespace Go.Proofs.Ytkppbflmlpabjaa.Pure
open Go.RowKit Go.Proofs.Ytkppbflmlpabjaa.PLifeParts Go.Proofs.YtkppbflmlpabjaaW.PrintWords Go.Proofs.YtkppbflmlpabjaaW.PrintLast Go.Proofs.YtkppbflmlpabjaaW.PrintMore
set_option linter.unusedVariables false
set_option linter.unusedSimpArgs false

def inr (x : Int) : Prop := -9223372036854775808 ≤ x ∧ x ≤ 9223372036854775807
instance (x : Int) : Decidable (inr x) := by unfold inr; infer_instance
theorem wrap_in {x : Int} (h : inr x) : wrap64 x = x := by unfold inr at h; unfold wrap64; omega
theorem wrap_inr (x : Int) : inr (wrap64 x) := by unfold inr wrap64; omega
theorem wrap_ex (x : Int) : ∃ m : Int, wrap64 x = x + 18446744073709551616 * m := ⟨-((x + 9223372036854775808) / 18446744073709551616), by unfold wrap64; omega⟩
theorem tmod_lt (p a : Int) : (0 < a → -a < Int.tmod p a ∧ Int.tmod p a < a) ∧ (a < 0 → a < Int.tmod p a ∧ Int.tmod p a < -a) := by
  refine ⟨fun h => ⟨Int.lt_tmod_of_pos p h, Int.tmod_lt_of_pos p h⟩, fun h => ?_⟩
  have h1 := Int.lt_tmod_of_pos p (show 0 < -a by omega)
  have h2 := Int.tmod_lt_of_pos p (show 0 < -a by omega)
  rw [Int.tmod_neg] at h1 h2
  omega
theorem mul_key {a b : Int} (ha : inr a) (hb : inr b) (h0 : a ≠ 0) (hn : ¬ (a = -1 ∧ b = -9223372036854775808)) :
    wrap64 (Int.tdiv (wrap64 (a * b)) a) = b ↔ inr (a * b) := by
  constructor
  · intro h
    obtain ⟨m, hm⟩ := wrap_ex (a * b)
    have hp := wrap_inr (a * b)
    have hd := Int.mul_tdiv_add_tmod (wrap64 (a * b)) a
    have ht := tmod_lt (wrap64 (a * b)) a
    have hq : (Int.tdiv (wrap64 (a * b)) a).natAbs ≤ (wrap64 (a * b)).natAbs := Int.natAbs_tdiv_le_natAbs _ _
    generalize Int.tmod (wrap64 (a * b)) a = r at *
    generalize hqq : Int.tdiv (wrap64 (a * b)) a = q at *
    generalize hpp : wrap64 (a * b) = p at *
    by_cases e : q = 9223372036854775808
    · subst e
      have hw : wrap64 9223372036854775808 = -9223372036854775808 := by unfold wrap64; omega
      rw [hw] at h
      unfold inr at *
      exfalso
      rcases Int.lt_or_gt_of_ne h0 with hl | hg
      · have := ht.2 hl; omega
      · have := ht.1 hg; omega
    · have hqi : inr q := by unfold inr at *; omega
      rw [wrap_in hqi] at h
      subst h
      unfold inr at *
      rcases Int.lt_or_gt_of_ne h0 with hl | hg
      · have := ht.2 hl; omega
      · have := ht.1 hg; omega
  · intro h
    rw [wrap_in h, Int.mul_tdiv_cancel_left b h0, wrap_in hb]
theorem wf_inr {n : Int} (h : (Go.Lit.int .i64 n).wf = true) : inr n := by
  simp [Go.Lit.wf, Go.IntKind.min, Go.IntKind.max, Go.IntKind.signed, Go.IntKind.bits] at h
  unfold inr; omega

theorem tmod_emod (n m : Int) (hm : 0 < m) : (if Int.tmod n m < 0 then Int.tmod n m + m else Int.tmod n m) = n % m := by
  have hd := Int.mul_tdiv_add_tmod n m
  have ht := (tmod_lt n m).1 hm
  have he : n % m = Int.tmod n m % m := by
    conv => lhs; rw [← hd]
    rw [Int.add_comm, Int.add_mul_emod_self_left]
  rw [he]
  split
  · rename_i h
    rw [← Int.add_emod_right (Int.tmod n m) m, Int.emod_eq_of_lt (by omega) (by omega)]
  · rename_i h
    rw [Int.emod_eq_of_lt (by omega) (by omega)]
/-- A number brought into lo .. hi. -/
theorem within_val {n lo hi : Int} (h1 : -4611686018427387904 ≤ lo) (h2 : lo ≤ hi) (h3 : hi ≤ 4611686018427387903) (h4 : hi - lo ≤ 4611686018427387902) : klaxonbook_Within.f n lo hi = some (lo + n % (hi - lo + 1)) := by
  unfold klaxonbook_Within.f
  have w1 : wrap64 (hi - lo) = hi - lo := wrap_in ⟨by omega, by omega⟩
  have w2 : wrap64 (hi - lo + 1) = hi - lo + 1 := wrap_in ⟨by omega, by omega⟩
  have he := tmod_emod n (hi - lo + 1) (by omega)
  have ht := (tmod_lt n (hi - lo + 1)).1 (by omega)
  rw [w1, w2, if_neg (by omega)]
  generalize Int.tmod n (hi - lo + 1) = t at *
  generalize n % (hi - lo + 1) = v at *
  by_cases hneg : t < 0
  · rw [if_pos hneg] at he ⊢
    have a1 : wrap64 (t + hi) = t + hi := wrap_in ⟨by omega, by omega⟩
    have a2 : wrap64 (t + hi - lo) = t + hi - lo := wrap_in ⟨by omega, by omega⟩
    have a3 : wrap64 (t + hi - lo + 1) = t + hi - lo + 1 := wrap_in ⟨by omega, by omega⟩
    have a4 : wrap64 (lo + (t + hi - lo + 1)) = lo + (t + hi - lo + 1) := wrap_in ⟨by omega, by omega⟩
    rw [a1, a2, a3, a4, ← he]
    congr 1; omega
  · rw [if_neg hneg] at he ⊢
    have a4 : wrap64 (lo + t) = lo + t := wrap_in ⟨by omega, by omega⟩
    rw [a4, he]
theorem within_some {n lo hi : Int} (h1 : -4611686018427387904 ≤ lo) (h2 : lo ≤ hi) (h3 : hi ≤ 4611686018427387903) (h4 : hi - lo ≤ 4611686018427387902) : ∃ r, klaxonbook_Within.f n lo hi = some r ∧ lo ≤ r ∧ r ≤ hi := by
  refine ⟨_, within_val h1 h2 h3 h4, ?_⟩
  have e1 := Int.emod_nonneg n (show hi - lo + 1 ≠ 0 by omega)
  have e2 := Int.emod_lt_of_pos n (show 0 < hi - lo + 1 by omega)
  omega

theorem tdiv_le {t s l : Int} (hs : 1 ≤ s) : t ≤ l / s ↔ t * s ≤ l := Int.le_ediv_iff_mul_le (by omega)
theorem mx_one {s : Int} (hs : 1 ≤ s) : mx s 1 = s := by unfold mx; split <;> omega
theorem most_val {t s l : Int} (hs : 1 ≤ s) (hl : 0 ≤ l) (hl2 : l ≤ 4611686018427387904) : life_most.f t s l = some (decide (t * s ≤ l)) := by
  have q0 : 0 ≤ l / s := Int.ediv_nonneg hl (by omega)
  have q1 : l / s ≤ l := Int.ediv_le_self s hl
  unfold life_most.f
  rw [mx_one hs, if_neg (by omega), Int.tdiv_eq_ediv_of_nonneg hl, wrap_in ⟨by omega, by omega⟩]
  simp only [tdiv_le hs]
theorem least_val {t s l : Int} (hs : 1 ≤ s) (hl : 0 ≤ l) (hl2 : l ≤ 4611686018427387904) : life_least.f t s l = some (decide (l ≤ t * s)) := by
  have q0 : 0 ≤ l / s := Int.ediv_nonneg hl (by omega)
  have q1 : l / s ≤ l := Int.ediv_le_self s hl
  have hd : s * (l / s) + l % s = l := Int.mul_ediv_add_emod l s
  have r0 : 0 ≤ l % s := Int.emod_nonneg l (by omega)
  have r1 : l % s < s := Int.emod_lt_of_pos l (by omega)
  unfold life_least.f
  rw [mx_one hs, if_neg (by omega), Int.tdiv_eq_ediv_of_nonneg hl, Int.tmod_eq_emod_of_nonneg hl]
  generalize l / s = q at *
  generalize l % s = r at *
  rw [wrap_in (x := q) ⟨by omega, by omega⟩, wrap_in (x := q + 1) ⟨by omega, by omega⟩]
  have up : ∀ x y : Int, x ≤ y → x * s ≤ y * s := fun x y h => Int.mul_le_mul_of_nonneg_right h (by omega)
  have hc : q * s = s * q := Int.mul_comm _ _
  have hc1 : (q + 1) * s = s * q + s := by rw [Int.add_mul, Int.mul_comm]; omega
  by_cases hr : r > 0
  · rw [if_pos hr]
    congr 1
    simp only [decide_eq_decide]
    constructor
    · intro h; have := up _ _ h; omega
    · intro h
      apply Int.not_lt.1; intro h2
      have := up t q (by omega)
      omega
  · rw [if_neg hr]
    congr 1
    simp only [decide_eq_decide]
    constructor
    · intro h; have := up _ _ h; omega
    · intro h
      apply Int.not_lt.1; intro h2
      have := up (t + 1) q (by omega)
      rw [Int.add_mul] at this
      omega
/-- A step of the life, as plain data: state, since, last. -/
def nx (s f k t : Int) (h : Bool) (l : Int × Int × Int) : Int × Int × Int :=
  if h = true then
    (if l.1 = 0 then (if f ≤ 0 then (2, t, t) else (1, t, t))
     else if l.1 = 1 then (if f ≤ (t - l.2.1) * s then (2, l.2.1, t) else (1, l.2.1, t))
     else (2, l.2.1, t))
  else if l.1 = 2 ∧ (t - l.2.2) * s ≤ k then l else (0, 0, 0)
def Fits (t : Int) (l : Int × Int × Int) : Prop := (l.1 = 0 ∨ l.1 = 1 ∨ l.1 = 2) ∧ 0 ≤ l.2.1 ∧ l.2.1 ≤ t ∧ 0 ≤ l.2.2 ∧ l.2.2 ≤ t
def Par (s f k : Int) : Prop := 1 ≤ s ∧ 0 ≤ f ∧ f ≤ 4611686018427387904 ∧ 0 ≤ k ∧ k ≤ 4611686018427387904
theorem next_val {s f k t : Int} (hp : Par s f k) (h : Bool) {l : Int × Int × Int} (hl : Fits t l) (ht : t ≤ 1000000) (m : Nat) (hm : 0 < m) :
    life_Life_Next.f m l.1 l.2.1 l.2.2 t s f k h = some (nx s f k t h l) := by
  obtain ⟨m, rfl⟩ : ∃ n, m = n + 1 := ⟨m - 1, by omega⟩
  obtain ⟨s1, f0, f1, k0, k1⟩ := hp
  obtain ⟨st, si, la⟩ := l
  obtain ⟨h1, h2, h3, h4, h5⟩ := hl
  simp only at h1 h2 h3 h4 h5
  have w1 : wrap64 (t - la) = t - la := wrap_in ⟨by omega, by omega⟩
  have w2 : wrap64 (t - si) = t - si := wrap_in ⟨by omega, by omega⟩
  have w3 : wrap64 (t - t) = 0 := by rw [Int.sub_self]; exact wrap_in ⟨by omega, by omega⟩
  unfold life_Life_Next.f nx
  simp only [w1, w2, w3, life_Life_Next.j0, most_val s1 k0 k1, least_val s1 f0 f1, Option.bind_some, Int.zero_mul]
  cases h with
  | true =>
    rcases h1 with rfl | rfl | rfl
    · by_cases c : f ≤ 0 <;> simp [c]
    · by_cases c : f ≤ (t - si) * s <;> simp [c]
    · simp
  | false =>
    rcases h1 with rfl | rfl | rfl
    · simp
    · simp
    · by_cases c : (t - la) * s ≤ k <;> simp [c]
theorem nx_fits {s f k t : Int} (h : Bool) {l : Int × Int × Int} (h0 : 0 ≤ t) (hl : Fits t l) : Fits (t + 1) (nx s f k t h l) := by
  obtain ⟨h1, h2, h3, h4, h5⟩ := hl
  unfold nx
  repeat' split
  all_goals (refine ⟨?_, ?_, ?_, ?_, ?_⟩ <;> first | (dsimp only; omega) | simp | omega)
/-- The states of a run from a tick on. -/
def runFrom (s f k : Int) : Int → Int × Int × Int → List Bool → List Int
  | _, _, [] => []
  | t, l, h :: hs => (nx s f k t h l).1 :: runFrom s f k (t + 1) (nx s f k t h l) hs
theorem runFrom_length (s f k : Int) (hs : List Bool) : ∀ t l, (runFrom s f k t l hs).length = hs.length := by
  induction hs with
  | nil => intro t l; rfl
  | cons h hs ih => intro t l; simp [runFrom, ih]
theorem rdOf_at {α : Type} {z : α} {xs : List α} {j : Nat} (h : j < xs.length) : rdOf z xs (j : Int) = xs[j] := by simp [rdOf, h]
theorem run_l0 {s f k : Int} (hp : Par s f k) (hs : List Bool) (hn : hs.length ≤ 1000000) (d : Nat) : ∀ (m : Nat) (acc : List Int) (j : Nat) (l : Int × Int × Int), j ≤ hs.length → hs.length - j = d → d + 2 < m → acc.length = j → Fits (j : Int) l →
    life_Run.l0 m s f k acc hs (hs.length : Int) (j : Int) l.1 l.2.1 l.2.2 = some (acc ++ runFrom s f k (j : Int) l (hs.drop j)) := by
  induction d with
  | zero =>
    intro m acc j l h1 h2 h3 h4 h5
    obtain ⟨m, rfl⟩ : ∃ n, m = n + 1 := ⟨m - 1, by omega⟩
    have : j = hs.length := by omega
    subst this
    simp only [life_Run.l0]
    rw [if_neg (by omega), List.drop_length]; simp [runFrom]
  | succ d ih =>
    intro m acc j l h1 h2 h3 h4 h5
    obtain ⟨m, rfl⟩ : ∃ n, m = n + 1 := ⟨m - 1, by omega⟩
    have hlt : j < hs.length := by omega
    simp only [life_Run.l0]
    rw [if_pos (by omega), if_pos (by omega), if_pos (by omega), rdOf_at hlt, next_val hp _ h5 (by omega) m (by omega), List.drop_eq_getElem_cons hlt]
    simp only [Option.bind_some]
    rw [if_pos (by omega)]
    have hw : wrap64 ((j : Int) + 1) = ((j + 1 : Nat) : Int) := by rw [wrap_in ⟨by omega, by omega⟩]; rfl
    rw [hw]
    have hf : Fits ((j + 1 : Nat) : Int) (nx s f k (j : Int) hs[j] l) := by
      have := nx_fits (s := s) (f := f) (k := k) hs[j] (show (0 : Int) ≤ (j : Int) by omega) h5
      simpa using this
    rw [ih m _ (j + 1) _ (by omega) (by omega) (by omega) (by simp [h4]) hf]
    simp [runFrom]
theorem run_val {s f k : Int} (hp : Par s f k) (hs : List Bool) (hn : hs.length ≤ 1000000) (m : Nat) (hm : hs.length + 3 ≤ m) :
    life_Run.f m s f k hs = some (runFrom s f k 0 (0, 0, 0) hs) := by
  have := run_l0 hp hs hn hs.length m [] 0 (0, 0, 0) (by omega) (by omega) (by omega) rfl ⟨by simp, by simp, by simp, by simp, by simp⟩
  simpa [life_Run.f] using this
theorem rd_at {xs : List Int} {j : Nat} (h : j < xs.length) : rd xs (j : Int) = xs[j] := by simp [rd, h]

theorem runs_true (k : Nat) (hk : 60 ≤ k) : klaxonlaw12_LifeRuns.f k = some true := at_rounds klaxonlaw12_LifeRuns.mono (k := 60) hk (by decide +kernel)
/-- The life behind some ticks. -/
def lifeAt (s f k : Int) : Int → Int × Int × Int → List Bool → Int × Int × Int
  | _, l, [] => l
  | t, l, h :: hs => lifeAt s f k (t + 1) (nx s f k t h l) hs
theorem lifeAt_snoc (s f k : Int) (hs : List Bool) (h : Bool) : ∀ t l, lifeAt s f k t l (hs ++ [h]) = nx s f k (t + hs.length) h (lifeAt s f k t l hs) := by
  induction hs with
  | nil => intro t l; simp [lifeAt]
  | cons x xs ih =>
    intro t l
    simp only [List.cons_append, lifeAt, ih]
    have : t + 1 + (xs.length : Int) = t + ((x :: xs).length : Int) := by simp; omega
    rw [this]
theorem lifeAt_fits {s f k : Int} (hs : List Bool) : ∀ t l, 0 ≤ t → Fits t l → Fits (t + hs.length) (lifeAt s f k t l hs) := by
  induction hs with
  | nil => intro t l h0 h; simpa [lifeAt] using h
  | cons x xs ih =>
    intro t l h0 h
    have := ih (t + 1) _ (by omega) (nx_fits (s := s) (f := f) (k := k) x h0 h)
    have e : t + 1 + (xs.length : Int) = t + ((x :: xs).length : Int) := by simp; omega
    rw [e] at this
    exact this
theorem run_get {s f k : Int} (hs : List Bool) : ∀ t l j, j < hs.length → (runFrom s f k t l hs).getD j 0 = (nx s f k (t + j) (hs.getD j false) (lifeAt s f k t l (hs.take j))).1 := by
  induction hs with
  | nil => intro t l j hj; simp at hj
  | cons x xs ih =>
    intro t l j hj
    cases j with
    | zero => simp [runFrom, lifeAt]
    | succ j =>
      simp only [runFrom, List.getD_cons_succ, List.take_succ_cons, lifeAt]
      rw [ih (t + 1) _ j (by simp at hj; omega)]
      have : t + 1 + (j : Int) = t + ((j + 1 : Nat) : Int) := by omega
      rw [this]
theorem take_snoc_getD (hs : List Bool) (j : Nat) (h : j < hs.length) : hs.take (j + 1) = hs.take j ++ [hs.getD j false] := by
  rw [List.take_succ_eq_append_getElem h]; simp [h]
def far (s f k : Int) (c : Nat) (own : List Bool) : Int × Int × Int := lifeAt s f k 0 (0, 0, 0) (own.take c)
theorem j2_ {s f kp : Int} (hp : Par s f kp) (k : Nat) (hk : 80 ≤ k) : klaxonlaw12_LifeParts.j2 k s f kp false = some true := by
  obtain ⟨k, rfl⟩ : ∃ n, k = n + 1 := ⟨k - 1, by omega⟩
  simp only [klaxonlaw12_LifeParts.j2, Bool.false_eq_true, if_false]
  rw [run_val hp [] (by simp) k (by simp; omega)]
  simp [runFrom, runs_true k (by omega)]
theorem l1_ {s f kp : Int} (hp : Par s f kp) (own : List Bool) (hn : own.length ≤ 30) (gap : Int) (c : Nat) (hc : c ≤ own.length) (d : Nat) : ∀ (k j : Nat), c ≤ j → j ≤ own.length → own.length - j = d → d + 100 ≤ k →
    klaxonlaw12_LifeParts.l1 k gap own s f kp (c : Int) (runFrom s f kp 0 (0, 0, 0) own) (j : Int) (far s f kp c own).1 (far s f kp c own).2.1 (far s f kp c own).2.2 (far s f kp j own).1 (far s f kp j own).2.1 (far s f kp j own).2.2 = some true := by
  induction d with
  | zero =>
    intro k j g0 g1 g2 g3
    obtain ⟨k, rfl⟩ : ∃ n, k = n + 1 := ⟨k - 1, by omega⟩
    simp only [klaxonlaw12_LifeParts.l1]
    rw [if_neg (by omega)]
    obtain ⟨r, hr, r0, r1⟩ := within_some (n := gap) (lo := 0) (hi := 60) (by omega) (by omega) (by omega) (by omega)
    have w1 : wrap64 ((c : Int) + 1) = (c : Int) + 1 := wrap_in ⟨by omega, by omega⟩
    have w2 : wrap64 ((c : Int) + 1 + r) = (c : Int) + 1 + r := wrap_in ⟨by omega, by omega⟩
    have hf0 : Fits ((c : Int) + 1 + r) (far s f kp c own) := by
      have h := lifeAt_fits (s := s) (f := f) (k := kp) (own.take c) 0 (0, 0, 0) (by omega) ⟨by simp, by simp, by simp, by simp, by simp⟩
      rw [List.length_take, Nat.min_eq_left hc] at h
      obtain ⟨h1, h2, h3, h4, h5⟩ := h
      unfold far
      exact ⟨h1, h2, by omega, h4, by omega⟩
    rw [hr]
    simp only [Option.bind_some, w1, w2]
    rw [next_val hp true hf0 (by omega) k (by omega), next_val hp false hf0 (by omega) k (by omega)]
    have hj := j2_ hp k (by omega)
    simp only [Option.bind_some]
    obtain ⟨h1, _⟩ := hf0
    generalize far s f kp c own = l at *
    obtain ⟨a, b, e⟩ := l
    simp only at h1 ⊢
    unfold nx
    rcases h1 with rfl | rfl | rfl
    · by_cases q : f ≤ 0 <;> simp [q, hj]
    · by_cases q : f ≤ ((c : Int) + 1 + r - b) * s <;> simp [q, hj]
    · by_cases q : ((c : Int) + 1 + r - e) * s ≤ kp <;> simp [q, hj]
  | succ d ih =>
    intro k j g0 g1 g2 g3
    obtain ⟨k, rfl⟩ : ∃ n, k = n + 1 := ⟨k - 1, by omega⟩
    simp only [klaxonlaw12_LifeParts.l1]
    have hfit : Fits (j : Int) (far s f kp j own) := by
      have h := lifeAt_fits (s := s) (f := f) (k := kp) (own.take j) 0 (0, 0, 0) (by omega) ⟨by simp, by simp, by simp, by simp, by simp⟩
      rw [List.length_take, Nat.min_eq_left g1] at h
      simpa [far] using h
    have hd : rdOf false own (j : Int) = own.getD j false := by simp [rdOf]
    have hw : wrap64 ((j : Int) + 1) = ((j + 1 : Nat) : Int) := by rw [wrap_in ⟨by omega, by omega⟩]; rfl
    have hlen : (runFrom s f kp 0 (0, 0, 0) own).length = own.length := runFrom_length _ _ _ _ _ _
    rw [if_pos (by omega), if_pos (by omega), hd, next_val hp _ hfit (by omega) k (by omega)]
    simp only [Option.bind_some]
    have hstep : nx s f kp (j : Int) (own.getD j false) (far s f kp j own) = far s f kp (j + 1) own := by
      unfold far
      rw [take_snoc_getD own j (by omega), lifeAt_snoc, List.length_take, Nat.min_eq_left g1]
      simp
    have hget : rd (runFrom s f kp 0 (0, 0, 0) own) (j : Int) = (far s f kp (j + 1) own).1 := by
      have h := run_get (s := s) (f := f) (k := kp) own 0 (0, 0, 0) j (by omega)
      have e : rd (runFrom s f kp 0 (0, 0, 0) own) (j : Int) = (runFrom s f kp 0 (0, 0, 0) own).getD j 0 := by simp [rd]
      rw [e, h, ← hstep, Int.zero_add]; rfl
    rw [hstep, if_neg (by omega), if_pos (by omega), hget, if_pos rfl, hw]
    exact ih k (j + 1) (by omega) (by omega) (by omega) (by omega)
theorem l0_ {s f kp : Int} (hp : Par s f kp) (own : List Bool) (hn : own.length ≤ 30) (gap : Int) (c : Nat) (hc : c ≤ own.length) (d : Nat) : ∀ (k j : Nat), j ≤ c → c - j = d → d + 140 ≤ k →
    klaxonlaw12_LifeParts.l0 k gap own s f kp (c : Int) (runFrom s f kp 0 (0, 0, 0) own) (j : Int) (far s f kp j own).1 (far s f kp j own).2.1 (far s f kp j own).2.2 = some true := by
  induction d with
  | zero =>
    intro k j g1 g2 g3
    obtain ⟨k, rfl⟩ : ∃ n, k = n + 1 := ⟨k - 1, by omega⟩
    have : j = c := by omega
    subst this
    simp only [klaxonlaw12_LifeParts.l0]
    rw [if_neg (by omega)]
    exact l1_ hp own hn gap j hc (own.length - j) k j (by omega) (by omega) rfl (by omega)
  | succ d ih =>
    intro k j g1 g2 g3
    obtain ⟨k, rfl⟩ : ∃ n, k = n + 1 := ⟨k - 1, by omega⟩
    simp only [klaxonlaw12_LifeParts.l0]
    have hfit : Fits (j : Int) (far s f kp j own) := by
      have h := lifeAt_fits (s := s) (f := f) (k := kp) (own.take j) 0 (0, 0, 0) (by omega) ⟨by simp, by simp, by simp, by simp, by simp⟩
      rw [List.length_take, Nat.min_eq_left (by omega)] at h
      simpa [far] using h
    have hd : rdOf false own (j : Int) = own.getD j false := by simp [rdOf]
    have hw : wrap64 ((j : Int) + 1) = ((j + 1 : Nat) : Int) := by rw [wrap_in ⟨by omega, by omega⟩]; rfl
    rw [if_pos (by omega), if_pos (by omega), if_pos (by omega), hd, next_val hp _ hfit (by omega) k (by omega)]
    simp only [Option.bind_some]
    have hstep : nx s f kp (j : Int) (own.getD j false) (far s f kp j own) = far s f kp (j + 1) own := by
      unfold far
      rw [take_snoc_getD own j (by omega), lifeAt_snoc, List.length_take, Nat.min_eq_left (by omega)]
      simp
    rw [hstep, hw]
    exact ih k (j + 1) (by omega) (by omega) (by omega)
theorem own_length (l0 : List Bool) (n : Int) (hn : 0 ≤ n) : ∃ own : List Bool, own = ([] : List Bool) ++ l0.take (mn (l0.length : Int) n).toNat ∧ (own.length : Int) ≤ n ∧ 0 ≤ mn (l0.length : Int) n ∧ mn (l0.length : Int) n ≤ (l0.length : Int) := by
  have h : 0 ≤ mn (l0.length : Int) n ∧ mn (l0.length : Int) n ≤ (l0.length : Int) ∧ mn (l0.length : Int) n ≤ n := by unfold mn; split <;> omega
  refine ⟨_, rfl, ?_, h.1, h.2.1⟩
  simp only [List.nil_append, List.length_take]
  omega
theorem LifeParts (l0 : List Bool) (a1 a2 a3 a4 a5 : Int) : ∃ k, klaxonlaw12_LifeParts.f k l0 a1 a2 a3 a4 a5 = some true := by
  refine ⟨300, ?_⟩
  obtain ⟨own, ho, hlen, m0, m1⟩ := own_length l0 30 (by omega)
  obtain ⟨s, hs, s0, s1⟩ := within_some (n := a1) (lo := 1) (hi := 9) (by omega) (by omega) (by omega) (by omega)
  obtain ⟨f, hf, f0, f1⟩ := within_some (n := a2) (lo := 0) (hi := 40) (by omega) (by omega) (by omega) (by omega)
  obtain ⟨kp, hk, k0, k1⟩ := within_some (n := a3) (lo := 0) (hi := 40) (by omega) (by omega) (by omega) (by omega)
  obtain ⟨c, hc, c0, c1⟩ := within_some (n := a4) (lo := 0) (hi := (own.length : Int)) (by omega) (by omega) (by omega) (by omega)
  unfold klaxonlaw12_LifeParts.f
  simp only [Option.bind_some]
  have hlt : ([] : List Bool).length + (l0.take (mn (l0.length : Int) 30).toNat).length < 140737488355328 := by
    have : own.length = (l0.take (mn (l0.length : Int) 30).toNat).length := by rw [ho]; simp
    rw [← this]; simp; omega
  rw [if_pos m0, if_pos m1, if_pos hlt, ← ho, hs, hf, hk, hc]
  simp only [Option.bind_some]
  have hp : Par s f kp := ⟨by omega, by omega, by omega, by omega, by omega⟩
  rw [run_val hp own (by omega) 300 (by omega)]
  simp only [Option.bind_some]
  obtain ⟨c', rfl⟩ : ∃ n : Nat, c = (n : Int) := ⟨c.toNat, by omega⟩
  have := l0_ hp own (by omega) a5 c' (by omega) c' 300 0 (by omega) (by omega) (by omega)
  simpa [far, lifeAt] using this

end Go.Proofs.Ytkppbflmlpabjaa.Pure
