/- For every list of ints and every three ints LifeTells returns true, said of the printed functions: the life stepped from tick to tick is what the quantifiers over ticks say. No condition. -/
import Derived.Test.YtkppbflmlpabjaaMLifeTellsx2
import Derived.Test.YtkppbflmlpabjaaMLifeTellsx4
namespace Go.Proofs.Ytkppbflmlpabjaa.Pure
open Go.RowKit Go.Proofs.Ytkppbflmlpabjaa.PLifeTells Go.Proofs.YtkppbflmlpabjaaW.PrintWords Go.Proofs.YtkppbflmlpabjaaW.PrintLast Go.Proofs.YtkppbflmlpabjaaW.PrintMore
set_option linter.unusedVariables false
set_option linter.unusedSimpArgs false

def inr (x : Int) : Prop := -9223372036854775808 ≤ x ∧ x ≤ 9223372036854775807
instance (x : Int) : Decidable (inr x) := by unfold inr; infer_instance
theorem wrap_in {x : Int} (h : inr x) : wrap64 x = x := by unfold inr at h; unfold wrap64; omega
theorem wrap_inr (x : Int) : inr (wrap64 x) := by unfold inr wrap64; omega
theorem wrap_ex (x : Int) : ∃ m : Int, wrap64 x = x + 18446744073709551616 * m := ⟨-((x + 9223372036854775808) / 18446744073709551616), by unfold wrap64; omega⟩
theorem tmod_lt (p a : Int) : (0 < a → -a < Int.tmod p a ∧ Int.tmod p a < a) ∧ (a < 0 → a < Int.tmod p a ∧ Int.tmod p a < -a) := by
  refine ⟨fun h => ⟨Int.lt_tmod_of_pos p h, Int.tmod_lt_of_pos p h⟩, fun h => ?_⟩
  have h1 := Int.lt_tmod_of_pos p (show 0 < -a by omega)
  have h2 := Int.tmod_lt_of_pos p (show 0 < -a by omega)
  rw [Int.tmod_neg] at h1 h2
  omega
theorem mul_key {a b : Int} (ha : inr a) (hb : inr b) (h0 : a ≠ 0) (hn : ¬ (a = -1 ∧ b = -9223372036854775808)) :
    wrap64 (Int.tdiv (wrap64 (a * b)) a) = b ↔ inr (a * b) := by
  constructor
  · intro h
    obtain ⟨m, hm⟩ := wrap_ex (a * b)
    have hp := wrap_inr (a * b)
    have hd := Int.mul_tdiv_add_tmod (wrap64 (a * b)) a
    have ht := tmod_lt (wrap64 (a * b)) a
    have hq : (Int.tdiv (wrap64 (a * b)) a).natAbs ≤ (wrap64 (a * b)).natAbs := Int.natAbs_tdiv_le_natAbs _ _
    generalize Int.tmod (wrap64 (a * b)) a = r at *
    generalize hqq : Int.tdiv (wrap64 (a * b)) a = q at *
    generalize hpp : wrap64 (a * b) = p at *
    by_cases e : q = 9223372036854775808
    · subst e
      have hw : wrap64 9223372036854775808 = -9223372036854775808 := by unfold wrap64; omega
      rw [hw] at h
      unfold inr at *
      exfalso
      rcases Int.lt_or_gt_of_ne h0 with hl | hg
      · have := ht.2 hl; omega
      · have := ht.1 hg; omega
    · have hqi : inr q := by unfold inr at *; omega
      rw [wrap_in hqi] at h
      subst h
      unfold inr at *
      rcases Int.lt_or_gt_of_ne h0 with hl | hg
      · have := ht.2 hl; omega
      · have := ht.1 hg; omega
  · intro h
    rw [wrap_in h, Int.mul_tdiv_cancel_left b h0, wrap_in hb]
theorem wf_inr {n : Int} (h : (Go.Lit.int .i64 n).wf = true) : inr n := by
  simp [Go.Lit.wf, Go.IntKind.min, Go.IntKind.max, Go.IntKind.signed, Go.IntKind.bits] at h
  unfold inr; omega

theorem tmod_emod (n m : Int) (hm : 0 < m) : (if Int.tmod n m < 0 then Int.tmod n m + m else Int.tmod n m) = n % m := by
  have hd := Int.mul_tdiv_add_tmod n m
  have ht := (tmod_lt n m).1 hm
  have he : n % m = Int.tmod n m % m := by
    conv => lhs; rw [← hd]
    rw [Int.add_comm, Int.add_mul_emod_self_left]
  rw [he]
  split
  · rename_i h
    rw [← Int.add_emod_right (Int.tmod n m) m, Int.emod_eq_of_lt (by omega) (by omega)]
  · rename_i h
    rw [Int.emod_eq_of_lt (by omega) (by omega)]
/-- A number brought into lo .. hi. -/
theorem within_val {n lo hi : Int} (h1 : -4611686018427387904 ≤ lo) (h2 : lo ≤ hi) (h3 : hi ≤ 4611686018427387903) (h4 : hi - lo ≤ 4611686018427387902) : klaxonbook_Within.f n lo hi = some (lo + n % (hi - lo + 1)) := by
  unfold klaxonbook_Within.f
  have w1 : wrap64 (hi - lo) = hi - lo := wrap_in ⟨by omega, by omega⟩
  have w2 : wrap64 (hi - lo + 1) = hi - lo + 1 := wrap_in ⟨by omega, by omega⟩
  have he := tmod_emod n (hi - lo + 1) (by omega)
  have ht := (tmod_lt n (hi - lo + 1)).1 (by omega)
  rw [w1, w2, if_neg (by omega)]
  generalize Int.tmod n (hi - lo + 1) = t at *
  generalize n % (hi - lo + 1) = v at *
  by_cases hneg : t < 0
  · rw [if_pos hneg] at he ⊢
    have a1 : wrap64 (t + hi) = t + hi := wrap_in ⟨by omega, by omega⟩
    have a2 : wrap64 (t + hi - lo) = t + hi - lo := wrap_in ⟨by omega, by omega⟩
    have a3 : wrap64 (t + hi - lo + 1) = t + hi - lo + 1 := wrap_in ⟨by omega, by omega⟩
    have a4 : wrap64 (lo + (t + hi - lo + 1)) = lo + (t + hi - lo + 1) := wrap_in ⟨by omega, by omega⟩
    rw [a1, a2, a3, a4, ← he]
    congr 1; omega
  · rw [if_neg hneg] at he ⊢
    have a4 : wrap64 (lo + t) = lo + t := wrap_in ⟨by omega, by omega⟩
    rw [a4, he]
theorem within_some {n lo hi : Int} (h1 : -4611686018427387904 ≤ lo) (h2 : lo ≤ hi) (h3 : hi ≤ 4611686018427387903) (h4 : hi - lo ≤ 4611686018427387902) : ∃ r, klaxonbook_Within.f n lo hi = some r ∧ lo ≤ r ∧ r ≤ hi := by
  refine ⟨_, within_val h1 h2 h3 h4, ?_⟩
  have e1 := Int.emod_nonneg n (show hi - lo + 1 ≠ 0 by omega)
  have e2 := Int.emod_lt_of_pos n (show 0 < hi - lo + 1 by omega)
  omega

theorem tdiv_le {t s l : Int} (hs : 1 ≤ s) : t ≤ l / s ↔ t * s ≤ l := Int.le_ediv_iff_mul_le (by omega)
theorem mx_one {s : Int} (hs : 1 ≤ s) : mx s 1 = s := by unfold mx; split <;> omega
theorem most_val {t s l : Int} (hs : 1 ≤ s) (hl : 0 ≤ l) (hl2 : l ≤ 4611686018427387904) : life_most.f t s l = some (decide (t * s ≤ l)) := by
  have q0 : 0 ≤ l / s := Int.ediv_nonneg hl (by omega)
  have q1 : l / s ≤ l := Int.ediv_le_self s hl
  unfold life_most.f
  rw [mx_one hs, if_neg (by omega), Int.tdiv_eq_ediv_of_nonneg hl, wrap_in ⟨by omega, by omega⟩]
  simp only [tdiv_le hs]
theorem least_val {t s l : Int} (hs : 1 ≤ s) (hl : 0 ≤ l) (hl2 : l ≤ 4611686018427387904) : life_least.f t s l = some (decide (l ≤ t * s)) := by
  have q0 : 0 ≤ l / s := Int.ediv_nonneg hl (by omega)
  have q1 : l / s ≤ l := Int.ediv_le_self s hl
  have hd : s * (l / s) + l % s = l := Int.mul_ediv_add_emod l s
  have r0 : 0 ≤ l % s := Int.emod_nonneg l (by omega)
  have r1 : l % s < s := Int.emod_lt_of_pos l (by omega)
  unfold life_least.f
  rw [mx_one hs, if_neg (by omega), Int.tdiv_eq_ediv_of_nonneg hl, Int.tmod_eq_emod_of_nonneg hl]
  generalize l / s = q at *
  generalize l % s = r at *
  rw [wrap_in (x := q) ⟨by omega, by omega⟩, wrap_in (x := q + 1) ⟨by omega, by omega⟩]
  have up : ∀ x y : Int, x ≤ y → x * s ≤ y * s := fun x y h => Int.mul_le_mul_of_nonneg_right h (by omega)
  have hc : q * s = s * q := Int.mul_comm _ _
  have hc1 : (q + 1) * s = s * q + s := by rw [Int.add_mul, Int.mul_comm]; omega
  by_cases hr : r > 0
  · rw [if_pos hr]
    congr 1
    simp only [decide_eq_decide]
    constructor
    · intro h; have := up _ _ h; omega
    · intro h
      apply Int.not_lt.1; intro h2
      have := up t q (by omega)
      omega
  · rw [if_neg hr]
    congr 1
    simp only [decide_eq_decide]
    constructor
    · intro h; have := up _ _ h; omega
    · intro h
      apply Int.not_lt.1; intro h2
      have := up (t + 1) q (by omega)
      rw [Int.add_mul] at this
      omega
/-- A step of the life, as plain data: state, since, last. -/
def nx (s f k t : Int) (h : Bool) (l : Int × Int × Int) : Int × Int × Int :=
  if h = true then
    (if l.1 = 0 then (if f ≤ 0 then (2, t, t) else (1, t, t))
     else if l.1 = 1 then (if f ≤ (t - l.2.1) * s then (2, l.2.1, t) else (1, l.2.1, t))
     else (2, l.2.1, t))
  else if l.1 = 2 ∧ (t - l.2.2) * s ≤ k then l else (0, 0, 0)
def Fits (t : Int) (l : Int × Int × Int) : Prop := (l.1 = 0 ∨ l.1 = 1 ∨ l.1 = 2) ∧ 0 ≤ l.2.1 ∧ l.2.1 ≤ t ∧ 0 ≤ l.2.2 ∧ l.2.2 ≤ t
def Par (s f k : Int) : Prop := 1 ≤ s ∧ 0 ≤ f ∧ f ≤ 4611686018427387904 ∧ 0 ≤ k ∧ k ≤ 4611686018427387904
theorem next_val {s f k t : Int} (hp : Par s f k) (h : Bool) {l : Int × Int × Int} (hl : Fits t l) (ht : t ≤ 1000000) (m : Nat) (hm : 0 < m) :
    life_Life_Next.f m l.1 l.2.1 l.2.2 t s f k h = some (nx s f k t h l) := by
  obtain ⟨m, rfl⟩ : ∃ n, m = n + 1 := ⟨m - 1, by omega⟩
  obtain ⟨s1, f0, f1, k0, k1⟩ := hp
  obtain ⟨st, si, la⟩ := l
  obtain ⟨h1, h2, h3, h4, h5⟩ := hl
  simp only at h1 h2 h3 h4 h5
  have w1 : wrap64 (t - la) = t - la := wrap_in ⟨by omega, by omega⟩
  have w2 : wrap64 (t - si) = t - si := wrap_in ⟨by omega, by omega⟩
  have w3 : wrap64 (t - t) = 0 := by rw [Int.sub_self]; exact wrap_in ⟨by omega, by omega⟩
  unfold life_Life_Next.f nx
  simp only [w1, w2, w3, life_Life_Next.j0, most_val s1 k0 k1, least_val s1 f0 f1, Option.bind_some, Int.zero_mul]
  cases h with
  | true =>
    rcases h1 with rfl | rfl | rfl
    · by_cases c : f ≤ 0 <;> simp [c]
    · by_cases c : f ≤ (t - si) * s <;> simp [c]
    · simp
  | false =>
    rcases h1 with rfl | rfl | rfl
    · simp
    · simp
    · by_cases c : (t - la) * s ≤ k <;> simp [c]
theorem nx_fits {s f k t : Int} (h : Bool) {l : Int × Int × Int} (h0 : 0 ≤ t) (hl : Fits t l) : Fits (t + 1) (nx s f k t h l) := by
  obtain ⟨h1, h2, h3, h4, h5⟩ := hl
  unfold nx
  repeat' split
  all_goals (refine ⟨?_, ?_, ?_, ?_, ?_⟩ <;> first | (dsimp only; omega) | simp | omega)
/-- The states of a run from a tick on. -/
def runFrom (s f k : Int) : Int → Int × Int × Int → List Bool → List Int
  | _, _, [] => []
  | t, l, h :: hs => (nx s f k t h l).1 :: runFrom s f k (t + 1) (nx s f k t h l) hs
theorem runFrom_length (s f k : Int) (hs : List Bool) : ∀ t l, (runFrom s f k t l hs).length = hs.length := by
  induction hs with
  | nil => intro t l; rfl
  | cons h hs ih => intro t l; simp [runFrom, ih]
theorem rdOf_at {α : Type} {z : α} {xs : List α} {j : Nat} (h : j < xs.length) : rdOf z xs (j : Int) = xs[j] := by simp [rdOf, h]
theorem run_l0 {s f k : Int} (hp : Par s f k) (hs : List Bool) (hn : hs.length ≤ 1000000) (d : Nat) : ∀ (m : Nat) (acc : List Int) (j : Nat) (l : Int × Int × Int), j ≤ hs.length → hs.length - j = d → d + 2 < m → acc.length = j → Fits (j : Int) l →
    life_Run.l0 m s f k acc hs (hs.length : Int) (j : Int) l.1 l.2.1 l.2.2 = some (acc ++ runFrom s f k (j : Int) l (hs.drop j)) := by
  induction d with
  | zero =>
    intro m acc j l h1 h2 h3 h4 h5
    obtain ⟨m, rfl⟩ : ∃ n, m = n + 1 := ⟨m - 1, by omega⟩
    have : j = hs.length := by omega
    subst this
    simp only [life_Run.l0]
    rw [if_neg (by omega), List.drop_length]; simp [runFrom]
  | succ d ih =>
    intro m acc j l h1 h2 h3 h4 h5
    obtain ⟨m, rfl⟩ : ∃ n, m = n + 1 := ⟨m - 1, by omega⟩
    have hlt : j < hs.length := by omega
    simp only [life_Run.l0]
    rw [if_pos (by omega), if_pos (by omega), if_pos (by omega), rdOf_at hlt, next_val hp _ h5 (by omega) m (by omega), List.drop_eq_getElem_cons hlt]
    simp only [Option.bind_some]
    rw [if_pos (by omega)]
    have hw : wrap64 ((j : Int) + 1) = ((j + 1 : Nat) : Int) := by rw [wrap_in ⟨by omega, by omega⟩]; rfl
    rw [hw]
    have hf : Fits ((j + 1 : Nat) : Int) (nx s f k (j : Int) hs[j] l) := by
      have := nx_fits (s := s) (f := f) (k := k) hs[j] (show (0 : Int) ≤ (j : Int) by omega) h5
      simpa using this
    rw [ih m _ (j + 1) _ (by omega) (by omega) (by omega) (by simp [h4]) hf]
    simp [runFrom]
theorem run_val {s f k : Int} (hp : Par s f k) (hs : List Bool) (hn : hs.length ≤ 1000000) (m : Nat) (hm : hs.length + 3 ≤ m) :
    life_Run.f m s f k hs = some (runFrom s f k 0 (0, 0, 0) hs) := by
  have := run_l0 hp hs hn hs.length m [] 0 (0, 0, 0) (by omega) (by omega) (by omega) rfl ⟨by simp, by simp, by simp, by simp, by simp⟩
  simpa [life_Run.f] using this
theorem rd_at {xs : List Int} {j : Nat} (h : j < xs.length) : rd xs (j : Int) = xs[j] := by simp [rd, h]

theorem runs_true (k : Nat) (hk : 60 ≤ k) : klaxonlaw12_LifeRuns.f k = some true := at_rounds klaxonlaw12_LifeRuns.mono (k := 60) hk (by decide +kernel)
theorem rd_getD (xs : List Int) (j : Nat) : rd xs (j : Int) = xs.getD j 0 := by simp [rd]
theorem wrap_succ (j : Nat) (h : j < 1000000) : wrap64 ((j : Int) + 1) = ((j + 1 : Nat) : Int) := by rw [wrap_in ⟨by omega, by omega⟩]; rfl
section
variable (g : Nat → Int) (s f kp : Int)
def Hit (i j : Nat) : Prop := g j = 1 ∧ ((i : Int) - j) * s ≤ kp
def St (a e : Nat) : Prop := ∀ x, a < x → x ≤ e → g x = 2 ∨ ∃ j, a ≤ j ∧ j ≤ x ∧ Hit g s kp x j
def Ru (a b : Nat) : Prop := ∀ x, a ≤ x → x ≤ b → g x ≠ 0
def Fr (b c : Nat) : Prop := ∃ a, a < c ∧ g a = 1 ∧ f ≤ ((b : Int) - a) * s ∧ Ru g a b
def Fi (e : Nat) : Prop := ∃ b, b ≤ e ∧ g b = 1 ∧ St g s kp b e ∧ Fr g s f b (b + 1)
/-- The last tick ahead of i that didn't err. -/
def Eff (i e : Nat) : Prop := e < i ∧ g e ≠ 2 ∧ ∀ x, e < x → x < i → g x = 2
end
/-- What a row looks like to the functions. -/
structure Looks (row : List Int) (g : Nat → Int) (s kp : Int) : Prop where
  eq : ∀ j, j < row.length → row.getD j 0 = g j
  len : row.length ≤ 100
  s0 : 1 ≤ s
  s1 : s ≤ 9
  k0 : 0 ≤ kp
section
variable {row : List Int} {g : Nat → Int} {s f kp : Int}
theorem mul_bounds (h1 : 1 ≤ s) (h2 : s ≤ 9) {i j : Nat} (hi : i ≤ 100) (hj : j ≤ 100) : wrap64 ((i : Int) - (j : Int)) = (i : Int) - j ∧ wrap64 (((i : Int) - j) * s) = ((i : Int) - j) * s := by
  refine ⟨wrap_in ⟨by omega, by omega⟩, ?_⟩
  have a1 : ((i : Int) - j) * s ≤ 100 * s := Int.mul_le_mul_of_nonneg_right (by omega) (by omega)
  have a2 : (-100) * s ≤ ((i : Int) - j) * s := Int.mul_le_mul_of_nonneg_right (by omega) (by omega)
  exact wrap_in ⟨by omega, by omega⟩
theorem stays_l1 (L : Looks row g s kp) (a e i : Nat) (hi : i < row.length) {b' : Bool} (hb : Ev (fun k => klaxonref11_stays.l0 k row s kp (a : Int) (e : Int) ((i + 1 : Nat) : Int)) b') (d : Nat) :
    ∀ (j : Nat) (near : Bool), j + d = i + 1 → ∃ m : Bool, (m = true ↔ (near = true ∨ ∃ j', j ≤ j' ∧ j' ≤ i ∧ Hit g s kp i j')) ∧
      Ev (fun k => klaxonref11_stays.l1 k row s kp (a : Int) (e : Int) (i : Int) near (j : Int)) (m && b') := by
  have hl := L.len
  induction d with
  | zero =>
    intro j near hj
    have hno : ¬ ∃ j', j ≤ j' ∧ j' ≤ i ∧ Hit g s kp i j' := by rintro ⟨j', h1, h2, _⟩; omega
    refine ⟨near, by simp [hno], ?_⟩
    cases near with
    | true =>
      refine Ev.step (f := fun k => klaxonref11_stays.l0 k row s kp (a : Int) (e : Int) ((i + 1 : Nat) : Int)) (fun k => ?_) (by simpa using hb)
      simp only [klaxonref11_stays.l1]
      rw [if_neg (by omega), if_pos trivial, wrap_succ i (by omega)]
    | false =>
      refine Ev.step (f := fun _ => some false) (fun k => ?_) (by simpa using Ev.now false)
      simp only [klaxonref11_stays.l1]
      rw [if_neg (by omega), if_neg (by decide)]
  | succ d ih =>
    intro j near hj
    have hle : j ≤ i := by omega
    have hsplit : (∃ j', j ≤ j' ∧ j' ≤ i ∧ Hit g s kp i j') ↔ (Hit g s kp i j ∨ ∃ j', j + 1 ≤ j' ∧ j' ≤ i ∧ Hit g s kp i j') := by
      constructor
      · rintro ⟨j', h1, h2, h3⟩
        rcases Nat.eq_or_lt_of_le h1 with rfl | h
        · exact .inl h3
        · exact .inr ⟨j', h, h2, h3⟩
      · rintro (h | ⟨j', h1, h2, h3⟩)
        · exact ⟨j, Nat.le_refl _, hle, h⟩
        · exact ⟨j', by omega, h2, h3⟩
    cases near with
    | true =>
      obtain ⟨m, hm, he⟩ := ih (j + 1) true (by omega)
      refine ⟨m, by rw [hm]; simp, ?_⟩
      refine Ev.step (fun k => ?_) he
      simp only [klaxonref11_stays.l1]
      rw [if_pos (by omega), if_pos trivial, wrap_succ j (by omega)]
    | false =>
      obtain ⟨w1, w2⟩ := mul_bounds (s := s) L.s0 L.s1 (i := i) (j := j) (by omega) (by omega)
      by_cases c1 : g j = 1
      · obtain ⟨m, hm, he⟩ := ih (j + 1) (decide (((i : Int) - j) * s ≤ kp)) (by omega)
        refine ⟨m, ?_, ?_⟩
        · rw [hm, hsplit]; simp [Hit, c1]
        refine Ev.step (fun k => ?_) he
        simp only [klaxonref11_stays.l1]
        rw [if_pos (by omega), if_neg (by decide), if_pos (by omega), if_pos (by omega), rd_getD, L.eq j (by omega), if_pos c1, wrap_succ j (by omega), w1, w2]
      · obtain ⟨m, hm, he⟩ := ih (j + 1) false (by omega)
        refine ⟨m, ?_, ?_⟩
        · rw [hm, hsplit]; simp [Hit, c1]
        refine Ev.step (fun k => ?_) he
        simp only [klaxonref11_stays.l1]
        rw [if_pos (by omega), if_neg (by decide), if_pos (by omega), if_pos (by omega), rd_getD, L.eq j (by omega), if_neg c1, wrap_succ j (by omega)]
theorem stays_l0 (L : Looks row g s kp) (a e : Nat) (he : e < row.length) (d : Nat) : ∀ (i : Nat), a < i → i + d = e + 1 → ∃ b : Bool, (b = true ↔ ∀ x, i ≤ x → x ≤ e → g x = 2 ∨ ∃ j, a ≤ j ∧ j ≤ x ∧ Hit g s kp x j) ∧
      Ev (fun k => klaxonref11_stays.l0 k row s kp (a : Int) (e : Int) (i : Int)) b := by
  have hl := L.len
  induction d with
  | zero =>
    intro i hai hi
    refine ⟨true, ⟨fun _ x h1 h2 => by omega, fun _ => rfl⟩, ?_⟩
    refine Ev.step (f := fun _ => some true) (fun k => ?_) (Ev.now true)
    simp only [klaxonref11_stays.l0]
    rw [if_neg (by omega)]
  | succ d ih =>
    intro i hai hi
    obtain ⟨b', hb', hev⟩ := ih (i + 1) (by omega) (by omega)
    obtain ⟨m, hm, hem⟩ := stays_l1 L a e i (by omega) hev (i + 1 - a) a (g i == 2) (by omega)
    refine ⟨m && b', ?_, ?_⟩
    · rw [Bool.and_eq_true, hm, hb']
      constructor
      · rintro ⟨h1, h2⟩ x hx1 hx2
        rcases Nat.eq_or_lt_of_le hx1 with rfl | h
        · rcases h1 with h | h
          · exact .inl (by simpa using h)
          · exact .inr h
        · exact h2 x h hx2
      · intro h
        refine ⟨?_, fun x h1 h2 => h x (by omega) h2⟩
        rcases h i (Nat.le_refl _) (by omega) with h | h
        · exact .inl (by simpa using h)
        · exact .inr h
    · refine Ev.step (fun k => ?_) hem
      simp only [klaxonref11_stays.l0]
      rw [if_pos (by omega), if_pos (by omega), if_pos (by omega), rd_getD, L.eq i (by omega)]
theorem stays_ev (L : Looks row g s kp) (a e : Nat) (he : e < row.length) (hae : a ≤ e) : ∃ b : Bool, (b = true ↔ St g s kp a e) ∧ Ev (fun k => klaxonref11_stays.f k row s kp (a : Int) (e : Int)) b := by
  have hl := L.len
  obtain ⟨b, hb, hev⟩ := stays_l0 L a e he (e - a) (a + 1) (by omega) (by omega)
  refine ⟨b, ?_, ?_⟩
  · rw [hb]; unfold St; exact ⟨fun h x h1 h2 => h x h1 h2, fun h x h1 h2 => h x h1 h2⟩
  · refine Ev.congr (fun k => ?_) hev
    unfold klaxonref11_stays.f
    rw [wrap_succ a (by omega)]
theorem runs_l0 (L : Looks row g s kp) (e : Nat) (he : e < row.length) (d : Nat) : ∀ (i : Nat), i + d = e + 1 → ∃ b : Bool, (b = true ↔ Ru g i e) ∧ Ev (fun k => klaxonref11_runs.l0 k row (e : Int) (i : Int)) b := by
  have hl := L.len
  induction d with
  | zero =>
    intro i hi
    refine ⟨true, ⟨fun _ x h1 h2 => by omega, fun _ => rfl⟩, ?_⟩
    refine Ev.step (f := fun _ => some true) (fun k => ?_) (Ev.now true)
    simp only [klaxonref11_runs.l0]
    rw [if_neg (by omega)]
  | succ d ih =>
    intro i hi
    obtain ⟨b', hb', hev⟩ := ih (i + 1) (by omega)
    by_cases c : g i = 0
    · refine ⟨false, ⟨fun h => (by cases h), fun h => absurd c (h i (Nat.le_refl _) (by omega))⟩, ?_⟩
      refine Ev.step (f := fun _ => some false) (fun k => ?_) (Ev.now false)
      simp only [klaxonref11_runs.l0]
      rw [if_pos (by omega), if_pos (by omega), if_pos (by omega), rd_getD, L.eq i (by omega), if_pos c]
    · refine ⟨b', ?_, ?_⟩
      · rw [hb']
        constructor
        · intro h x h1 h2
          rcases Nat.eq_or_lt_of_le h1 with rfl | h'
          · exact c
          · exact h x h' h2
        · intro h x h1 h2; exact h x (by omega) h2
      · refine Ev.step (fun k => ?_) hev
        simp only [klaxonref11_runs.l0]
        rw [if_pos (by omega), if_pos (by omega), if_pos (by omega), rd_getD, L.eq i (by omega), if_neg c, wrap_succ i (by omega)]
theorem runs_ev (L : Looks row g s kp) (a e : Nat) (he : e < row.length) (hae : a ≤ e + 1) : ∃ b : Bool, (b = true ↔ Ru g a e) ∧ Ev (fun k => klaxonref11_runs.f k row (a : Int) (e : Int)) b := by
  obtain ⟨b, hb, hev⟩ := runs_l0 L e he (e + 1 - a) a (by omega)
  exact ⟨b, hb, hev⟩
theorem fires_l1 (L : Looks row g s kp) (K b : Nat) (hb : b < row.length) {r : Bool} (hr : Ev (fun k => klaxonref11_Fires.l0 k row s f kp (K : Int) ((b : Int) - 1)) r) (c : Nat) (hc : c ≤ b + 1) :
    ∃ m : Bool, (m = true ↔ Fr g s f b c) ∧ Ev (fun k => klaxonref11_Fires.l1 k row s f kp (K : Int) (b : Int) ((c : Int) - 1)) (m || r) := by
  have hl := L.len
  induction c with
  | zero =>
    refine ⟨false, ⟨fun h => (by cases h), fun ⟨a, h, _⟩ => (by omega)⟩, ?_⟩
    refine Ev.step (fun k => ?_) (by simpa using hr)
    simp only [klaxonref11_Fires.l1]
    have e : wrap64 ((b : Int) - 1) = (b : Int) - 1 := wrap_in ⟨by omega, by omega⟩
    rw [if_neg (by omega), e]
  | succ c ih =>
    obtain ⟨m, hm, hev⟩ := ih (by omega)
    have e1 : (((c + 1 : Nat) : Int) - 1) = (c : Int) := by omega
    have e2 : wrap64 ((c : Int) - 1) = (c : Int) - 1 := wrap_in ⟨by omega, by omega⟩
    obtain ⟨w1, w2⟩ := mul_bounds (s := s) L.s0 L.s1 (i := b) (j := c) (by omega) (by omega)
    obtain ⟨q, hq, heq⟩ := runs_ev L c b hb (by omega)
    have hsplit : Fr g s f b (c + 1) ↔ ((g c = 1 ∧ f ≤ ((b : Int) - c) * s ∧ Ru g c b) ∨ Fr g s f b c) := by
      constructor
      · rintro ⟨a, h1, h2⟩
        rcases Nat.eq_or_lt_of_le (Nat.le_of_lt_succ h1) with rfl | h
        · exact .inl h2
        · exact .inr ⟨a, h, h2⟩
      · rintro (h | ⟨a, h1, h2⟩)
        · exact ⟨c, by omega, h⟩
        · exact ⟨a, by omega, h2⟩
    by_cases c1 : g c = 1
    · by_cases c2 : f ≤ ((b : Int) - c) * s
      · refine ⟨q || m, by rw [hsplit, Bool.or_eq_true, hq, hm]; simp [c1, c2], ?_⟩
        cases q with
        | true =>
          refine Ev.step (f := fun k => (klaxonref11_runs.f k row (c : Int) (b : Int)).bind fun t141 => (if t141 = true then (some true) else (klaxonref11_Fires.l1 k row s f kp (K : Int) (b : Int) ((c : Int) - 1)))) (fun k => ?_) (Ev.bind heq (by simpa using Ev.now true))
          simp only [klaxonref11_Fires.l1]
          rw [e1, if_pos (by omega), if_pos (by omega), if_pos (by omega), rd_getD, L.eq c (by omega), if_pos c1, w1, w2, if_pos c2, e2]
        | false =>
          refine Ev.step (f := fun k => (klaxonref11_runs.f k row (c : Int) (b : Int)).bind fun t141 => (if t141 = true then (some true) else (klaxonref11_Fires.l1 k row s f kp (K : Int) (b : Int) ((c : Int) - 1)))) (fun k => ?_) (Ev.bind heq (by simpa using hev))
          simp only [klaxonref11_Fires.l1]
          rw [e1, if_pos (by omega), if_pos (by omega), if_pos (by omega), rd_getD, L.eq c (by omega), if_pos c1, w1, w2, if_pos c2, e2]
      · refine ⟨m, by rw [hsplit, hm]; simp [c2], ?_⟩
        refine Ev.step (fun k => ?_) hev
        simp only [klaxonref11_Fires.l1]
        rw [e1, if_pos (by omega), if_pos (by omega), if_pos (by omega), rd_getD, L.eq c (by omega), if_pos c1, w1, w2, if_neg (by omega), e2]
    · refine ⟨m, by rw [hsplit, hm]; simp [c1], ?_⟩
      refine Ev.step (fun k => ?_) hev
      simp only [klaxonref11_Fires.l1]
      rw [e1, if_pos (by omega), if_pos (by omega), if_pos (by omega), rd_getD, L.eq c (by omega), if_neg c1, e2]
theorem fires_l0 (L : Looks row g s kp) (K : Nat) (hK : K < row.length) (c : Nat) (hc : c ≤ K + 1) :
    ∃ r : Bool, (r = true ↔ ∃ b, b < c ∧ g b = 1 ∧ St g s kp b K ∧ Fr g s f b (b + 1)) ∧ Ev (fun k => klaxonref11_Fires.l0 k row s f kp (K : Int) ((c : Int) - 1)) r := by
  have hl := L.len
  induction c with
  | zero =>
    refine ⟨false, ⟨fun h => (by cases h), fun ⟨a, h, _⟩ => (by omega)⟩, ?_⟩
    refine Ev.step (f := fun _ => some false) (fun k => ?_) (Ev.now false)
    simp only [klaxonref11_Fires.l0]
    rw [if_neg (by omega)]
  | succ c ih =>
    obtain ⟨r, hr, hev⟩ := ih (by omega)
    have e1 : (((c + 1 : Nat) : Int) - 1) = (c : Int) := by omega
    have e2 : wrap64 ((c : Int) - 1) = (c : Int) - 1 := wrap_in ⟨by omega, by omega⟩
    have hsplit : (∃ b, b < c + 1 ∧ g b = 1 ∧ St g s kp b K ∧ Fr g s f b (b + 1)) ↔ ((g c = 1 ∧ St g s kp c K ∧ Fr g s f c (c + 1)) ∨ ∃ b, b < c ∧ g b = 1 ∧ St g s kp b K ∧ Fr g s f b (b + 1)) := by
      constructor
      · rintro ⟨a, h1, h2⟩
        rcases Nat.eq_or_lt_of_le (Nat.le_of_lt_succ h1) with rfl | h
        · exact .inl h2
        · exact .inr ⟨a, h, h2⟩
      · rintro (h | ⟨a, h1, h2⟩)
        · exact ⟨c, by omega, h⟩
        · exact ⟨a, by omega, h2⟩
    obtain ⟨m, hm, hevm⟩ := fires_l1 (f := f) L K c (by omega) hev (c + 1) (Nat.le_refl _)
    rw [e1] at hevm
    have jt : Ev (fun k => klaxonref11_Fires.j1 k row s f kp (K : Int) (c : Int) true) r := by
      refine Ev.step (fun k => ?_) hev
      simp only [klaxonref11_Fires.j1]
      rw [if_pos trivial, e2]
    have jf : Ev (fun k => klaxonref11_Fires.j1 k row s f kp (K : Int) (c : Int) false) (m || r) := by
      refine Ev.step (fun k => ?_) hevm
      simp only [klaxonref11_Fires.j1]
      rw [if_neg (by decide)]
    by_cases c1 : g c = 1
    · obtain ⟨q, hq, heq⟩ := stays_ev L c K hK (by omega)
      cases q with
      | true =>
        refine ⟨m || r, by rw [hsplit, Bool.or_eq_true, hm, hr]; simp [c1, hq.1 rfl], ?_⟩
        refine Ev.step (f := fun k => (klaxonref11_stays.f k row s kp (c : Int) (K : Int)).bind fun t139 => (klaxonref11_Fires.j1 k row s f kp (K : Int) (c : Int) (!t139))) (fun k => ?_) (Ev.bind heq (by simpa using jf))
        simp only [klaxonref11_Fires.l0]
        rw [e1, if_pos (by omega), if_pos (by omega), if_pos (by omega), rd_getD, L.eq c (by omega), if_pos c1]
      | false =>
        have hn : ¬ St g s kp c K := fun h => by have := hq.2 h; cases this
        refine ⟨r, by rw [hsplit, hr]; simp [hn], ?_⟩
        refine Ev.step (f := fun k => (klaxonref11_stays.f k row s kp (c : Int) (K : Int)).bind fun t139 => (klaxonref11_Fires.j1 k row s f kp (K : Int) (c : Int) (!t139))) (fun k => ?_) (Ev.bind heq (by simpa using jt))
        simp only [klaxonref11_Fires.l0]
        rw [e1, if_pos (by omega), if_pos (by omega), if_pos (by omega), rd_getD, L.eq c (by omega), if_pos c1]
    · refine ⟨r, by rw [hsplit, hr]; simp [c1], ?_⟩
      refine Ev.step (fun k => ?_) jt
      simp only [klaxonref11_Fires.l0]
      rw [e1, if_pos (by omega), if_pos (by omega), if_pos (by omega), rd_getD, L.eq c (by omega), if_neg c1]
/-- Fires, of a row: at the last tick that didn't err. -/
theorem fires_ev (L : Looks row g s kp) (K : Nat) (hK : K < row.length) : ∃ r : Bool, (r = true ↔ ∃ e, Eff g (K + 1) e ∧ Fi g s f kp e) ∧ Ev (fun k => klaxonref11_Fires.f k row s f kp (K : Int)) r := by
  have hl := L.len
  have main : ∀ K, K < row.length → g K ≠ 2 → ∃ r : Bool, (r = true ↔ ∃ e, Eff g (K + 1) e ∧ Fi g s f kp e) ∧ Ev (fun k => klaxonref11_Fires.f k row s f kp (K : Int)) r := by
    intro K hK h2
    obtain ⟨r, hr, hev⟩ := fires_l0 (f := f) L K hK (K + 1) (Nat.le_refl _)
    have e1 : (((K + 1 : Nat) : Int) - 1) = (K : Int) := by omega
    rw [e1] at hev
    refine ⟨r, ?_, ?_⟩
    · rw [hr]
      constructor
      · rintro ⟨b, h1, h3⟩
        exact ⟨K, ⟨by omega, h2, fun x h4 h5 => by omega⟩, b, by omega, h3⟩
      · rintro ⟨e, ⟨h1, h3, h4⟩, b, h5, h6⟩
        have : e = K := by
          rcases Nat.eq_or_lt_of_le (Nat.le_of_lt_succ h1) with h | h
          · exact h
          · exact absurd (h4 K h (by omega)) h2
        subst this
        exact ⟨b, by omega, h6⟩
    · refine Ev.step (fun k => ?_) hev
      simp only [klaxonref11_Fires.f]
      rw [if_pos (by omega), if_pos (by omega), rd_getD, L.eq K hK, if_neg h2]
  induction K with
  | zero =>
    by_cases h2 : g 0 = 2
    · refine ⟨false, ⟨fun h => (by cases h), fun ⟨e, ⟨h1, h3, _⟩, _⟩ => (by have : e = 0 := (by omega); subst this; exact absurd h2 h3)⟩, ?_⟩
      refine Ev.step (f := fun _ => some false) (fun k => ?_) (Ev.now false)
      simp only [klaxonref11_Fires.f]
      rw [if_pos (by omega), if_pos (by omega), rd_getD, L.eq 0 hK, if_pos h2, if_neg (by omega)]
    · exact main 0 hK h2
  | succ K ih =>
    by_cases h2 : g (K + 1) = 2
    · obtain ⟨r, hr, hev⟩ := ih (by omega)
      refine ⟨r, ?_, ?_⟩
      · rw [hr]
        constructor
        · rintro ⟨e, ⟨h1, h3, h4⟩, h5⟩
          refine ⟨e, ⟨by omega, h3, fun x h6 h7 => ?_⟩, h5⟩
          rcases Nat.eq_or_lt_of_le (Nat.le_of_lt_succ h7) with rfl | h
          · exact h2
          · exact h4 x h6 h
        · rintro ⟨e, ⟨h1, h3, h4⟩, h5⟩
          refine ⟨e, ⟨?_, h3, fun x h6 h7 => h4 x h6 (by omega)⟩, h5⟩
          rcases Nat.eq_or_lt_of_le (Nat.le_of_lt_succ h1) with rfl | h
          · exact absurd h2 h3
          · exact h
      · have e2 : wrap64 (((K + 1 : Nat) : Int) - 1) = (K : Int) := by rw [wrap_in ⟨by omega, by omega⟩]; omega
        refine Ev.step (f := fun k => (klaxonref11_Fires.f k row s f kp (K : Int)).bind fun t137 => (some t137)) (fun k => ?_) (Ev.bind hev (Ev.now r))
        simp only [klaxonref11_Fires.f]
        rw [if_pos (by omega), if_pos (by omega), rd_getD, L.eq (K + 1) hK, if_pos h2, if_pos (by omega), e2]
    · exact main (K + 1) hK h2
theorem state_l0 (L : Looks row g s kp) (v : Int) (c : Nat) (hc : c ≤ row.length) (hv : (∃ e, Eff g c e ∧ g e = 1) → v = 1) (hv0 : (¬ ∃ e, Eff g c e ∧ g e = 1) → v = 0) : Ev (fun k => klaxonref11_State.l0 k row ((c : Int) - 1)) v := by
  have hl := L.len
  induction c with
  | zero =>
    have : v = 0 := hv0 (by rintro ⟨e, ⟨h, _⟩, _⟩; omega)
    subst this
    refine Ev.step (f := fun _ => some 0) (fun k => ?_) (Ev.now 0)
    simp only [klaxonref11_State.l0]
    rw [if_neg (by omega)]
  | succ c ih =>
    have e1 : (((c + 1 : Nat) : Int) - 1) = (c : Int) := by omega
    have e2 : wrap64 ((c : Int) - 1) = (c : Int) - 1 := wrap_in ⟨by omega, by omega⟩
    by_cases h2 : g c = 2
    · have hiff : (∃ e, Eff g (c + 1) e ∧ g e = 1) ↔ ∃ e, Eff g c e ∧ g e = 1 := by
        constructor
        · rintro ⟨e, ⟨h1, h3, h4⟩, h5⟩
          refine ⟨e, ⟨?_, h3, fun x h6 h7 => h4 x h6 (by omega)⟩, h5⟩
          rcases Nat.eq_or_lt_of_le (Nat.le_of_lt_succ h1) with rfl | h
          · exact absurd h2 h3
          · exact h
        · rintro ⟨e, ⟨h1, h3, h4⟩, h5⟩
          refine ⟨e, ⟨by omega, h3, fun x h6 h7 => ?_⟩, h5⟩
          rcases Nat.eq_or_lt_of_le (Nat.le_of_lt_succ h7) with rfl | h
          · exact h2
          · exact h4 x h6 h
      refine Ev.step (fun k => ?_) (ih (by omega) (fun h => hv (hiff.2 h)) (fun h => hv0 (fun x => h (hiff.1 x))))
      simp only [klaxonref11_State.l0]
      rw [e1, if_pos (by omega), if_pos (by omega), if_pos (by omega), rd_getD, L.eq c (by omega), if_pos h2, e2]
    · have honly : ∀ e, Eff g (c + 1) e → e = c := by
        rintro e ⟨h1, h3, h4⟩
        rcases Nat.eq_or_lt_of_le (Nat.le_of_lt_succ h1) with h | h
        · exact h
        · exact absurd (h4 c h (by omega)) h2
      have heff : Eff g (c + 1) c := ⟨by omega, h2, fun x h6 h7 => by omega⟩
      by_cases c1 : g c = 1
      · have : v = 1 := hv ⟨c, heff, c1⟩
        subst this
        refine Ev.step (f := fun _ => some 1) (fun k => ?_) (Ev.now 1)
        simp only [klaxonref11_State.l0]
        rw [e1, if_pos (by omega), if_pos (by omega), if_pos (by omega), rd_getD, L.eq c (by omega), if_neg h2, if_pos c1]
      · have : v = 0 := hv0 (by rintro ⟨e, h1, h3⟩; rw [honly e h1] at h3; exact c1 h3)
        subst this
        refine Ev.step (f := fun _ => some 0) (fun k => ?_) (Ev.now 0)
        simp only [klaxonref11_State.l0]
        rw [e1, if_pos (by omega), if_pos (by omega), if_pos (by omega), rd_getD, L.eq c (by omega), if_neg h2, if_neg c1]
theorem state_ev (L : Looks row g s kp) (v : Int) (K : Nat) (hK : K < row.length) (h2 : v = 2 ↔ ∃ e, Eff g (K + 1) e ∧ Fi g s f kp e) (h1 : v = 1 ↔ v ≠ 2 ∧ ∃ e, Eff g (K + 1) e ∧ g e = 1) (h0 : v = 0 ∨ v = 1 ∨ v = 2) :
    Ev (fun k => klaxonref11_State.f k row s f kp (K : Int)) v := by
  obtain ⟨r, hr, hev⟩ := fires_ev (f := f) L K hK
  refine Ev.congr (f := fun k => (klaxonref11_Fires.f k row s f kp (K : Int)).bind fun t142 => (if t142 = true then (some 2) else (klaxonref11_State.l0 k row (K : Int)))) (fun k => rfl) (Ev.bind hev ?_)
  cases r with
  | true =>
    have : v = 2 := h2.2 (hr.1 rfl)
    subst this
    simpa using Ev.now 2
  | false =>
    have hne : v ≠ 2 := fun h => by have := hr.2 (h2.1 h); cases this
    have e1 : (((K + 1 : Nat) : Int) - 1) = (K : Int) := by omega
    have := state_l0 L v (K + 1) (by omega) (fun h => h1.2 ⟨hne, h⟩) (fun h => by
      rcases h0 with h | h' | h'
      · exact h
      · exact absurd (h1.1 h').2 h
      · exact absurd h' hne)
    rw [e1] at this
    simpa using this
end

section
variable {g : Nat → Int} {s f kp : Int}
theorem eff_two {i e : Nat} (h2 : g i = 2) : Eff g (i + 1) e ↔ Eff g i e := by
  constructor
  · rintro ⟨h1, h3, h4⟩
    refine ⟨?_, h3, fun x h6 h7 => h4 x h6 (by omega)⟩
    rcases Nat.eq_or_lt_of_le (Nat.le_of_lt_succ h1) with rfl | h
    · exact absurd h2 h3
    · exact h
  · rintro ⟨h1, h3, h4⟩
    refine ⟨by omega, h3, fun x h6 h7 => ?_⟩
    rcases Nat.eq_or_lt_of_le (Nat.le_of_lt_succ h7) with rfl | h
    · exact h2
    · exact h4 x h6 h
theorem eff_new {i e : Nat} (h2 : g i ≠ 2) : Eff g (i + 1) e ↔ e = i := by
  constructor
  · rintro ⟨h1, h3, h4⟩
    rcases Nat.eq_or_lt_of_le (Nat.le_of_lt_succ h1) with h | h
    · exact h
    · exact absurd (h4 i h (by omega)) h2
  · rintro rfl; exact ⟨by omega, h2, fun x h6 h7 => by omega⟩
theorem eff_exists (i : Nat) : ∀ j, j < i → g j ≠ 2 → ∃ e, Eff g i e ∧ j ≤ e := by
  induction i with
  | zero => intro j h; omega
  | succ i ih =>
    intro j hj h
    by_cases h2 : g i = 2
    · have hji : j < i := by
        rcases Nat.eq_or_lt_of_le (Nat.le_of_lt_succ hj) with rfl | h'
        · exact absurd h2 h
        · exact h'
      obtain ⟨e, he, hje⟩ := ih j hji h
      exact ⟨e, (eff_two h2).2 he, hje⟩
    · exact ⟨i, (eff_new h2).2 rfl, by omega⟩
theorem fi_back {i b : Nat} (hb : b < i) (h1 : g b = 1) (hs : St g s kp b i) (hf : Fr g s f b (b + 1)) : ∃ e, Eff g i e ∧ Fi g s f kp e := by
  obtain ⟨e, he, hbe⟩ := eff_exists (g := g) i b hb (by rw [h1]; decide)
  exact ⟨e, he, b, hbe, h1, fun x h2 h3 => hs x h2 (by have := he.1; omega), hf⟩
theorem fi_one (k0 : 0 ≤ kp) {i : Nat} (h1 : g i = 1) : Fi g s f kp i ↔ ((∃ e, Eff g i e ∧ Fi g s f kp e) ∨ Fr g s f i (i + 1)) := by
  constructor
  · rintro ⟨b, hb, hb1, hs, hf⟩
    rcases Nat.eq_or_lt_of_le hb with rfl | h
    · exact .inr hf
    · exact .inl (fi_back h hb1 hs hf)
  · rintro (⟨e, he, b, hb, hb1, hs, hf⟩ | hf)
    · refine ⟨b, by have := he.1; omega, hb1, fun x h2 h3 => ?_, hf⟩
      rcases Nat.lt_or_ge e x with h | h
      · rcases Nat.eq_or_lt_of_le h3 with rfl | h'
        · exact .inr ⟨x, by omega, Nat.le_refl _, h1, by rw [Int.sub_self, Int.zero_mul]; exact k0⟩
        · exact .inl (he.2.2 x h h')
      · exact hs x h2 h
    · exact ⟨i, Nat.le_refl _, h1, fun x h2 h3 => by omega, hf⟩
theorem fi_zero (s1 : 1 ≤ s) {i la : Nat} (h0 : g i = 0) (hla : la < i) (hla1 : g la = 1) (hno : ∀ x, la < x → x < i → g x ≠ 1) :
    Fi g s f kp i ↔ ((∃ e, Eff g i e ∧ Fi g s f kp e) ∧ ((i : Int) - la) * s ≤ kp) := by
  constructor
  · rintro ⟨b, hb, hb1, hs, hf⟩
    have hlt : b < i := by
      rcases Nat.eq_or_lt_of_le hb with rfl | h
      · omega
      · exact h
    refine ⟨fi_back hlt hb1 hs hf, ?_⟩
    rcases hs i hlt (Nat.le_refl _) with h | ⟨j, hj1, hj2, hj3, hj4⟩
    · omega
    · have hji : j < i := by
        rcases Nat.eq_or_lt_of_le hj2 with rfl | h
        · omega
        · exact h
      have hjl : j ≤ la := by
        apply Nat.le_of_not_lt; intro h
        exact hno j h hji hj3
      have : ((i : Int) - la) * s ≤ ((i : Int) - j) * s := Int.mul_le_mul_of_nonneg_right (by omega) (by omega)
      omega
  · rintro ⟨⟨e, he, b, hb, hb1, hs, hf⟩, hk⟩
    have hei := he.1
    have hbl : b ≤ la := by
      apply Nat.le_of_not_lt; intro h
      exact hno b h (by omega) hb1
    refine ⟨b, by omega, hb1, fun x h2 h3 => ?_, hf⟩
    rcases Nat.lt_or_ge e x with h | h
    · rcases Nat.eq_or_lt_of_le h3 with rfl | h'
      · exact .inr ⟨la, hbl, by omega, hla1, hk⟩
      · exact .inl (he.2.2 x h h')
    · exact hs x h2 h
/-- What a life is, ahead of a tick, in the quantifiers' words. -/
structure Inv (g : Nat → Int) (s f kp : Int) (i : Nat) (l : Int × Int × Int) : Prop where
  fit : Fits (i : Int) l
  two : l.1 = 2 ↔ ∃ e, Eff g i e ∧ Fi g s f kp e
  one : l.1 = 1 ↔ l.1 ≠ 2 ∧ ∃ e, Eff g i e ∧ g e = 1
  last : l.1 = 2 → ∃ la : Nat, l.2.2 = la ∧ la < i ∧ g la = 1 ∧ ∀ x, la < x → x < i → g x ≠ 1
  since : l.1 = 1 → ∃ b : Nat, l.2.1 = b ∧ b < i ∧ g b = 1 ∧ (∀ x, b ≤ x → x < i → g x ≠ 0) ∧ ∀ a, a < i → g a = 1 → (∀ x, a ≤ x → x < i → g x ≠ 0) → b ≤ a
  none_ : l.1 = 0 → l = (0, 0, 0)
  quick : f ≤ 0 → l.1 ≠ 1
theorem inv_skip {i : Nat} {l : Int × Int × Int} (h : Inv g s f kp i l) (h2 : g i = 2) : Inv g s f kp (i + 1) l := by
  obtain ⟨h1, h3, h4, h5, h6, h7, h8⟩ := h
  refine ⟨?_, ?_, ?_, ?_, ?_, h7, h8⟩
  · obtain ⟨a, b, c, d, e⟩ := h1; exact ⟨a, b, by omega, d, by omega⟩
  · rw [h3]; simp only [eff_two h2]
  · simp only [eff_two h2]; exact h4
  · intro h
    obtain ⟨la, e1, e2, e3, e4⟩ := h5 h
    refine ⟨la, e1, by omega, e3, fun x hx hx2 => ?_⟩
    rcases Nat.eq_or_lt_of_le (Nat.le_of_lt_succ hx2) with rfl | h'
    · omega
    · exact e4 x hx h'
  · intro h
    obtain ⟨b, e1, e2, e3, e4, e5⟩ := h6 h
    refine ⟨b, e1, by omega, e3, fun x hx hx2 => ?_, fun a ha ha1 hax => ?_⟩
    · rcases Nat.eq_or_lt_of_le (Nat.le_of_lt_succ hx2) with rfl | h'
      · omega
      · exact e4 x hx h'
    · rcases Nat.eq_or_lt_of_le (Nat.le_of_lt_succ ha) with rfl | h'
      · omega
      · exact e5 a h' ha1 (fun x hx hx2 => hax x hx (by omega))
theorem inv_step (hg : ∀ j, g j = 0 ∨ g j = 1 ∨ g j = 2) (s1 : 1 ≤ s) (k0 : 0 ≤ kp) {i : Nat} {l : Int × Int × Int} (h : Inv g s f kp i l) (h2 : g i ≠ 2) :
    Inv g s f kp (i + 1) (nx s f kp (i : Int) (g i == 1) l) := by
  have hfit := nx_fits (s := s) (f := f) (k := kp) (g i == 1) (show (0 : Int) ≤ (i : Int) by omega) h.fit
  have hcast : (i : Int) + 1 = ((i + 1 : Nat) : Int) := by omega
  rw [hcast] at hfit
  have e2 : (∃ e, Eff g (i + 1) e ∧ Fi g s f kp e) ↔ Fi g s f kp i := by simp only [eff_new h2]; simp
  have e1 : (∃ e, Eff g (i + 1) e ∧ g e = 1) ↔ g i = 1 := by simp only [eff_new h2]; simp
  obtain ⟨h1, h3, h4, h5, h6, h7, h8⟩ := h
  rcases hg i with c | c | c
  · -- it doesn't hold
    have hb : (g i == 1) = false := by rw [beq_eq_false_iff_ne]; omega
    rw [hb] at hfit ⊢
    by_cases q : l.1 = 2
    · obtain ⟨la, a1, a2, a3, a4⟩ := h5 q
      have hz := fi_zero (f := f) (kp := kp) s1 c a2 a3 a4
      by_cases r : ((i : Int) - la) * s ≤ kp
      · have hn : nx s f kp (i : Int) false l = l := by unfold nx; simp [q, a1, r]
        rw [hn] at hfit ⊢
        refine ⟨hfit, ?_, ?_, ?_, ?_, h7, h8⟩
        · rw [e2, hz]; exact ⟨fun hh => ⟨h3.1 hh, r⟩, fun hh => h3.2 hh.1⟩
        · rw [e1]; exact ⟨fun hh => by omega, fun hh => by omega⟩
        · intro _
          refine ⟨la, a1, by omega, a3, fun x hx hx2 => ?_⟩
          rcases Nat.eq_or_lt_of_le (Nat.le_of_lt_succ hx2) with rfl | h'
          · omega
          · exact a4 x hx h'
        · intro hh; omega
      · have hn : nx s f kp (i : Int) false l = (0, 0, 0) := by unfold nx; simp [q, a1, r]
        rw [hn] at hfit ⊢
        refine ⟨hfit, ?_, ?_, fun hh => by simp at hh, fun hh => by simp at hh, fun _ => rfl, fun _ => by simp⟩
        · rw [e2, hz]; simp [r]
        · rw [e1]; simp [c]
    · have hn : nx s f kp (i : Int) false l = (0, 0, 0) := by unfold nx; simp [q]
      rw [hn] at hfit ⊢
      have hnf : ¬ Fi g s f kp i := by
        rintro ⟨b, hb, hb1, hs, hf⟩
        have hlt : b < i := by
          rcases Nat.eq_or_lt_of_le hb with rfl | h
          · omega
          · exact h
        exact q (h3.2 (fi_back hlt hb1 hs hf))
      refine ⟨hfit, ?_, ?_, fun hh => by simp at hh, fun hh => by simp at hh, fun _ => rfl, fun _ => by simp⟩
      · rw [e2]; simp [hnf]
      · rw [e1]; simp [c]
  · -- it holds
    have hb : (g i == 1) = true := by simp [c]
    rw [hb] at hfit ⊢
    have ho := fi_one (f := f) (s := s) k0 c
    have lastI : ∃ la : Nat, (i : Int) = la ∧ la < i + 1 ∧ g la = 1 ∧ ∀ x, la < x → x < i + 1 → g x ≠ 1 := ⟨i, rfl, by omega, c, fun x h1 h2 => by omega⟩
    rcases h1.1 with q | q | q
    · -- it was idle: nothing holds behind the last nought
      have hq := h7 q
      have none1 : ∀ a, a < i → g a = 1 → ¬ ∀ x, a ≤ x → x < i → g x ≠ 0 := by
        intro a ha ha1 hx
        obtain ⟨e, he, hae⟩ := eff_exists (g := g) i a ha (by rw [ha1]; decide)
        have hne : ¬ ∃ e, Eff g i e ∧ g e = 1 := fun hh => by have := h4.2 ⟨by omega, hh⟩; omega
        rcases hg e with z | z | z
        · exact hx e hae he.1 z
        · exact hne ⟨e, he, z⟩
        · exact he.2.1 z
      have hfr : Fr g s f i (i + 1) ↔ f ≤ 0 := by
        constructor
        · rintro ⟨a, ha, ha1, haf, hru⟩
          rcases Nat.eq_or_lt_of_le (Nat.le_of_lt_succ ha) with rfl | h'
          · rwa [Int.sub_self, Int.zero_mul] at haf
          · exact absurd (fun x h1 h2 => hru x h1 (by omega)) (none1 a h' ha1)
        · intro hh
          exact ⟨i, by omega, c, by rw [Int.sub_self, Int.zero_mul]; exact hh, fun x h1 h2 => by have : x = i := (by omega); rw [this]; omega⟩
      have hnf : ¬ ∃ e, Eff g i e ∧ Fi g s f kp e := fun hh => by have := h3.2 hh; omega
      subst hq
      by_cases r : f ≤ 0
      · have hn : nx s f kp (i : Int) true (0, 0, 0) = (2, (i : Int), (i : Int)) := by unfold nx; simp [r]
        rw [hn] at hfit ⊢
        refine ⟨hfit, ?_, ?_, fun _ => lastI, fun hh => by simp at hh, fun hh => by simp at hh, fun _ => by simp⟩
        · rw [e2, ho, hfr]; simp [r]
        · rw [e1]; simp
      · have hn : nx s f kp (i : Int) true (0, 0, 0) = (1, (i : Int), (i : Int)) := by unfold nx; simp [r]
        rw [hn] at hfit ⊢
        refine ⟨hfit, ?_, ?_, fun hh => by simp at hh, fun _ => ?_, fun hh => by simp at hh, fun hh => absurd hh r⟩
        · rw [e2, ho, hfr]; simp [r, hnf]
        · rw [e1]; simp [c]
        · refine ⟨i, rfl, by omega, c, fun x h1 h2 => by have : x = i := (by omega); rw [this]; omega, fun a ha ha1 hax => ?_⟩
          rcases Nat.eq_or_lt_of_le (Nat.le_of_lt_succ ha) with rfl | h'
          · exact Nat.le_refl _
          · exact absurd (fun x h1 h2 => hax x h1 (by omega)) (none1 a h' ha1)
    · -- it was pending
      obtain ⟨b, b1, b2, b3, b4, b5⟩ := h6 q
      have hnf : ¬ ∃ e, Eff g i e ∧ Fi g s f kp e := fun hh => by have := h3.2 hh; omega
      have f0 : ¬ f ≤ 0 := fun hh => h8 hh q
      have hfr : Fr g s f i (i + 1) ↔ f ≤ ((i : Int) - b) * s := by
        constructor
        · rintro ⟨a, ha, ha1, haf, hru⟩
          rcases Nat.eq_or_lt_of_le (Nat.le_of_lt_succ ha) with rfl | h'
          · rw [Int.sub_self, Int.zero_mul] at haf; exact absurd haf f0
          · have hba := b5 a h' ha1 (fun x h1 h2 => hru x h1 (by omega))
            have : ((i : Int) - a) * s ≤ ((i : Int) - b) * s := Int.mul_le_mul_of_nonneg_right (by omega) (by omega)
            omega
        · intro hh
          refine ⟨b, by omega, b3, hh, fun x h1 h2 => ?_⟩
          rcases Nat.eq_or_lt_of_le h2 with rfl | h'
          · omega
          · exact b4 x h1 h'
      by_cases r : f ≤ ((i : Int) - b) * s
      · have hn : nx s f kp (i : Int) true l = (2, (b : Int), (i : Int)) := by unfold nx; simp [q, b1, r]
        rw [hn] at hfit ⊢
        refine ⟨hfit, ?_, ?_, fun _ => lastI, fun hh => by simp at hh, fun hh => by simp at hh, fun _ => by simp⟩
        · rw [e2, ho, hfr]; simp [r]
        · rw [e1]; simp
      · have hn : nx s f kp (i : Int) true l = (1, (b : Int), (i : Int)) := by unfold nx; simp [q, b1, r]
        rw [hn] at hfit ⊢
        refine ⟨hfit, ?_, ?_, fun hh => by simp at hh, fun _ => ?_, fun hh => by simp at hh, fun hh => absurd hh f0⟩
        · rw [e2, ho, hfr]; simp [r, hnf]
        · rw [e1]; simp [c]
        · refine ⟨b, rfl, by omega, b3, fun x h1 h2 => ?_, fun a ha ha1 hax => ?_⟩
          · rcases Nat.eq_or_lt_of_le (Nat.le_of_lt_succ h2) with rfl | h'
            · omega
            · exact b4 x h1 h'
          · rcases Nat.eq_or_lt_of_le (Nat.le_of_lt_succ ha) with rfl | h'
            · omega
            · exact b5 a h' ha1 (fun x h1 h2 => hax x h1 (by omega))
    · -- it fired
      have hn : nx s f kp (i : Int) true l = (2, l.2.1, (i : Int)) := by unfold nx; simp [q]
      rw [hn] at hfit ⊢
      refine ⟨hfit, ?_, ?_, fun _ => lastI, fun hh => by simp at hh, fun hh => by simp at hh, fun _ => by simp⟩
      · rw [e2, ho]; simp [h3.1 q]
      · rw [e1]; simp
  · exact absurd c h2
end
/-- The code of a drawn number. -/
def cd (x : Int) : Int := if x % 9 = 8 then 2 else if x % 9 > 5 then 0 else 1
def gOf (xs : List Int) (j : Nat) : Int := cd (xs.getD j 0)
def rowOf (xs : List Int) (i : Nat) : List Int := (List.range i).map (gOf xs)
theorem gOf_is (xs : List Int) (j : Nat) : gOf xs j = 0 ∨ gOf xs j = 1 ∨ gOf xs j = 2 := by unfold gOf cd; repeat' split; all_goals omega
theorem rowOf_succ (xs : List Int) (i : Nat) : rowOf xs i ++ [gOf xs i] = rowOf xs (i + 1) := by simp [rowOf, List.range_succ]
theorem rowOf_length (xs : List Int) (i : Nat) : (rowOf xs i).length = i := by simp [rowOf]
theorem looks_of (xs : List Int) (i : Nat) (hi : i ≤ 30) {s kp : Int} (h1 : 1 ≤ s) (h2 : s ≤ 9) (h3 : 0 ≤ kp) : Looks (rowOf xs i) (gOf xs) s kp :=
  ⟨fun j hj => by rw [rowOf_length] at hj; simp [rowOf, hj], by rw [rowOf_length]; omega, h1, h2, h3⟩
theorem tells_loop (xs : List Int) {s f kp : Int} (h1 : 1 ≤ s) (h2 : s ≤ 9) (f0 : 0 ≤ f) (f1 : f ≤ 40) (k0 : 0 ≤ kp) (k1 : kp ≤ 40) (d : Nat) : ∀ (i : Nat) (l : Int × Int × Int), i ≤ 25 → 25 - i = d → Inv (gOf xs) s f kp i l →
    Ev (fun k => klaxonlaw12_LifeTells.l0 k xs s f kp (rowOf xs i) l.1 (i : Int) l.1 l.2.1 l.2.2) true := by
  have hruns : Ev (fun k => klaxonlaw12_LifeRuns.f k) true := ⟨60, fun k hk => runs_true k hk⟩
  have hp : Par s f kp := ⟨h1, f0, by omega, k0, by omega⟩
  induction d with
  | zero =>
    intro i l hi hd inv
    have hend : Ev (fun k => klaxonlaw12_LifeTells.j1 k xs s f kp (rowOf xs i) l.1 (i : Int) false l.1 l.2.1 l.2.2) true := by
      refine Ev.step (f := fun k => (klaxonlaw12_LifeRuns.f k).bind fun t149 => (some t149)) (fun k => ?_) (Ev.bind hruns (Ev.now true))
      simp only [klaxonlaw12_LifeTells.j1]
      rw [if_neg (by decide)]
    have hdec : decide ((i : Int) < 25) = false := by simp; omega
    refine Ev.step (fun k => ?_) hend
    simp only [klaxonlaw12_LifeTells.l0, hdec]
    simp
  | succ d ih =>
    intro i l hi hd inv
    by_cases hlen : (i : Int) < (xs.length : Int)
    · have hdec : decide ((i : Int) < 25) = true := by simp; omega
      have hw : klaxonbook_Within.f (rd xs (i : Int)) 0 8 = some (xs.getD i 0 % 9) := by
        rw [within_val (by omega) (by omega) (by omega) (by omega), rd_getD]
        congr 1; omega
      have L := looks_of xs (i + 1) (by omega) h1 h2 k0
      have wsucc : wrap64 ((i : Int) + 1) = ((i + 1 : Nat) : Int) := wrap_succ i (by omega)
      have hj3 : Ev (fun k => klaxonlaw12_LifeTells.j3 k xs s f kp (rowOf xs i) l.1 (i : Int) (gOf xs i) l.1 l.2.1 l.2.2) true := by
        by_cases c2 : gOf xs i = 2
        · have inv' := inv_skip inv c2
          have hst := state_ev (f := f) L l.1 i (by rw [rowOf_length]; omega) inv'.two inv'.one inv'.fit.1
          have hnext := ih (i + 1) l (by omega) (by omega) inv'
          refine Ev.step (f := fun k => (klaxonref11_State.f k (rowOf xs (i + 1)) s f kp (i : Int)).bind fun t159 => (if l.1 = t159 then (if l.1 = 0 then (if (!(l.1 == 0) || (!(l.2.1 == 0) || (!(l.2.2 == 0)))) = true then (some false) else (if f = 0 then (if l.1 = 1 then (some false) else (klaxonlaw12_LifeTells.l0 k xs s f kp (rowOf xs (i + 1)) l.1 (wrap64 ((i : Int) + 1)) l.1 l.2.1 l.2.2)) else (klaxonlaw12_LifeTells.l0 k xs s f kp (rowOf xs (i + 1)) l.1 (wrap64 ((i : Int) + 1)) l.1 l.2.1 l.2.2))) else (if f = 0 then (if l.1 = 1 then (some false) else (klaxonlaw12_LifeTells.l0 k xs s f kp (rowOf xs (i + 1)) l.1 (wrap64 ((i : Int) + 1)) l.1 l.2.1 l.2.2)) else (klaxonlaw12_LifeTells.l0 k xs s f kp (rowOf xs (i + 1)) l.1 (wrap64 ((i : Int) + 1)) l.1 l.2.1 l.2.2))) else (some false))) (fun k => ?_) (Ev.bind hst ?_)
          · simp only [klaxonlaw12_LifeTells.j3]
            rw [if_pos (by rw [rowOf_length]; omega), rowOf_succ]
            simp only [Option.bind_some]
            rw [if_neg (by omega)]
          · refine Ev.congr (fun k => ?_) hnext
            rw [if_pos rfl, wsucc]
            have hq := inv'.quick
            by_cases z : l.1 = 0
            · have hz := inv'.none_ z
              subst hz
              simp
            · rw [if_neg z]
              by_cases fz : f = 0
              · rw [if_pos fz, if_neg (hq (by omega))]
              · rw [if_neg fz]
        · have inv' := inv_step (gOf_is xs) h1 k0 inv c2
          have hlt : gOf xs i < 2 := by rcases gOf_is xs i with h | h | h <;> omega
          generalize hnew : nx s f kp (i : Int) (gOf xs i == 1) l = l' at inv'
          have hst := state_ev (f := f) L l'.1 i (by rw [rowOf_length]; omega) inv'.two inv'.one inv'.fit.1
          have hnext := ih (i + 1) l' (by omega) (by omega) inv'
          have hnv : Ev (fun k => life_Life_Next.f k l.1 l.2.1 l.2.2 (i : Int) s f kp (gOf xs i == 1)) l' :=
            ⟨1, fun k hk => by have := next_val hp (gOf xs i == 1) inv.fit (by omega) k (by omega); rw [hnew] at this; exact this⟩
          refine Ev.step (f := fun k => (life_Life_Next.f k l.1 l.2.1 l.2.2 (i : Int) s f kp (gOf xs i == 1)).bind fun bt155 => ((klaxonref11_State.f k (rowOf xs (i + 1)) s f kp (i : Int)).bind fun t158 => (if bt155.1 = t158 then (if bt155.1 = 0 then (if (!(bt155.1 == 0) || (!(bt155.2.1 == 0) || (!(bt155.2.2 == 0)))) = true then (some false) else (if f = 0 then (if bt155.1 = 1 then (some false) else (klaxonlaw12_LifeTells.l0 k xs s f kp (rowOf xs (i + 1)) bt155.1 (wrap64 ((i : Int) + 1)) bt155.1 bt155.2.1 bt155.2.2)) else (klaxonlaw12_LifeTells.l0 k xs s f kp (rowOf xs (i + 1)) bt155.1 (wrap64 ((i : Int) + 1)) bt155.1 bt155.2.1 bt155.2.2))) else (if f = 0 then (if bt155.1 = 1 then (some false) else (klaxonlaw12_LifeTells.l0 k xs s f kp (rowOf xs (i + 1)) bt155.1 (wrap64 ((i : Int) + 1)) bt155.1 bt155.2.1 bt155.2.2)) else (klaxonlaw12_LifeTells.l0 k xs s f kp (rowOf xs (i + 1)) bt155.1 (wrap64 ((i : Int) + 1)) bt155.1 bt155.2.1 bt155.2.2))) else (some false)))) (fun k => ?_) (Ev.bind hnv (Ev.bind hst ?_))
          · simp only [klaxonlaw12_LifeTells.j3]
            rw [if_pos (by rw [rowOf_length]; omega), rowOf_succ]
            simp only [Option.bind_some]
            rw [if_pos hlt]
          · refine Ev.congr (fun k => ?_) hnext
            rw [if_pos rfl, wsucc]
            have hq := inv'.quick
            by_cases z : l'.1 = 0
            · have hz := inv'.none_ z
              subst hz
              simp
            · rw [if_neg z]
              by_cases fz : f = 0
              · rw [if_pos fz, if_neg (hq (by omega))]
              · rw [if_neg fz]
      have hj2 : Ev (fun k => klaxonlaw12_LifeTells.j2 k xs s f kp (rowOf xs i) l.1 (i : Int) (xs.getD i 0 % 9) (if xs.getD i 0 % 9 > 5 then 0 else 1) l.1 l.2.1 l.2.2) true := by
        refine Ev.step (fun k => ?_) hj3
        simp only [klaxonlaw12_LifeTells.j2]
        unfold gOf cd
        by_cases c8 : xs.getD i 0 % 9 = 8
        · simp only [c8, if_true]
        · simp only [if_neg c8]
      have hj1 : Ev (fun k => klaxonlaw12_LifeTells.j1 k xs s f kp (rowOf xs i) l.1 (i : Int) true l.1 l.2.1 l.2.2) true := by
        refine Ev.step (fun k => ?_) hj2
        simp only [klaxonlaw12_LifeTells.j1]
        rw [if_pos trivial, if_pos (by omega), if_pos hlen, hw]
        simp only [Option.bind_some]
        by_cases c5 : xs.getD i 0 % 9 > 5
        · rw [if_pos c5, if_pos c5]
        · rw [if_neg c5, if_neg c5]
      refine Ev.step (fun k => ?_) hj1
      simp only [klaxonlaw12_LifeTells.l0, hdec]
      rw [if_pos hlen]
    · have hend : Ev (fun k => klaxonlaw12_LifeTells.j1 k xs s f kp (rowOf xs i) l.1 (i : Int) false l.1 l.2.1 l.2.2) true := by
        refine Ev.step (f := fun k => (klaxonlaw12_LifeRuns.f k).bind fun t149 => (some t149)) (fun k => ?_) (Ev.bind hruns (Ev.now true))
        simp only [klaxonlaw12_LifeTells.j1]
        rw [if_neg (by decide)]
      refine Ev.step (fun k => ?_) hend
      simp only [klaxonlaw12_LifeTells.l0]
      rw [if_neg hlen]
theorem LifeTells : klaxonlaw12_LifeTells.Pure := by
  intro xs a1 a2 a3 _ _ _ _ _ _
  obtain ⟨s, hs, s0, s1⟩ := within_some (n := a1) (lo := 1) (hi := 9) (by omega) (by omega) (by omega) (by omega)
  obtain ⟨f, hf, f0, f1⟩ := within_some (n := a2) (lo := 0) (hi := 40) (by omega) (by omega) (by omega) (by omega)
  obtain ⟨kp, hk, k0, k1⟩ := within_some (n := a3) (lo := 0) (hi := 40) (by omega) (by omega) (by omega) (by omega)
  have inv : Inv (gOf xs) s f kp 0 (0, 0, 0) := by
    refine ⟨⟨by simp, by simp, by simp, by simp, by simp⟩, ?_, ?_, fun h => by simp at h, fun h => by simp at h, fun _ => rfl, fun _ => by simp⟩
    · simp [Eff]
    · simp [Eff]
  have := tells_loop xs s0 s1 f0 f1 k0 k1 25 0 (0, 0, 0) (by omega) (by omega) inv
  obtain ⟨k, hk2⟩ := Ev.rounds this
  refine ⟨k, ?_⟩
  unfold klaxonlaw12_LifeTells.f
  rw [hs, hf, hk]
  simpa [rowOf] using hk2

end Go.Proofs.Ytkppbflmlpabjaa.Pure
