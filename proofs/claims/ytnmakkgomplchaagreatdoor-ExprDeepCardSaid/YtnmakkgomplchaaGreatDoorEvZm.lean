/- A run whose first tests are taken for true, the rest as they come; klaxonbook.Within. No condition. -/
import Derived.Test.YtnmakkgomplchaaGreatDoorEvZk
import Derived.KernelRfl
namespace Go.Ev
set_option linter.unusedVariables false
set_option linter.unusedSimpArgs false
set_option linter.unusedSectionVars false

/-- The first tests as told, the rest as they come. -/
def M.mixed {α : Type} : List Bool → M α → Option (α × List Bool)
  | [], m => match m.run with
    | some a => some (a, [])
    | none => none
  | _ :: _, .ret a => some (a, [])
  | _ :: _, .fail => none
  | p :: ps, .br b k => match M.mixed ps (k p) with
    | none => none
    | some (a, cs) => some (a, (b == p) :: cs)

theorem M.run_of_mixed {α : Type} : ∀ (ps : List Bool) (m : M α) (a : α) (cs : List Bool), m.mixed ps = some (a, cs) → cs.all id = true → m.run = some a
  | [], m, a, cs, h, _ => by
    simp only [M.mixed] at h
    split at h
    · rename_i b hb; simp only [Option.some.injEq, Prod.mk.injEq] at h; rw [hb, h.1]
    · cases h
  | p :: ps, .ret b, a, cs, h, _ => by simp only [M.mixed, Option.some.injEq, Prod.mk.injEq] at h; simp only [M.run, h.1]
  | p :: ps, .fail, a, cs, h, _ => by simp [M.mixed] at h
  | p :: ps, .br b k, a, cs, h, hc => by
    simp only [M.mixed] at h
    cases hp : M.mixed ps (k p) with
    | none => rw [hp] at h; cases h
    | some x =>
      rw [hp] at h
      obtain ⟨x1, x2⟩ := x
      simp only [Option.some.injEq, Prod.mk.injEq] at h
      obtain ⟨rfl, rfl⟩ := h
      simp at hc
      have := M.run_of_mixed ps (k p) _ _ hp (by simpa using hc.2)
      simp only [M.run]
      rw [hc.1]
      exact this

/-- What klaxonbook.Within comes to. -/
def withinI (n lo hi : Int) : Int := lo + n % (hi - lo + 1)

def w64 (n : Int) : Int := IntKind.wrap .i64 n

theorem w64_id {n : Int} (h1 : -9223372036854775808 ≤ n) (h2 : n ≤ 9223372036854775807) : w64 n = n := by
  show (if (true && decide (n % 18446744073709551616 ≥ 9223372036854775808)) = true then n % 18446744073709551616 - 18446744073709551616 else n % 18446744073709551616) = n
  simp only [Bool.true_and, decide_eq_true_eq]
  split <;> omega

/-- klaxonbook.Within, compiled. -/
def withinFn : AFn := ⟨24, [(6, none)],
  .seq (.region [⟨some 6, none, .mv, [.val (.d (.int .i64 0))]⟩] none)
  (.seq (.region [⟨some 7, none, .mv, [.tmp 0]⟩, ⟨some 8, none, .mv, [.tmp 2]⟩, ⟨some 9, none, .mv, [.tmp 1]⟩, ⟨some 10, none, .bin .sub, [.tmp 8, .tmp 9]⟩, ⟨some 11, none, .bin .add, [.tmp 10, .val (.d (.int .i64 1))]⟩, ⟨some 12, none, .bin .rem, [.tmp 7, .tmp 11]⟩, ⟨some 0, none, .mv, [.tmp 12]⟩] none)
  (.seq (.seq (.region [⟨some 13, none, .mv, [.tmp 0]⟩, ⟨some 14, none, .bin .lss, [.tmp 13, .val (.d (.int .i64 0))]⟩] none)
  (.cnd (.tmp 14) (.region [⟨some 15, none, .mv, [.tmp 0]⟩, ⟨some 16, none, .mv, [.tmp 2]⟩, ⟨some 17, none, .bin .add, [.tmp 15, .tmp 16]⟩, ⟨some 18, none, .mv, [.tmp 1]⟩, ⟨some 19, none, .bin .sub, [.tmp 17, .tmp 18]⟩, ⟨some 20, none, .bin .add, [.tmp 19, .val (.d (.int .i64 1))]⟩, ⟨some 0, none, .mv, [.tmp 20]⟩] none) .skip))
  (.seq (.region [⟨some 21, none, .mv, [.tmp 1]⟩, ⟨some 22, none, .mv, [.tmp 0]⟩, ⟨some 23, none, .bin .add, [.tmp 21, .tmp 22]⟩, ⟨some 6, none, .mv, [.tmp 23]⟩] none) .ret))), true, false⟩

def withinM (n lo hi : Int) : Int := w64 (w64 (hi - lo) + 1)

theorem within_pos (n lo hi : Int) (F : FuncId → Option AFn) (S : FuncId → Option (List AV → Boxes → M (AV × Boxes))) (f : FuncId) (m : Nat) (hF : F f = some withinFn) (hS : S f = none) :
    (evCall F S (m + 2) f [.d (.int .i64 n), .d (.int .i64 lo), .d (.int .i64 hi)] []).path [true, false] = some ((.d (.int .i64 (w64 (lo + Int.tmod n (withinM n lo hi)))), []), [(!decide (withinM n lo hi = 0)) == true, decide (Int.tmod n (withinM n lo hi) < 0) == false]) := by
  unfold evCall
  rw [hS, hF]
  kernel_rfl

theorem within_neg (n lo hi : Int) (F : FuncId → Option AFn) (S : FuncId → Option (List AV → Boxes → M (AV × Boxes))) (f : FuncId) (m : Nat) (hF : F f = some withinFn) (hS : S f = none) :
    (evCall F S (m + 2) f [.d (.int .i64 n), .d (.int .i64 lo), .d (.int .i64 hi)] []).path [true, true] = some ((.d (.int .i64 (w64 (lo + w64 (w64 (w64 (Int.tmod n (withinM n lo hi) + hi) - lo) + 1)))), []), [(!decide (withinM n lo hi = 0)) == true, decide (Int.tmod n (withinM n lo hi) < 0) == true]) := by
  unfold evCall
  rw [hS, hF]
  kernel_rfl

theorem within_run (n lo hi : Int) (F : FuncId → Option AFn) (S : FuncId → Option (List AV → Boxes → M (AV × Boxes))) (f : FuncId) (m : Nat) (hF : F f = some withinFn) (hS : S f = none)
    (h1 : -4611686018427387904 ≤ lo) (h2 : lo ≤ hi) (h3 : hi ≤ 2305843009213693951) (h4 : hi - lo ≤ 2305843009213693951) :
    (evCall F S (m + 2) f [.d (.int .i64 n), .d (.int .i64 lo), .d (.int .i64 hi)] []).run = some (.d (.int .i64 (withinI n lo hi)), []) := by
  have hm : withinM n lo hi = hi - lo + 1 := by
    unfold withinM
    rw [w64_id (n := hi - lo) (by omega) (by omega), w64_id (by omega) (by omega)]
  have hp : 0 < hi - lo + 1 := by omega
  have e1 := Int.emod_nonneg n (b := hi - lo + 1) (by omega)
  have e2 := Int.emod_lt_of_pos n hp
  by_cases hneg : Int.tmod n (hi - lo + 1) < 0
  · have ht : n % (hi - lo + 1) = Int.tmod n (hi - lo + 1) + (hi - lo + 1) := by
      rw [Int.tmod_eq_emod] at hneg ⊢
      split at hneg
      · omega
      · rename_i h; rw [if_neg h]; rw [Int.natAbs_of_nonneg (by omega)]; omega
    have hgt : -(hi - lo + 1) ≤ Int.tmod n (hi - lo + 1) := by omega
    have := M.run_of_path _ _ _ _ (within_neg n lo hi F S f m hF hS) (by rw [hm]; simp [hneg]; omega)
    rw [this, hm]
    simp only [Option.some.injEq, Prod.mk.injEq, and_true, AV.d.injEq, D.int.injEq, true_and]
    unfold withinI
    rw [ht]
    rw [w64_id (n := Int.tmod n (hi - lo + 1) + hi) (by omega) (by omega), w64_id (n := Int.tmod n (hi - lo + 1) + hi - lo) (by omega) (by omega), w64_id (n := Int.tmod n (hi - lo + 1) + hi - lo + 1) (by omega) (by omega), w64_id (by omega) (by omega)]
    omega
  · have ht : n % (hi - lo + 1) = Int.tmod n (hi - lo + 1) := by
      rw [Int.tmod_eq_emod] at hneg ⊢
      split at hneg
      · rename_i h; rw [if_pos h]
        simp
      · rename_i h; rw [if_neg h]; rw [Int.natAbs_of_nonneg (by omega)] at hneg ⊢; omega
    have := M.run_of_path _ _ _ _ (within_pos n lo hi F S f m hF hS) (by rw [hm]; simp; omega)
    rw [this, hm]
    simp only [Option.some.injEq, Prod.mk.injEq, and_true, AV.d.injEq, D.int.injEq, true_and]
    unfold withinI
    rw [ht]
    rw [w64_id (by omega) (by omega)]

/-- Within, as a call. -/
def withinS : List AV → Boxes → M (AV × Boxes) := fun as B => match as with
  | [.d (.int .i64 n), .d (.int .i64 lo), .d (.int .i64 hi)] => .chk (decide (-4611686018427387904 ≤ lo) && decide (lo ≤ hi) && decide (hi ≤ 2305843009213693951) && decide (hi - lo ≤ 2305843009213693951)) (.ret (.d (.int .i64 (withinI n lo hi)), B))
  | _ => .fail

/-- Within at one number whose result is known. -/
def withinAt (n lo hi c : Int) : List AV → Boxes → M (AV × Boxes) := fun as B => match as with
  | [.d (.int .i64 n'), .d (.int .i64 lo'), .d (.int .i64 hi')] => .chk (decide (n' = n)) (.ifb (decide (lo' = lo) && decide (hi' = hi)) (.ret (.d (.int .i64 c), B)))
  | _ => .fail

variable [Ctx]
section
variable {P : Program} [TagOK P]

/-- A call over plain cells, shown without boxes, with whatever boxes. -/
theorem plainCall_at (hm : P.follows .mixedOrders = true) {kinds : FuncId → Bool × Bool} {S : FuncId → Option (List AV → Boxes → M (AV × Boxes))} (hS : ∀ f s, S f = some s → CallAt P f s) {f : FuncId} {g : List D → M AV} 
    (h : ∀ ds r, (g ds).run = some r → ∃ n, (evCall (fnsOf P kinds) S n f (ds.map .d) []).run = some (r, [])) : CallAt P f (plainV g) :=
  plainV_at fun ds r hr => by
    obtain ⟨n, hn⟩ := h ds r hr
    exact known hm hS hn

def withinD (ok : Int → Int → Int → Bool) (c : Int → Int → Int → Int) : List D → M AV
  | [.int .i64 n, .int .i64 lo, .int .i64 hi] => .chk (ok n lo hi) (.ret (.d (.int .i64 (c n lo hi))))
  | _ => .fail

theorem within_at (hm : P.follows .mixedOrders = true) {kinds : FuncId → Bool × Bool} {f : FuncId} (hF : fnsOf P kinds f = some withinFn) : CallAt P f withinS := by
  have hp : CallAt P f (plainV (withinD (fun n lo hi => decide (-4611686018427387904 ≤ lo) && decide (lo ≤ hi) && decide (hi ≤ 2305843009213693951) && decide (hi - lo ≤ 2305843009213693951)) withinI)) := by
    refine plainCall_at hm (kinds := kinds) (S := fun _ => none) (fun f s h => by cases h) fun ds r hr => ?_
    unfold withinD at hr
    split at hr
    · rename_i n lo hi
      obtain ⟨hc, hr⟩ := (M.run_chk _ _ _).1 hr
      simp only [M.run, Option.some.injEq] at hr
      subst hr
      simp only [Bool.and_eq_true, decide_eq_true_eq] at hc
      exact ⟨2, within_run n lo hi _ _ f 0 hF rfl hc.1.1.1 hc.1.1.2 hc.1.2 hc.2⟩
    · simp [M.run] at hr
  intro as B r B' hr
  refine hp as B r B' ?_
  unfold withinS at hr
  split at hr
  · rename_i n lo hi
    obtain ⟨hc, hr⟩ := (M.run_chk _ _ _).1 hr
    have : (plainV (withinD (fun n lo hi => decide (-4611686018427387904 ≤ lo) && decide (lo ≤ hi) && decide (hi ≤ 2305843009213693951) && decide (hi - lo ≤ 2305843009213693951)) withinI) [.d (.int .i64 n), .d (.int .i64 lo), .d (.int .i64 hi)] B) = .chk (decide (-4611686018427387904 ≤ lo) && decide (lo ≤ hi) && decide (hi ≤ 2305843009213693951) && decide (hi - lo ≤ 2305843009213693951)) (.ret (.d (.int .i64 (withinI n lo hi)), B)) := by
      simp only [plainV, asDs, optM, withinD, M.bind, M.chk]
      congr 1
      funext p
      cases p <;> rfl
    rw [this]
    exact (M.run_chk _ _ _).2 ⟨hc, hr⟩
  · simp [M.run] at hr

theorem withinAt_at {f : FuncId} (h : CallAt P f withinS) {n lo hi c : Int} (hc : withinI n lo hi = c) (hb : (decide (-4611686018427387904 ≤ lo) && decide (lo ≤ hi) && decide (hi ≤ 2305843009213693951) && decide (hi - lo ≤ 2305843009213693951)) = true) : CallAt P f (withinAt n lo hi c) := by
  intro as B r B' hr
  refine h as B r B' ?_
  unfold withinAt at hr
  split at hr
  · rename_i n' lo' hi'
    obtain ⟨h1, hr1⟩ := (M.run_chk _ _ _).1 hr
    obtain ⟨h2, hr2⟩ := (M.run_ifb _ _ _).1 hr1
    simp only [Bool.and_eq_true, decide_eq_true_eq] at h1 h2
    obtain ⟨rfl, rfl⟩ := h2
    subst h1
    show (M.chk _ (M.ret (AV.d (D.int .i64 (withinI n' lo' hi')), B))).run = _
    rw [hc]
    exact (M.run_chk _ _ _).2 ⟨hb, hr2⟩
  · simp [M.run] at hr

end
end Go.Ev
