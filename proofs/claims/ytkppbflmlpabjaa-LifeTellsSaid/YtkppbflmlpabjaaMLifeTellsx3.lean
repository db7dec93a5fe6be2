/- Walks of functions that the law LifeTells reaches: written by a program of this session (adapt.py) out of a print that fell in Lean; 0 places in it are turned by the session. -/
import Derived.Test.YtkppbflmlpabjaaPLifeTellsx0
namespace Go.Proofs.Ytkppbflmlpabjaa.PLifeTells
open Go.RowKit Go.Proofs.YtkppbflmlpabjaaW.PrintWords Go.Proofs.YtkppbflmlpabjaaW.PrintLast Go.Proofs.YtkppbflmlpabjaaW.PrintMore
attribute [local go_sem] max2_int min2_int max_two min_two max_three min_three max_four min_four   -- for this text's walks alone
set_option linter.unusedVariables false
set_option linter.unusedSimpArgs false

/-! ### klaxonbook_Within: function 22 -/
def klaxonbook_Within.f (a0 : Int) (a1 : Int) (a2 : Int) : Option (Int) := if (wrap64 ((wrap64 (a2 - a1)) + 1)) = 0 then (none) else (if (Int.tmod a0 (wrap64 ((wrap64 (a2 - a1)) + 1))) < 0 then (some (wrap64 (a1 + (wrap64 ((wrap64 ((wrap64 ((Int.tmod a0 (wrap64 ((wrap64 (a2 - a1)) + 1))) + a2)) - a1)) + 1))))) else (some (wrap64 (a1 + (Int.tmod a0 (wrap64 ((wrap64 (a2 - a1)) + 1)))))))
set_option maxHeartbeats 8000000 in
set_option maxRecDepth 100000 in
theorem klaxonbook_Within.calls (a0 : Int) (a1 : Int) (a2 : Int) (r : Int) (w : World) (h : klaxonbook_Within.f a0 a1 a2 = some r) :
    Calls Try.prog 22 #[.int .i64 a0, .int .i64 a1, .int .i64 a2] w fun e w' => e = .returned (.int .i64 r) ∧ Drawn0 w w' := by
  have H : (if (wrap64 ((wrap64 (a2 - a1)) + 1)) = 0 then (none) else (if (Int.tmod a0 (wrap64 ((wrap64 (a2 - a1)) + 1))) < 0 then (some (wrap64 (a1 + (wrap64 ((wrap64 ((wrap64 ((Int.tmod a0 (wrap64 ((wrap64 (a2 - a1)) + 1))) + a2)) - a1)) + 1))))) else (some (wrap64 (a1 + (Int.tmod a0 (wrap64 ((wrap64 (a2 - a1)) + 1)))))))) = some r := h
  clear h
  by_cases c4 : (wrap64 ((wrap64 (a2 - a1)) + 1)) = 0
  · rw [if_pos c4] at H
    exact absurd H (by simp)
  · rw [if_neg c4] at H
    have c4b0 : ((wrap64 ((wrap64 (a2 - a1)) + 1)) == 0) = false := beq_eq_false_iff_ne.mpr c4
    have c4b1 : ((wrap64 ((wrap64 (a2 - a1)) + 1)) != 0) = true := bne_iff_ne.mpr c4
    by_cases c5 : (Int.tmod a0 (wrap64 ((wrap64 (a2 - a1)) + 1))) < 0
    · rw [if_pos c5] at H
      have c5b0 : decide ((Int.tmod a0 (wrap64 ((wrap64 (a2 - a1)) + 1))) < 0) = true := decide_eq_true c5
      clear c5
      obtain rfl := Option.some.inj H
      go_enter Try.func22, Try.ntmps22
      go_wp2
      go_ret
      exact ⟨by first | rfl | (simp; done) | (simp [*]; done), by repeat (first | exact Drawn0.refl _ | apply Drawn0.step)⟩
    · rw [if_neg c5] at H
      have c5b0 : decide ((Int.tmod a0 (wrap64 ((wrap64 (a2 - a1)) + 1))) < 0) = false := decide_eq_false c5
      clear c5
      obtain rfl := Option.some.inj H
      go_enter Try.func22, Try.ntmps22
      go_wp2
      go_ret
      exact ⟨by first | rfl | (simp; done) | (simp [*]; done), by repeat (first | exact Drawn0.refl _ | apply Drawn0.step)⟩

/-! ### klaxonref11_stays: function 42 -/
mutual
def klaxonref11_stays.l0 : Nat → List Int → Int → Int → Int → Int → Int → Option (Bool)
  | 0, _, _, _, _, _, _ => none
  | k + 1, x0, x1, x2, x3, x4, x11 => if x11 ≤ x4 then (if 0 ≤ x11 then (if x11 < (x0.length : Int) then (klaxonref11_stays.l1 k x0 x1 x2 x3 x4 x11 ((rd x0 x11) == 2) x3) else (none)) else (none)) else (some true)
def klaxonref11_stays.l1 : Nat → List Int → Int → Int → Int → Int → Int → Bool → Int → Option (Bool)
  | 0, _, _, _, _, _, _, _, _ => none
  | k + 1, x0, x1, x2, x3, x4, x11, x12, x13 => if x13 ≤ x11 then (if x12 = true then (klaxonref11_stays.l1 k x0 x1 x2 x3 x4 x11 true (wrap64 (x13 + 1))) else (if 0 ≤ x13 then (if x13 < (x0.length : Int) then (if (rd x0 x13) = 1 then (klaxonref11_stays.l1 k x0 x1 x2 x3 x4 x11 (decide ((wrap64 ((wrap64 (x11 - x13)) * x1)) ≤ x2)) (wrap64 (x13 + 1))) else (klaxonref11_stays.l1 k x0 x1 x2 x3 x4 x11 false (wrap64 (x13 + 1)))) else (none)) else (none))) else (if x12 = true then (klaxonref11_stays.l0 k x0 x1 x2 x3 x4 (wrap64 (x11 + 1))) else (some false))
end
def klaxonref11_stays.f (k : Nat) (l0 : List Int) (a1 : Int) (a2 : Int) (a3 : Int) (a4 : Int) : Option (Bool) := klaxonref11_stays.l0 k l0 a1 a2 a3 a4 (wrap64 (a3 + 1))
theorem klaxonref11_stays.mono_l : ∀ k, (∀ y0 y1 y2 y3 y4 y5, LeO (klaxonref11_stays.l0 k y0 y1 y2 y3 y4 y5) (klaxonref11_stays.l0 (k + 1) y0 y1 y2 y3 y4 y5)) ∧ (∀ y0 y1 y2 y3 y4 y5 y6 y7, LeO (klaxonref11_stays.l1 k y0 y1 y2 y3 y4 y5 y6 y7) (klaxonref11_stays.l1 (k + 1) y0 y1 y2 y3 y4 y5 y6 y7))
  | 0 => ⟨fun _ _ _ _ _ _ r h => by simp [klaxonref11_stays.l0] at h, fun _ _ _ _ _ _ _ _ r h => by simp [klaxonref11_stays.l1] at h⟩
  | k + 1 => by
    obtain ⟨ih0, ih1⟩ := klaxonref11_stays.mono_l k
    refine ⟨?_, ?_⟩
    · intro y0 y1 y2 y3 y4 y5
      unfold klaxonref11_stays.l0
      repeat' first
      | (with_reducible exact ih0 _ _ _ _ _ _)
      | (with_reducible exact ih1 _ _ _ _ _ _ _ _)
      | (with_reducible exact LeO.refl _)
      | (with_reducible exact LeO.none _)
      | (with_reducible refine LeO.ite ?_ ?_)
      | (with_reducible refine LeO.bind ?_ (fun _ => ?_))
      | exact ih0 _ _ _ _ _ _
      | exact ih1 _ _ _ _ _ _ _ _
      | exact LeO.none _
      | refine LeO.ite ?_ ?_
      | refine LeO.bind ?_ (fun _ => ?_)
    · intro y0 y1 y2 y3 y4 y5 y6 y7
      unfold klaxonref11_stays.l1
      repeat' first
      | (with_reducible exact ih0 _ _ _ _ _ _)
      | (with_reducible exact ih1 _ _ _ _ _ _ _ _)
      | (with_reducible exact LeO.refl _)
      | (with_reducible exact LeO.none _)
      | (with_reducible refine LeO.ite ?_ ?_)
      | (with_reducible refine LeO.bind ?_ (fun _ => ?_))
      | exact ih0 _ _ _ _ _ _
      | exact ih1 _ _ _ _ _ _ _ _
      | exact LeO.none _
      | refine LeO.ite ?_ ?_
      | refine LeO.bind ?_ (fun _ => ?_)
theorem klaxonref11_stays.mono : ∀ a0 a1 a2 a3 a4 k, LeO (klaxonref11_stays.f k a0 a1 a2 a3 a4) (klaxonref11_stays.f (k + 1) a0 a1 a2 a3 a4) := by
  intro a0 a1 a2 a3 a4 k
  obtain ⟨ih0, ih1⟩ := klaxonref11_stays.mono_l k
  unfold klaxonref11_stays.f
  repeat' first
      | (with_reducible exact ih0 _ _ _ _ _ _)
      | (with_reducible exact ih1 _ _ _ _ _ _ _ _)
      | (with_reducible exact LeO.refl _)
      | (with_reducible exact LeO.none _)
      | (with_reducible refine LeO.ite ?_ ?_)
      | (with_reducible refine LeO.bind ?_ (fun _ => ?_))
      | exact ih0 _ _ _ _ _ _
      | exact ih1 _ _ _ _ _ _ _ _
      | exact LeO.none _
      | refine LeO.ite ?_ ?_
      | refine LeO.bind ?_ (fun _ => ?_)
set_option maxHeartbeats 8000000 in
set_option maxRecDepth 100000 in
theorem klaxonref11_stays.calls (k : Nat) (A0 : Option Addr) (c0 : Nat) (l0 : List Int) (a1 : Int) (a2 : Int) (a3 : Int) (a4 : Int) (r : Bool) (w : World) (hr0 : Kd.C (Kd.int .i64) w A0 l0.length l0) (hc0 : l0.length ≤ c0) (h : klaxonref11_stays.f k l0 a1 a2 a3 a4 = some r) :
    Calls Try.prog 42 #[.slice A0 l0.length c0, .int .i64 a1, .int .i64 a2, .int .i64 a3, .int .i64 a4] w fun e w' => e = .returned (.bool r) ∧ Drawn0 w w' := by
  have HR0 := Aside0.mk hr0
  have HC0 := Aside0.mk hc0
  clear hr0 hc0
  have H : (klaxonref11_stays.l0 k l0 a1 a2 a3 a4 (wrap64 (a3 + 1))) = some r := h
  clear h
  have H' := Aside0.mk H
  clear H
  go_enter Try.func42, Try.ntmps42
  go_wp2
  go_loopg [11] k (fun kq v11 w' => ∃ (x11_1 : Int), v11 = .int .i64 x11_1 ∧ Aside0 (klaxonref11_stays.l0 kq l0 a1 a2 a3 a4 x11_1 = some r) ∧ Aside0 (kq ≤ k) ∧ Drawn0 w w')
  case atStart => exact ⟨(wrap64 (a3 + 1)), (by first | rfl | (simp; done) | (simp [*]; done)), H', ⟨Nat.le_refl _⟩, by repeat (first | exact Drawn0.refl _ | apply Drawn0.step)⟩
  case round =>
    clear H'
    try clear p2
    try clear c4
    obtain ⟨x11_1, rfl, HA, HK1, ⟨m1, rfl⟩⟩ := hrel
    cases gk with
    | zero => exact absurd HA.out (by simp [klaxonref11_stays.l0])
    | succ k1 =>
      have H := HA.out
      clear HA
      simp only [klaxonref11_stays.l0] at H
      by_cases c6 : x11_1 ≤ a4
      · rw [if_pos c6] at H
        have c6b0 : decide (x11_1 ≤ a4) = true := decide_eq_true c6
        clear c6
        by_cases c7 : 0 ≤ x11_1
        · rw [if_pos c7] at H
          have c7b0 : decide (0 ≤ x11_1) = true := decide_eq_true c7
          clear c7
          by_cases c8 : x11_1 < (l0.length : Int)
          · rw [if_pos c8] at H
            have c8b0 : decide (x11_1 < (l0.length : Int)) = true := decide_eq_true c8
            clear c8
            have H' := Aside0.mk H
            clear H
            have p133 : 0 ≤ (x11_1 : Int) := of_decide_eq_true (by first | (with_reducible assumption) | assumption)
            have q133 : x11_1 < (l0.length : Int) := of_decide_eq_true (by first | (with_reducible assumption) | assumption)
            obtain ⟨ad133, e133, hx133_0⟩ := Kd.at_int HR0.out x11_1 p133 q133
            cases e133
            replace p133 := eq_true p133
            replace q133 := eq_true q133
            go_wp2
            go_loopg [12, 13] k1 (fun kq v12 v13 w' => ∃ (x12_2 : Bool) (x13_2 : Int), v12 = .bool x12_2 ∧ v13 = .int .i64 x13_2 ∧ Aside0 (klaxonref11_stays.l1 kq l0 a1 a2 a3 a4 x11_1 x12_2 x13_2 = some r) ∧ Aside0 (kq ≤ k1) ∧ Drawn0 w w')
            case atStart => exact ⟨(((rd l0 x11_1) == 2)), (a3), (by first | rfl | (simp; done) | (simp [*]; done)), (by first | rfl | (simp; done) | (simp [*]; done)), H', ⟨Nat.le_refl _⟩, by repeat (first | exact Drawn0.refl _ | apply Drawn0.step)⟩
            case round =>
              clear H'
              try clear p1
              try clear q1
              try clear hx1
              try clear p2
              try clear c4
              try clear c6
              try clear c6b0
              try clear p6
              try clear c7
              try clear c7b0
              try clear c8
              try clear c8b0
              try clear hx133_0
              try clear p133
              try clear p2
              try clear q133
              obtain ⟨x12_2, x13_2, rfl, rfl, HA, HK2, ⟨m2, rfl⟩⟩ := hrel
              cases gk with
              | zero => exact absurd HA.out (by simp [klaxonref11_stays.l1])
              | succ k2 =>
                have H := HA.out
                clear HA
                simp only [klaxonref11_stays.l1] at H
                by_cases c9 : x13_2 ≤ x11_1
                · rw [if_pos c9] at H
                  have c9b0 : decide (x13_2 ≤ x11_1) = true := decide_eq_true c9
                  clear c9
                  by_cases c10 : x12_2 = true
                  · subst c10
                    have H1 : (klaxonref11_stays.l1 k2 l0 a1 a2 a3 a4 x11_1 true (wrap64 (x13_2 + 1))) = some r := by rw [if_pos rfl] at H; exact H
                    clear H
                    have H := H1
                    clear H1
                    have H' := Aside0.mk H
                    clear H
                    go_wp2
                    go_roundg k2
                    case measure => have := HK1.out; have := HK2.out; omega
                    case rel => exact ⟨(true), (wrap64 (x13_2 + 1)), (by first | rfl | (simp; done) | (simp [*]; done)), (by first | rfl | (simp; done) | (simp [*]; done)), H', ⟨by have := HK1.out; have := HK2.out; omega⟩, by repeat (first | exact Drawn0.refl _ | apply Drawn0.step)⟩
                  · replace c10 := Bool.eq_false_iff.mpr c10
                    subst c10
                    have H1 : (if 0 ≤ x13_2 then (if x13_2 < (l0.length : Int) then (if (rd l0 x13_2) = 1 then (klaxonref11_stays.l1 k2 l0 a1 a2 a3 a4 x11_1 (decide ((wrap64 ((wrap64 (x11_1 - x13_2)) * a1)) ≤ a2)) (wrap64 (x13_2 + 1))) else (klaxonref11_stays.l1 k2 l0 a1 a2 a3 a4 x11_1 false (wrap64 (x13_2 + 1)))) else (none)) else (none)) = some r := by rw [if_neg (show ¬ (false = true) by decide)] at H; exact H
                    clear H
                    have H := H1
                    clear H1
                    by_cases c11 : 0 ≤ x13_2
                    · rw [if_pos c11] at H
                      have c11b0 : decide (0 ≤ x13_2) = true := decide_eq_true c11
                      clear c11
                      by_cases c12 : x13_2 < (l0.length : Int)
                      · rw [if_pos c12] at H
                        have c12b0 : decide (x13_2 < (l0.length : Int)) = true := decide_eq_true c12
                        clear c12
                        by_cases c13 : (rd l0 x13_2) = 1
                        · rw [if_pos c13] at H
                          have c13b0 : ((rd l0 x13_2) == 1) = true := beq_iff_eq.mpr c13
                          have c13b1 : ((rd l0 x13_2) != 1) = false := bne_eq_false_iff_eq.mpr c13
                          clear c13
                          have H' := Aside0.mk H
                          clear H
                          have p134 : 0 ≤ (x13_2 : Int) := of_decide_eq_true (by first | (with_reducible assumption) | assumption)
                          have q134 : x13_2 < (l0.length : Int) := of_decide_eq_true (by first | (with_reducible assumption) | assumption)
                          obtain ⟨ad134, e134, hx134_0⟩ := Kd.at_int HR0.out x13_2 p134 q134
                          obtain rfl : ad133 = ad134 := (by injection e134)
                          replace p134 := eq_true p134
                          replace q134 := eq_true q134
                          go_wp2
                          go_roundg k2
                          case measure => have := HK1.out; have := HK2.out; omega
                          case rel => exact ⟨(decide ((wrap64 ((wrap64 (x11_1 - x13_2)) * a1)) ≤ a2)), (wrap64 (x13_2 + 1)), (by first | rfl | (simp; done) | (simp [*]; done)), (by first | rfl | (simp; done) | (simp [*]; done)), H', ⟨by have := HK1.out; have := HK2.out; omega⟩, by repeat (first | exact Drawn0.refl _ | apply Drawn0.step)⟩
                        · rw [if_neg c13] at H
                          have c13b0 : ((rd l0 x13_2) == 1) = false := beq_eq_false_iff_ne.mpr c13
                          have c13b1 : ((rd l0 x13_2) != 1) = true := bne_iff_ne.mpr c13
                          have H' := Aside0.mk H
                          clear H
                          have p134 : 0 ≤ (x13_2 : Int) := of_decide_eq_true (by first | (with_reducible assumption) | assumption)
                          have q134 : x13_2 < (l0.length : Int) := of_decide_eq_true (by first | (with_reducible assumption) | assumption)
                          obtain ⟨ad134, e134, hx134_0⟩ := Kd.at_int HR0.out x13_2 p134 q134
                          obtain rfl : ad133 = ad134 := (by injection e134)
                          replace p134 := eq_true p134
                          replace q134 := eq_true q134
                          go_wp2
                          go_roundg k2
                          case measure => have := HK1.out; have := HK2.out; omega
                          case rel => exact ⟨(false), (wrap64 (x13_2 + 1)), (by first | rfl | (simp; done) | (simp [*]; done)), (by first | rfl | (simp; done) | (simp [*]; done)), H', ⟨by have := HK1.out; have := HK2.out; omega⟩, by repeat (first | exact Drawn0.refl _ | apply Drawn0.step)⟩
                      · rw [if_neg c12] at H
                        exact absurd H (by simp)
                    · rw [if_neg c11] at H
                      exact absurd H (by simp)
                · rw [if_neg c9] at H
                  have c9b0 : decide (x13_2 ≤ x11_1) = false := decide_eq_false c9
                  clear c9
                  by_cases c14 : x12_2 = true
                  · subst c14
                    have H1 : (klaxonref11_stays.l0 k2 l0 a1 a2 a3 a4 (wrap64 (x11_1 + 1))) = some r := by rw [if_pos rfl] at H; exact H
                    clear H
                    have H := H1
                    clear H1
                    have H' := Aside0.mk H
                    clear H
                    go_wp2
                    go_roundg k2
                    case measure => have := HK1.out; have := HK2.out; omega
                    case rel => exact ⟨(wrap64 (x11_1 + 1)), (by first | rfl | (simp; done) | (simp [*]; done)), H', ⟨by have := HK1.out; have := HK2.out; omega⟩, by repeat (first | exact Drawn0.refl _ | apply Drawn0.step)⟩
                  · replace c14 := Bool.eq_false_iff.mpr c14
                    subst c14
                    have H1 : (some false) = some r := by rw [if_neg (show ¬ (false = true) by decide)] at H; exact H
                    clear H
                    have H := H1
                    clear H1
                    obtain rfl := Option.some.inj H
                    go_wp2
                    go_ret
                    exact ⟨by first | rfl | (simp; done) | (simp [*]; done), by repeat (first | exact Drawn0.refl _ | apply Drawn0.step)⟩
          · rw [if_neg c8] at H
            exact absurd H (by simp)
        · rw [if_neg c7] at H
          exact absurd H (by simp)
      · rw [if_neg c6] at H
        have c6b0 : decide (x11_1 ≤ a4) = false := decide_eq_false c6
        clear c6
        obtain rfl := Option.some.inj H
        go_wp2
        go_ret
        exact ⟨by first | rfl | (simp; done) | (simp [*]; done), by repeat (first | exact Drawn0.refl _ | apply Drawn0.step)⟩

/-! ### klaxonref11_runs: function 43 -/
def klaxonref11_runs.l0 : Nat → List Int → Int → Int → Option (Bool)
  | 0, _, _, _ => none
  | k + 1, x0, x2, x7 => if x7 ≤ x2 then (if 0 ≤ x7 then (if x7 < (x0.length : Int) then (if (rd x0 x7) = 0 then (some false) else (klaxonref11_runs.l0 k x0 x2 (wrap64 (x7 + 1)))) else (none)) else (none)) else (some true)
def klaxonref11_runs.f (k : Nat) (l0 : List Int) (a1 : Int) (a2 : Int) : Option (Bool) := klaxonref11_runs.l0 k l0 a2 a1
theorem klaxonref11_runs.mono_l : ∀ k, (∀ y0 y1 y2, LeO (klaxonref11_runs.l0 k y0 y1 y2) (klaxonref11_runs.l0 (k + 1) y0 y1 y2))
  | 0 => fun _ _ _ r h => by simp [klaxonref11_runs.l0] at h
  | k + 1 => by
    have ih0 := klaxonref11_runs.mono_l k
    · intro y0 y1 y2
      unfold klaxonref11_runs.l0
      repeat' first
      | (with_reducible exact ih0 _ _ _)
      | (with_reducible exact LeO.refl _)
      | (with_reducible exact LeO.none _)
      | (with_reducible refine LeO.ite ?_ ?_)
      | (with_reducible refine LeO.bind ?_ (fun _ => ?_))
      | exact ih0 _ _ _
      | exact LeO.none _
      | refine LeO.ite ?_ ?_
      | refine LeO.bind ?_ (fun _ => ?_)
theorem klaxonref11_runs.mono : ∀ a0 a1 a2 k, LeO (klaxonref11_runs.f k a0 a1 a2) (klaxonref11_runs.f (k + 1) a0 a1 a2) := by
  intro a0 a1 a2 k
  have ih0 := klaxonref11_runs.mono_l k
  unfold klaxonref11_runs.f
  repeat' first
      | (with_reducible exact ih0 _ _ _)
      | (with_reducible exact LeO.refl _)
      | (with_reducible exact LeO.none _)
      | (with_reducible refine LeO.ite ?_ ?_)
      | (with_reducible refine LeO.bind ?_ (fun _ => ?_))
      | exact ih0 _ _ _
      | exact LeO.none _
      | refine LeO.ite ?_ ?_
      | refine LeO.bind ?_ (fun _ => ?_)
set_option maxHeartbeats 8000000 in
set_option maxRecDepth 100000 in
theorem klaxonref11_runs.calls (k : Nat) (A0 : Option Addr) (c0 : Nat) (l0 : List Int) (a1 : Int) (a2 : Int) (r : Bool) (w : World) (hr0 : Kd.C (Kd.int .i64) w A0 l0.length l0) (hc0 : l0.length ≤ c0) (h : klaxonref11_runs.f k l0 a1 a2 = some r) :
    Calls Try.prog 43 #[.slice A0 l0.length c0, .int .i64 a1, .int .i64 a2] w fun e w' => e = .returned (.bool r) ∧ Drawn0 w w' := by
  have HR0 := Aside0.mk hr0
  have HC0 := Aside0.mk hc0
  clear hr0 hc0
  have H : (klaxonref11_runs.l0 k l0 a2 a1) = some r := h
  clear h
  have H' := Aside0.mk H
  clear H
  go_enter Try.func43, Try.ntmps43
  go_wp2
  go_loopg [7] k (fun kq v7 w' => ∃ (x7_1 : Int), v7 = .int .i64 x7_1 ∧ Aside0 (klaxonref11_runs.l0 kq l0 a2 x7_1 = some r) ∧ Aside0 (kq ≤ k) ∧ Drawn0 w w')
  case atStart => exact ⟨(a1), (by first | rfl | (simp; done) | (simp [*]; done)), H', ⟨Nat.le_refl _⟩, by repeat (first | exact Drawn0.refl _ | apply Drawn0.step)⟩
  case round =>
    clear H'
    try clear p2
    obtain ⟨x7_1, rfl, HA, HK1, ⟨m1, rfl⟩⟩ := hrel
    cases gk with
    | zero => exact absurd HA.out (by simp [klaxonref11_runs.l0])
    | succ k1 =>
      have H := HA.out
      clear HA
      simp only [klaxonref11_runs.l0] at H
      by_cases c4 : x7_1 ≤ a2
      · rw [if_pos c4] at H
        have c4b0 : decide (x7_1 ≤ a2) = true := decide_eq_true c4
        clear c4
        by_cases c5 : 0 ≤ x7_1
        · rw [if_pos c5] at H
          have c5b0 : decide (0 ≤ x7_1) = true := decide_eq_true c5
          clear c5
          by_cases c6 : x7_1 < (l0.length : Int)
          · rw [if_pos c6] at H
            have c6b0 : decide (x7_1 < (l0.length : Int)) = true := decide_eq_true c6
            clear c6
            by_cases c7 : (rd l0 x7_1) = 0
            · rw [if_pos c7] at H
              have c7b0 : ((rd l0 x7_1) == 0) = true := beq_iff_eq.mpr c7
              have c7b1 : ((rd l0 x7_1) != 0) = false := bne_eq_false_iff_eq.mpr c7
              clear c7
              obtain rfl := Option.some.inj H
              have p135 : 0 ≤ (x7_1 : Int) := of_decide_eq_true (by first | (with_reducible assumption) | assumption)
              have q135 : x7_1 < (l0.length : Int) := of_decide_eq_true (by first | (with_reducible assumption) | assumption)
              obtain ⟨ad135, e135, hx135_0⟩ := Kd.at_int HR0.out x7_1 p135 q135
              cases e135
              replace p135 := eq_true p135
              replace q135 := eq_true q135
              go_wp2
              go_ret
              exact ⟨by first | rfl | (simp; done) | (simp [*]; done), by repeat (first | exact Drawn0.refl _ | apply Drawn0.step)⟩
            · rw [if_neg c7] at H
              have c7b0 : ((rd l0 x7_1) == 0) = false := beq_eq_false_iff_ne.mpr c7
              have c7b1 : ((rd l0 x7_1) != 0) = true := bne_iff_ne.mpr c7
              have H' := Aside0.mk H
              clear H
              have p135 : 0 ≤ (x7_1 : Int) := of_decide_eq_true (by first | (with_reducible assumption) | assumption)
              have q135 : x7_1 < (l0.length : Int) := of_decide_eq_true (by first | (with_reducible assumption) | assumption)
              obtain ⟨ad135, e135, hx135_0⟩ := Kd.at_int HR0.out x7_1 p135 q135
              cases e135
              replace p135 := eq_true p135
              replace q135 := eq_true q135
              go_wp2
              go_roundg k1
              case measure => have := HK1.out; omega
              case rel => exact ⟨(wrap64 (x7_1 + 1)), (by first | rfl | (simp; done) | (simp [*]; done)), H', ⟨by have := HK1.out; omega⟩, by repeat (first | exact Drawn0.refl _ | apply Drawn0.step)⟩
          · rw [if_neg c6] at H
            exact absurd H (by simp)
        · rw [if_neg c5] at H
          exact absurd H (by simp)
      · rw [if_neg c4] at H
        have c4b0 : decide (x7_1 ≤ a2) = false := decide_eq_false c4
        clear c4
        obtain rfl := Option.some.inj H
        go_wp2
        go_ret
        exact ⟨by first | rfl | (simp; done) | (simp [*]; done), by repeat (first | exact Drawn0.refl _ | apply Drawn0.step)⟩

/-! ### klaxonref11_Fires: function 38 -/
mutual
def klaxonref11_Fires.l0 : Nat → List Int → Int → Int → Int → Int → Int → Option (Bool)
  | 0, _, _, _, _, _, _ => none
  | k + 1, x0, x1, x2, x3, x4, x11 => if x11 ≥ 0 then (if 0 ≤ x11 then (if x11 < (x0.length : Int) then (if (rd x0 x11) = 1 then ((klaxonref11_stays.f k x0 x1 x3 x11 x4).bind fun t139 => (klaxonref11_Fires.j1 k x0 x1 x2 x3 x4 x11 (!t139))) else (klaxonref11_Fires.j1 k x0 x1 x2 x3 x4 x11 true)) else (none)) else (none)) else (some false)
def klaxonref11_Fires.j1 : Nat → List Int → Int → Int → Int → Int → Int → Bool → Option (Bool)
  | 0, _, _, _, _, _, _, _ => none
  | k + 1, x0, x1, x2, x3, x4, x11, x47 => if x47 = true then (klaxonref11_Fires.l0 k x0 x1 x2 x3 x4 (wrap64 (x11 - 1))) else (klaxonref11_Fires.l1 k x0 x1 x2 x3 x4 x11 x11)
def klaxonref11_Fires.l1 : Nat → List Int → Int → Int → Int → Int → Int → Int → Option (Bool)
  | 0, _, _, _, _, _, _, _ => none
  | k + 1, x0, x1, x2, x3, x4, x11, x12 => if x12 ≥ 0 then (if 0 ≤ x12 then (if x12 < (x0.length : Int) then (if (rd x0 x12) = 1 then (if (wrap64 ((wrap64 (x11 - x12)) * x1)) ≥ x2 then ((klaxonref11_runs.f k x0 x12 x11).bind fun t141 => (if t141 = true then (some true) else (klaxonref11_Fires.l1 k x0 x1 x2 x3 x4 x11 (wrap64 (x12 - 1))))) else (klaxonref11_Fires.l1 k x0 x1 x2 x3 x4 x11 (wrap64 (x12 - 1)))) else (klaxonref11_Fires.l1 k x0 x1 x2 x3 x4 x11 (wrap64 (x12 - 1)))) else (none)) else (none)) else (klaxonref11_Fires.l0 k x0 x1 x2 x3 x4 (wrap64 (x11 - 1)))
def klaxonref11_Fires.f : Nat → List Int → Int → Int → Int → Int → Option (Bool)
  | 0, _, _, _, _, _ => none
  | k + 1, l0, a1, a2, a3, a4 => if 0 ≤ a4 then (if a4 < (l0.length : Int) then (if (rd l0 a4) = 2 then (if a4 > 0 then ((klaxonref11_Fires.f k l0 a1 a2 a3 (wrap64 (a4 - 1))).bind fun t137 => (some t137)) else (some false)) else (klaxonref11_Fires.l0 k l0 a1 a2 a3 a4 a4)) else (none)) else (none)
end
theorem klaxonref11_Fires.mono_l : ∀ k, (∀ y0 y1 y2 y3 y4, LeO (klaxonref11_Fires.f k y0 y1 y2 y3 y4) (klaxonref11_Fires.f (k + 1) y0 y1 y2 y3 y4)) ∧ (∀ y0 y1 y2 y3 y4 y5, LeO (klaxonref11_Fires.l0 k y0 y1 y2 y3 y4 y5) (klaxonref11_Fires.l0 (k + 1) y0 y1 y2 y3 y4 y5)) ∧ (∀ y0 y1 y2 y3 y4 y5 y6, LeO (klaxonref11_Fires.j1 k y0 y1 y2 y3 y4 y5 y6) (klaxonref11_Fires.j1 (k + 1) y0 y1 y2 y3 y4 y5 y6)) ∧ (∀ y0 y1 y2 y3 y4 y5 y6, LeO (klaxonref11_Fires.l1 k y0 y1 y2 y3 y4 y5 y6) (klaxonref11_Fires.l1 (k + 1) y0 y1 y2 y3 y4 y5 y6))
  | 0 => ⟨fun _ _ _ _ _ r h => by simp [klaxonref11_Fires.f] at h, fun _ _ _ _ _ _ r h => by simp [klaxonref11_Fires.l0] at h, fun _ _ _ _ _ _ _ r h => by simp [klaxonref11_Fires.j1] at h, fun _ _ _ _ _ _ _ r h => by simp [klaxonref11_Fires.l1] at h⟩
  | k + 1 => by
    obtain ⟨ih0, ih1, ih2, ih3⟩ := klaxonref11_Fires.mono_l k
    refine ⟨?_, ?_, ?_, ?_⟩
    · intro y0 y1 y2 y3 y4
      unfold klaxonref11_Fires.f
      repeat' first
      | (with_reducible exact ih0 _ _ _ _ _)
      | (with_reducible exact ih1 _ _ _ _ _ _)
      | (with_reducible exact ih2 _ _ _ _ _ _ _)
      | (with_reducible exact ih3 _ _ _ _ _ _ _)
      | (with_reducible exact klaxonref11_runs.mono _ _ _ _)
      | (with_reducible exact klaxonref11_stays.mono _ _ _ _ _ _)
      | (with_reducible exact LeO.refl _)
      | (with_reducible exact LeO.none _)
      | (with_reducible refine LeO.ite ?_ ?_)
      | (with_reducible refine LeO.bind ?_ (fun _ => ?_))
      | exact ih0 _ _ _ _ _
      | exact ih1 _ _ _ _ _ _
      | exact ih2 _ _ _ _ _ _ _
      | exact ih3 _ _ _ _ _ _ _
      | exact klaxonref11_runs.mono _ _ _ _
      | exact klaxonref11_stays.mono _ _ _ _ _ _
      | exact LeO.none _
      | refine LeO.ite ?_ ?_
      | refine LeO.bind ?_ (fun _ => ?_)
    · intro y0 y1 y2 y3 y4 y5
      unfold klaxonref11_Fires.l0
      repeat' first
      | (with_reducible exact ih0 _ _ _ _ _)
      | (with_reducible exact ih1 _ _ _ _ _ _)
      | (with_reducible exact ih2 _ _ _ _ _ _ _)
      | (with_reducible exact ih3 _ _ _ _ _ _ _)
      | (with_reducible exact klaxonref11_runs.mono _ _ _ _)
      | (with_reducible exact klaxonref11_stays.mono _ _ _ _ _ _)
      | (with_reducible exact LeO.refl _)
      | (with_reducible exact LeO.none _)
      | (with_reducible refine LeO.ite ?_ ?_)
      | (with_reducible refine LeO.bind ?_ (fun _ => ?_))
      | exact ih0 _ _ _ _ _
      | exact ih1 _ _ _ _ _ _
      | exact ih2 _ _ _ _ _ _ _
      | exact ih3 _ _ _ _ _ _ _
      | exact klaxonref11_runs.mono _ _ _ _
      | exact klaxonref11_stays.mono _ _ _ _ _ _
      | exact LeO.none _
      | refine LeO.ite ?_ ?_
      | refine LeO.bind ?_ (fun _ => ?_)
    · intro y0 y1 y2 y3 y4 y5 y6
      unfold klaxonref11_Fires.j1
      repeat' first
      | (with_reducible exact ih0 _ _ _ _ _)
      | (with_reducible exact ih1 _ _ _ _ _ _)
      | (with_reducible exact ih2 _ _ _ _ _ _ _)
      | (with_reducible exact ih3 _ _ _ _ _ _ _)
      | (with_reducible exact klaxonref11_runs.mono _ _ _ _)
      | (with_reducible exact klaxonref11_stays.mono _ _ _ _ _ _)
      | (with_reducible exact LeO.refl _)
      | (with_reducible exact LeO.none _)
      | (with_reducible refine LeO.ite ?_ ?_)
      | (with_reducible refine LeO.bind ?_ (fun _ => ?_))
      | exact ih0 _ _ _ _ _
      | exact ih1 _ _ _ _ _ _
      | exact ih2 _ _ _ _ _ _ _
      | exact ih3 _ _ _ _ _ _ _
      | exact klaxonref11_runs.mono _ _ _ _
      | exact klaxonref11_stays.mono _ _ _ _ _ _
      | exact LeO.none _
      | refine LeO.ite ?_ ?_
      | refine LeO.bind ?_ (fun _ => ?_)
    · intro y0 y1 y2 y3 y4 y5 y6
      unfold klaxonref11_Fires.l1
      repeat' first
      | (with_reducible exact ih0 _ _ _ _ _)
      | (with_reducible exact ih1 _ _ _ _ _ _)
      | (with_reducible exact ih2 _ _ _ _ _ _ _)
      | (with_reducible exact ih3 _ _ _ _ _ _ _)
      | (with_reducible exact klaxonref11_runs.mono _ _ _ _)
      | (with_reducible exact klaxonref11_stays.mono _ _ _ _ _ _)
      | (with_reducible exact LeO.refl _)
      | (with_reducible exact LeO.none _)
      | (with_reducible refine LeO.ite ?_ ?_)
      | (with_reducible refine LeO.bind ?_ (fun _ => ?_))
      | exact ih0 _ _ _ _ _
      | exact ih1 _ _ _ _ _ _
      | exact ih2 _ _ _ _ _ _ _
      | exact ih3 _ _ _ _ _ _ _
      | exact klaxonref11_runs.mono _ _ _ _
      | exact klaxonref11_stays.mono _ _ _ _ _ _
      | exact LeO.none _
      | refine LeO.ite ?_ ?_
      | refine LeO.bind ?_ (fun _ => ?_)
theorem klaxonref11_Fires.mono : ∀ a0 a1 a2 a3 a4 k, LeO (klaxonref11_Fires.f k a0 a1 a2 a3 a4) (klaxonref11_Fires.f (k + 1) a0 a1 a2 a3 a4) := by
  intro a0 a1 a2 a3 a4 k
  obtain ⟨ih0, ih1, ih2, ih3⟩ := klaxonref11_Fires.mono_l k
  exact ih0 a0 a1 a2 a3 a4
set_option maxHeartbeats 8000000 in
set_option maxRecDepth 100000 in
theorem klaxonref11_Fires.calls (k : Nat) : ∀ (A0 : Option Addr) (c0 : Nat) (l0 : List Int) (a1 : Int) (a2 : Int) (a3 : Int) (a4 : Int) (r : Bool) (w : World) (hr0 : Kd.C (Kd.int .i64) w A0 l0.length l0) (hc0 : l0.length ≤ c0) (h : klaxonref11_Fires.f k l0 a1 a2 a3 a4 = some r),
    Calls Try.prog 38 #[.slice A0 l0.length c0, .int .i64 a1, .int .i64 a2, .int .i64 a3, .int .i64 a4] w fun e w' => e = .returned (.bool r) ∧ Drawn0 w w' := by
  induction k using Nat.strongRecOn with
  | _ k ih =>
  intro A0 c0 l0 a1 a2 a3 a4 r w hr0 hc0 h
  cases k with
  | zero => exact absurd h (by simp [klaxonref11_Fires.f])
  | succ k =>
  simp only [klaxonref11_Fires.f] at h
  have HR0 := Aside0.mk hr0
  have HC0 := Aside0.mk hc0
  clear hr0 hc0
  have H : (if 0 ≤ a4 then (if a4 < (l0.length : Int) then (if (rd l0 a4) = 2 then (if a4 > 0 then ((klaxonref11_Fires.f k l0 a1 a2 a3 (wrap64 (a4 - 1))).bind fun t137 => (some t137)) else (some false)) else (klaxonref11_Fires.l0 k l0 a1 a2 a3 a4 a4)) else (none)) else (none)) = some r := h
  clear h
  by_cases c6 : 0 ≤ a4
  · rw [if_pos c6] at H
    have c6b0 : decide (0 ≤ a4) = true := decide_eq_true c6
    clear c6
    by_cases c7 : a4 < (l0.length : Int)
    · rw [if_pos c7] at H
      have c7b0 : decide (a4 < (l0.length : Int)) = true := decide_eq_true c7
      clear c7
      by_cases c8 : (rd l0 a4) = 2
      · rw [if_pos c8] at H
        have c8b0 : ((rd l0 a4) == 2) = true := beq_iff_eq.mpr c8
        have c8b1 : ((rd l0 a4) != 2) = false := bne_eq_false_iff_eq.mpr c8
        clear c8
        by_cases c9 : a4 > 0
        · rw [if_pos c9] at H
          have c9b0 : decide (0 < a4) = true := decide_eq_true c9
          clear c9
          replace H := Option.bind_eq_some_iff.mp H
          obtain ⟨t137, A100, H⟩ := H
          replace H : (some t137) = some r := H
          have A10 := Aside0.mk A100
          clear A100
          obtain rfl := Option.some.inj H
          have p136 : 0 ≤ (a4 : Int) := of_decide_eq_true (by first | (with_reducible assumption) | assumption)
          have q136 : a4 < (l0.length : Int) := of_decide_eq_true (by first | (with_reducible assumption) | assumption)
          obtain ⟨ad136, e136, hx136_0⟩ := Kd.at_int HR0.out a4 p136 q136
          cases e136
          replace p136 := eq_true p136
          replace q136 := eq_true q136
          go_enter Try.func38, Try.ntmps38
          go_wp2_with (first | (go_at_call 38; (with_reducible refine (ih k (by omega) _ _ l0 a1 a2 a3 (wrap64 (a4 - 1)) t137 _ ?side1 ?side2 A10.out).mono ?_); (case side1 => repeat (first | exact HR0.out | (with_reducible refine Kd.C_alloc ?_ _) | (with_reducible refine Kd.C_drewN ?_ _) | (with_reducible refine Kd.C_drew ?_))); (case side2 => exact HC0.out); rintro e w' ⟨rfl, ⟨nd, rfl⟩⟩))
          go_ret
          exact ⟨by first | rfl | (simp; done) | (simp [*]; done), by repeat (first | exact Drawn0.refl _ | apply Drawn0.step)⟩
        · rw [if_neg c9] at H
          have c9b0 : decide (0 < a4) = false := decide_eq_false c9
          clear c9
          obtain rfl := Option.some.inj H
          have p136 : 0 ≤ (a4 : Int) := of_decide_eq_true (by first | (with_reducible assumption) | assumption)
          have q136 : a4 < (l0.length : Int) := of_decide_eq_true (by first | (with_reducible assumption) | assumption)
          obtain ⟨ad136, e136, hx136_0⟩ := Kd.at_int HR0.out a4 p136 q136
          cases e136
          replace p136 := eq_true p136
          replace q136 := eq_true q136
          go_enter Try.func38, Try.ntmps38
          go_wp2
          go_ret
          exact ⟨by first | rfl | (simp; done) | (simp [*]; done), by repeat (first | exact Drawn0.refl _ | apply Drawn0.step)⟩
      · rw [if_neg c8] at H
        have c8b0 : ((rd l0 a4) == 2) = false := beq_eq_false_iff_ne.mpr c8
        have c8b1 : ((rd l0 a4) != 2) = true := bne_iff_ne.mpr c8
        have H' := Aside0.mk H
        clear H
        have p136 : 0 ≤ (a4 : Int) := of_decide_eq_true (by first | (with_reducible assumption) | assumption)
        have q136 : a4 < (l0.length : Int) := of_decide_eq_true (by first | (with_reducible assumption) | assumption)
        obtain ⟨ad136, e136, hx136_0⟩ := Kd.at_int HR0.out a4 p136 q136
        cases e136
        replace p136 := eq_true p136
        replace q136 := eq_true q136
        go_enter Try.func38, Try.ntmps38
        go_wp2
        go_loopg [11] k (fun kq v11 w' => ∃ (x11_1 : Int), v11 = .int .i64 x11_1 ∧ Aside0 (klaxonref11_Fires.l0 kq l0 a1 a2 a3 a4 x11_1 = some r) ∧ Aside0 (kq ≤ k) ∧ Drawn0 w w')
        case atStart => exact ⟨(a4), (by first | rfl | (simp; done) | (simp [*]; done)), H', ⟨Nat.le_refl _⟩, by repeat (first | exact Drawn0.refl _ | apply Drawn0.step)⟩
        case round =>
          clear H'
          try clear p1
          try clear q1
          try clear hx1
          try clear p2
          try clear c3
          try clear c6
          try clear c6b0
          try clear p6
          try clear c7
          try clear c7b0
          try clear c8
          try clear c8b0
          try clear c8b1
          try clear c9
          try clear c9b0
          try clear hx136_0
          try clear p136
          try clear q136
          obtain ⟨x11_1, rfl, HA, HK1, ⟨m1, rfl⟩⟩ := hrel
          cases gk with
          | zero => exact absurd HA.out (by simp [klaxonref11_Fires.l0])
          | succ k1 =>
            have H := HA.out
            clear HA
            simp only [klaxonref11_Fires.l0] at H
            by_cases c11 : x11_1 ≥ 0
            · rw [if_pos c11] at H
              have c11b0 : decide (0 ≤ x11_1) = true := decide_eq_true c11
              clear c11
              have HC12 := Aside0.mk H
              clear H
              go_upto_region 6 with (fail)
              go_cut [47] (fun v47 wc => ∃ (kq : Nat) (x47_11 : Bool), v47 = .bool x47_11 ∧ Aside0 (klaxonref11_Fires.j1 kq l0 a1 a2 a3 a4 x11_1 x47_11 = some r) ∧ Aside0 (kq ≤ k1) ∧ Drawn0 w wc)
              case first =>
                have H := HC12.out
                clear HC12
                by_cases c13 : 0 ≤ x11_1
                · rw [if_pos c13] at H
                  have c13b0 : decide (0 ≤ x11_1) = true := decide_eq_true c13
                  clear c13
                  (first | rw [c13b0] | (simp only [i64_w, i32_w]; rw [c13b0]) | skip)
                  by_cases c14 : x11_1 < (l0.length : Int)
                  · rw [if_pos c14] at H
                    have c14b0 : decide (x11_1 < (l0.length : Int)) = true := decide_eq_true c14
                    clear c14
                    by_cases c15 : (rd l0 x11_1) = 1
                    · rw [if_pos c15] at H
                      have c15b0 : ((rd l0 x11_1) == 1) = true := beq_iff_eq.mpr c15
                      have c15b1 : ((rd l0 x11_1) != 1) = false := bne_eq_false_iff_eq.mpr c15
                      clear c15
                      replace H := Option.bind_eq_some_iff.mp H
                      obtain ⟨t139, A160, H⟩ := H
                      replace H : (klaxonref11_Fires.j1 k1 l0 a1 a2 a3 a4 x11_1 (!t139)) = some r := H
                      have A16 := Aside0.mk A160
                      clear A160
                      have H' := Aside0.mk H
                      clear H
                      have p138 : 0 ≤ (x11_1 : Int) := of_decide_eq_true (by first | (with_reducible assumption) | assumption)
                      have q138 : x11_1 < (l0.length : Int) := of_decide_eq_true (by first | (with_reducible assumption) | assumption)
                      obtain ⟨ad138, e138, hx138_0⟩ := Kd.at_int HR0.out x11_1 p138 q138
                      obtain rfl : ad136 = ad138 := (by injection e138)
                      replace p138 := eq_true p138
                      replace q138 := eq_true q138
                      go_wp2_with (first | (go_at_call 42; (with_reducible refine (klaxonref11_stays.calls k1 _ _ l0 a1 a3 x11_1 a4 t139 _ ?side1 ?side2 A16.out).mono ?_); (case side1 => repeat (first | exact HR0.out | (with_reducible refine Kd.C_alloc ?_ _) | (with_reducible refine Kd.C_drewN ?_ _) | (with_reducible refine Kd.C_drew ?_))); (case side2 => exact HC0.out); rintro e w' ⟨rfl, ⟨nd, rfl⟩⟩))
                      go_meet
                      case rel => exact ⟨_, (!t139), (by first | rfl | (simp; done) | (simp [*]; done)), H', ⟨by have := HK1.out; first | omega | exact Nat.le_refl _⟩, by repeat (first | exact Drawn0.refl _ | apply Drawn0.step)⟩
                    · rw [if_neg c15] at H
                      have c15b0 : ((rd l0 x11_1) == 1) = false := beq_eq_false_iff_ne.mpr c15
                      have c15b1 : ((rd l0 x11_1) != 1) = true := bne_iff_ne.mpr c15
                      have H' := Aside0.mk H
                      clear H
                      have p138 : 0 ≤ (x11_1 : Int) := of_decide_eq_true (by first | (with_reducible assumption) | assumption)
                      have q138 : x11_1 < (l0.length : Int) := of_decide_eq_true (by first | (with_reducible assumption) | assumption)
                      obtain ⟨ad138, e138, hx138_0⟩ := Kd.at_int HR0.out x11_1 p138 q138
                      obtain rfl : ad136 = ad138 := (by injection e138)
                      replace p138 := eq_true p138
                      replace q138 := eq_true q138
                      go_wp2
                      go_meet
                      case rel => exact ⟨_, (true), (by first | rfl | (simp; done) | (simp [*]; done)), H', ⟨by have := HK1.out; first | omega | exact Nat.le_refl _⟩, by repeat (first | exact Drawn0.refl _ | apply Drawn0.step)⟩
                  · rw [if_neg c14] at H
                    exact absurd H (by simp)
                · rw [if_neg c13] at H
                  exact absurd H (by simp)
              case rest =>
                clear HC12
                try clear c1
                try clear p1
                try clear q1
                try clear hx1
                try clear p2
                try clear c3
                try clear c6
                try clear c6b0
                try clear p6
                try clear c7
                try clear c7b0
                try clear c8
                try clear c8b0
                try clear c8b1
                try clear c9
                try clear c9b0
                try clear c11
                try clear c11b0
                try clear c13
                try clear c13b0
                try clear p13
                try clear q13
                try clear hx13
                try clear c14
                try clear c14b0
                try clear c15
                try clear c15b0
                try clear c15b1
                try clear hx136_0
                try clear hx138_0
                try clear p1
                try clear p136
                try clear p138
                try clear p2
                try clear p6
                try clear q1
                try clear q136
                try clear q138
                obtain ⟨kq, x47_11, rfl, HA, HJ11, ⟨mc11, rfl⟩⟩ := hcut
                cases kq with
                | zero => exact absurd HA.out (by simp [klaxonref11_Fires.j1])
                | succ kj11 =>
                  have H := HA.out
                  clear HA
                  simp only [klaxonref11_Fires.j1] at H
                  by_cases c17 : x47_11 = true
                  · subst c17
                    have H1 : (klaxonref11_Fires.l0 kj11 l0 a1 a2 a3 a4 (wrap64 (x11_1 - 1))) = some r := by rw [if_pos rfl] at H; exact H
                    clear H
                    have H := H1
                    clear H1
                    have H' := Aside0.mk H
                    clear H
                    go_wp2
                    go_roundg kj11
                    case measure => have := HK1.out; have := HJ11.out; omega
                    case rel => exact ⟨(wrap64 (x11_1 - 1)), (by first | rfl | (simp; done) | (simp [*]; done)), H', ⟨by have := HK1.out; have := HJ11.out; omega⟩, by repeat (first | exact Drawn0.refl _ | apply Drawn0.step)⟩
                  · replace c17 := Bool.eq_false_iff.mpr c17
                    subst c17
                    have H1 : (klaxonref11_Fires.l1 kj11 l0 a1 a2 a3 a4 x11_1 x11_1) = some r := by rw [if_neg (show ¬ (false = true) by decide)] at H; exact H
                    clear H
                    have H := H1
                    clear H1
                    have H' := Aside0.mk H
                    clear H
                    go_wp2
                    go_loopg [12] kj11 (fun kq v12 w' => ∃ (x12_3 : Int), v12 = .int .i64 x12_3 ∧ Aside0 (klaxonref11_Fires.l1 kq l0 a1 a2 a3 a4 x11_1 x12_3 = some r) ∧ Aside0 (kq ≤ kj11) ∧ Drawn0 w w')
                    case atStart => exact ⟨(x11_1), (by first | rfl | (simp; done) | (simp [*]; done)), H', ⟨Nat.le_refl _⟩, by repeat (first | exact Drawn0.refl _ | apply Drawn0.step)⟩
                    case round =>
                      clear H'
                      try clear c1
                      try clear p1
                      try clear q1
                      try clear hx1
                      try clear p2
                      try clear c3
                      try clear c6
                      try clear c6b0
                      try clear p6
                      try clear c7
                      try clear c7b0
                      try clear c8
                      try clear c8b0
                      try clear c8b1
                      try clear c9
                      try clear c9b0
                      try clear c11
                      try clear c11b0
                      try clear c13
                      try clear c13b0
                      try clear p13
                      try clear q13
                      try clear hx13
                      try clear c14
                      try clear c14b0
                      try clear c15
                      try clear c15b0
                      try clear c15b1
                      try clear c17
                      try clear hx136_0
                      try clear hx138_0
                      try clear p1
                      try clear p13
                      try clear p136
                      try clear p138
                      try clear p2
                      try clear p6
                      try clear q1
                      try clear q13
                      try clear q136
                      try clear q138
                      obtain ⟨x12_3, rfl, HA, HK3, ⟨m3, rfl⟩⟩ := hrel
                      cases gk with
                      | zero => exact absurd HA.out (by simp [klaxonref11_Fires.l1])
                      | succ k3 =>
                        have H := HA.out
                        clear HA
                        simp only [klaxonref11_Fires.l1] at H
                        by_cases c18 : x12_3 ≥ 0
                        · rw [if_pos c18] at H
                          have c18b0 : decide (0 ≤ x12_3) = true := decide_eq_true c18
                          clear c18
                          by_cases c19 : 0 ≤ x12_3
                          · rw [if_pos c19] at H
                            have c19b0 : decide (0 ≤ x12_3) = true := decide_eq_true c19
                            clear c19
                            by_cases c20 : x12_3 < (l0.length : Int)
                            · rw [if_pos c20] at H
                              have c20b0 : decide (x12_3 < (l0.length : Int)) = true := decide_eq_true c20
                              clear c20
                              by_cases c21 : (rd l0 x12_3) = 1
                              · rw [if_pos c21] at H
                                have c21b0 : ((rd l0 x12_3) == 1) = true := beq_iff_eq.mpr c21
                                have c21b1 : ((rd l0 x12_3) != 1) = false := bne_eq_false_iff_eq.mpr c21
                                clear c21
                                by_cases c22 : (wrap64 ((wrap64 (x11_1 - x12_3)) * a1)) ≥ a2
                                · rw [if_pos c22] at H
                                  have c22b0 : decide (a2 ≤ (wrap64 ((wrap64 (x11_1 - x12_3)) * a1))) = true := decide_eq_true c22
                                  clear c22
                                  replace H := Option.bind_eq_some_iff.mp H
                                  obtain ⟨t141, A230, H⟩ := H
                                  replace H : (if t141 = true then (some true) else (klaxonref11_Fires.l1 k3 l0 a1 a2 a3 a4 x11_1 (wrap64 (x12_3 - 1)))) = some r := H
                                  have A23 := Aside0.mk A230
                                  clear A230
                                  by_cases c24 : t141 = true
                                  · subst c24
                                    have H1 : (some true) = some r := by rw [if_pos rfl] at H; exact H
                                    clear H
                                    have H := H1
                                    clear H1
                                    obtain rfl := Option.some.inj H
                                    have p140 : 0 ≤ (x12_3 : Int) := of_decide_eq_true (by first | (with_reducible assumption) | assumption)
                                    have q140 : x12_3 < (l0.length : Int) := of_decide_eq_true (by first | (with_reducible assumption) | assumption)
                                    obtain ⟨ad140, e140, hx140_0⟩ := Kd.at_int HR0.out x12_3 p140 q140
                                    obtain rfl : ad136 = ad140 := (by injection e140)
                                    replace p140 := eq_true p140
                                    replace q140 := eq_true q140
                                    go_wp2_with (first | (go_at_call 43; (with_reducible refine (klaxonref11_runs.calls k3 _ _ l0 x12_3 x11_1 true _ ?side1 ?side2 A23.out).mono ?_); (case side1 => repeat (first | exact HR0.out | (with_reducible refine Kd.C_alloc ?_ _) | (with_reducible refine Kd.C_drewN ?_ _) | (with_reducible refine Kd.C_drew ?_))); (case side2 => exact HC0.out); rintro e w' ⟨rfl, ⟨nd, rfl⟩⟩))
                                    go_ret
                                    exact ⟨by first | rfl | (simp; done) | (simp [*]; done), by repeat (first | exact Drawn0.refl _ | apply Drawn0.step)⟩
                                  · replace c24 := Bool.eq_false_iff.mpr c24
                                    subst c24
                                    have H1 : (klaxonref11_Fires.l1 k3 l0 a1 a2 a3 a4 x11_1 (wrap64 (x12_3 - 1))) = some r := by rw [if_neg (show ¬ (false = true) by decide)] at H; exact H
                                    clear H
                                    have H := H1
                                    clear H1
                                    have H' := Aside0.mk H
                                    clear H
                                    have p140 : 0 ≤ (x12_3 : Int) := of_decide_eq_true (by first | (with_reducible assumption) | assumption)
                                    have q140 : x12_3 < (l0.length : Int) := of_decide_eq_true (by first | (with_reducible assumption) | assumption)
                                    obtain ⟨ad140, e140, hx140_0⟩ := Kd.at_int HR0.out x12_3 p140 q140
                                    obtain rfl : ad136 = ad140 := (by injection e140)
                                    replace p140 := eq_true p140
                                    replace q140 := eq_true q140
                                    go_wp2_with (first | (go_at_call 43; (with_reducible refine (klaxonref11_runs.calls k3 _ _ l0 x12_3 x11_1 false _ ?side1 ?side2 A23.out).mono ?_); (case side1 => repeat (first | exact HR0.out | (with_reducible refine Kd.C_alloc ?_ _) | (with_reducible refine Kd.C_drewN ?_ _) | (with_reducible refine Kd.C_drew ?_))); (case side2 => exact HC0.out); rintro e w' ⟨rfl, ⟨nd, rfl⟩⟩))
                                    go_roundg k3
                                    case measure => have := HK1.out; have := HJ11.out; have := HK3.out; omega
                                    case rel => exact ⟨(wrap64 (x12_3 - 1)), (by first | rfl | (simp; done) | (simp [*]; done)), H', ⟨by have := HK1.out; have := HJ11.out; have := HK3.out; omega⟩, by repeat (first | exact Drawn0.refl _ | apply Drawn0.step)⟩
                                · rw [if_neg c22] at H
                                  have c22b0 : decide (a2 ≤ (wrap64 ((wrap64 (x11_1 - x12_3)) * a1))) = false := decide_eq_false c22
                                  clear c22
                                  have H' := Aside0.mk H
                                  clear H
                                  have p140 : 0 ≤ (x12_3 : Int) := of_decide_eq_true (by first | (with_reducible assumption) | assumption)
                                  have q140 : x12_3 < (l0.length : Int) := of_decide_eq_true (by first | (with_reducible assumption) | assumption)
                                  obtain ⟨ad140, e140, hx140_0⟩ := Kd.at_int HR0.out x12_3 p140 q140
                                  obtain rfl : ad136 = ad140 := (by injection e140)
                                  replace p140 := eq_true p140
                                  replace q140 := eq_true q140
                                  go_wp2
                                  go_roundg k3
                                  case measure => have := HK1.out; have := HJ11.out; have := HK3.out; omega
                                  case rel => exact ⟨(wrap64 (x12_3 - 1)), (by first | rfl | (simp; done) | (simp [*]; done)), H', ⟨by have := HK1.out; have := HJ11.out; have := HK3.out; omega⟩, by repeat (first | exact Drawn0.refl _ | apply Drawn0.step)⟩
                              · rw [if_neg c21] at H
                                have c21b0 : ((rd l0 x12_3) == 1) = false := beq_eq_false_iff_ne.mpr c21
                                have c21b1 : ((rd l0 x12_3) != 1) = true := bne_iff_ne.mpr c21
                                have H' := Aside0.mk H
                                clear H
                                have p140 : 0 ≤ (x12_3 : Int) := of_decide_eq_true (by first | (with_reducible assumption) | assumption)
                                have q140 : x12_3 < (l0.length : Int) := of_decide_eq_true (by first | (with_reducible assumption) | assumption)
                                obtain ⟨ad140, e140, hx140_0⟩ := Kd.at_int HR0.out x12_3 p140 q140
                                obtain rfl : ad136 = ad140 := (by injection e140)
                                replace p140 := eq_true p140
                                replace q140 := eq_true q140
                                go_wp2
                                go_roundg k3
                                case measure => have := HK1.out; have := HJ11.out; have := HK3.out; omega
                                case rel => exact ⟨(wrap64 (x12_3 - 1)), (by first | rfl | (simp; done) | (simp [*]; done)), H', ⟨by have := HK1.out; have := HJ11.out; have := HK3.out; omega⟩, by repeat (first | exact Drawn0.refl _ | apply Drawn0.step)⟩
                            · rw [if_neg c20] at H
                              exact absurd H (by simp)
                          · rw [if_neg c19] at H
                            exact absurd H (by simp)
                        · rw [if_neg c18] at H
                          have c18b0 : decide (0 ≤ x12_3) = false := decide_eq_false c18
                          clear c18
                          have H' := Aside0.mk H
                          clear H
                          go_wp2
                          go_roundg k3
                          case measure => have := HK1.out; have := HJ11.out; have := HK3.out; omega
                          case rel => exact ⟨(wrap64 (x11_1 - 1)), (by first | rfl | (simp; done) | (simp [*]; done)), H', ⟨by have := HK1.out; have := HJ11.out; have := HK3.out; omega⟩, by repeat (first | exact Drawn0.refl _ | apply Drawn0.step)⟩
            · rw [if_neg c11] at H
              have c11b0 : decide (0 ≤ x11_1) = false := decide_eq_false c11
              clear c11
              obtain rfl := Option.some.inj H
              go_wp2
              go_ret
              exact ⟨by first | rfl | (simp; done) | (simp [*]; done), by repeat (first | exact Drawn0.refl _ | apply Drawn0.step)⟩
    · rw [if_neg c7] at H
      exact absurd H (by simp)
  · rw [if_neg c6] at H
    exact absurd H (by simp)

end Go.Proofs.Ytkppbflmlpabjaa.PLifeTells
