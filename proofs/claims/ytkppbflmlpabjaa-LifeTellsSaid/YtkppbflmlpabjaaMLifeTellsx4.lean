/- Walks of functions that the law LifeTells reaches: written by a program of this session (adapt.py) out of a print that fell in Lean; 2 places in it are turned by the session. -/
import Derived.Test.YtkppbflmlpabjaaPLifeTellsx0
import Derived.Test.YtkppbflmlpabjaaPLifeTellsx1
import Derived.Test.YtkppbflmlpabjaaMLifeTellsx2
import Derived.Test.YtkppbflmlpabjaaMLifeTellsx3
namespace Go.Proofs.Ytkppbflmlpabjaa.PLifeTells
open Go.RowKit Go.Proofs.YtkppbflmlpabjaaW.PrintWords Go.Proofs.YtkppbflmlpabjaaW.PrintLast Go.Proofs.YtkppbflmlpabjaaW.PrintMore
attribute [local go_sem] max2_int min2_int max_two min_two max_three min_three max_four min_four   -- for this text's walks alone
set_option linter.unusedVariables false
set_option linter.unusedSimpArgs false

attribute [local go_sem high] eqA41
/-! ### klaxonref11_State: function 28 -/
def klaxonref11_State.l0 : Nat → List Int → Int → Option (Int)
  | 0, _, _ => none
  | k + 1, x0, x4 => if x4 ≥ 0 then (if 0 ≤ x4 then (if x4 < (x0.length : Int) then (if (rd x0 x4) = 2 then (klaxonref11_State.l0 k x0 (wrap64 (x4 - 1))) else (if (rd x0 x4) = 1 then (some 1) else (some 0))) else (none)) else (none)) else (some 0)
def klaxonref11_State.f (k : Nat) (l0 : List Int) (a1 : Int) (a2 : Int) (a3 : Int) (a4 : Int) : Option (Int) := (klaxonref11_Fires.f k l0 a1 a2 a3 a4).bind fun t142 => (if t142 = true then (some 2) else (klaxonref11_State.l0 k l0 a4))
theorem klaxonref11_State.mono_l : ∀ k, (∀ y0 y1, LeO (klaxonref11_State.l0 k y0 y1) (klaxonref11_State.l0 (k + 1) y0 y1))
  | 0 => fun _ _ r h => by simp [klaxonref11_State.l0] at h
  | k + 1 => by
    have ih0 := klaxonref11_State.mono_l k
    · intro y0 y1
      unfold klaxonref11_State.l0
      repeat' first
      | (with_reducible exact ih0 _ _)
      | (with_reducible exact klaxonref11_Fires.mono _ _ _ _ _ _)
      | (with_reducible exact LeO.refl _)
      | (with_reducible exact LeO.none _)
      | (with_reducible refine LeO.ite ?_ ?_)
      | (with_reducible refine LeO.bind ?_ (fun _ => ?_))
      | exact ih0 _ _
      | exact klaxonref11_Fires.mono _ _ _ _ _ _
      | exact LeO.none _
      | refine LeO.ite ?_ ?_
      | refine LeO.bind ?_ (fun _ => ?_)
theorem klaxonref11_State.mono : ∀ a0 a1 a2 a3 a4 k, LeO (klaxonref11_State.f k a0 a1 a2 a3 a4) (klaxonref11_State.f (k + 1) a0 a1 a2 a3 a4) := by
  intro a0 a1 a2 a3 a4 k
  have ih0 := klaxonref11_State.mono_l k
  unfold klaxonref11_State.f
  repeat' first
      | (with_reducible exact ih0 _ _)
      | (with_reducible exact klaxonref11_Fires.mono _ _ _ _ _ _)
      | (with_reducible exact LeO.refl _)
      | (with_reducible exact LeO.none _)
      | (with_reducible refine LeO.ite ?_ ?_)
      | (with_reducible refine LeO.bind ?_ (fun _ => ?_))
      | exact ih0 _ _
      | exact klaxonref11_Fires.mono _ _ _ _ _ _
      | exact LeO.none _
      | refine LeO.ite ?_ ?_
      | refine LeO.bind ?_ (fun _ => ?_)
set_option maxHeartbeats 8000000 in
set_option maxRecDepth 100000 in
theorem klaxonref11_State.calls (k : Nat) (A0 : Option Addr) (c0 : Nat) (l0 : List Int) (a1 : Int) (a2 : Int) (a3 : Int) (a4 : Int) (r : Int) (w : World) (hr0 : Kd.C (Kd.int .i64) w A0 l0.length l0) (hc0 : l0.length ≤ c0) (h : klaxonref11_State.f k l0 a1 a2 a3 a4 = some r) :
    Calls Try.prog 28 #[.slice A0 l0.length c0, .int .i64 a1, .int .i64 a2, .int .i64 a3, .int .i64 a4] w fun e w' => e = .returned (.int .i64 r) ∧ Drawn0 w w' := by
  have HR0 := Aside0.mk hr0
  have HC0 := Aside0.mk hc0
  clear hr0 hc0
  have H : ((klaxonref11_Fires.f k l0 a1 a2 a3 a4).bind fun t142 => (if t142 = true then (some 2) else (klaxonref11_State.l0 k l0 a4))) = some r := h
  clear h
  replace H := Option.bind_eq_some_iff.mp H
  obtain ⟨t142, A60, H⟩ := H
  replace H : (if t142 = true then (some 2) else (klaxonref11_State.l0 k l0 a4)) = some r := H
  have A6 := Aside0.mk A60
  clear A60
  by_cases c7 : t142 = true
  · subst c7
    have H1 : (some 2) = some r := by rw [if_pos rfl] at H; exact H
    clear H
    have H := H1
    clear H1
    obtain rfl := Option.some.inj H
    go_enter Try.func28, Try.ntmps28
    go_wp2_with (first | ((with_reducible refine gate_callee (f := 38) rfl ?_); refine goesL_ (some 16) rfl rfl Try.func38 (by kernel_rfl) rfl #[.slice A0 l0.length c0, .int .i64 a1, .int .i64 a2, .int .i64 a3, .int .i64 a4] rfl (by (try simp only [List.map_toArray, List.map_cons, List.map_nil]); first | done | rfl | (simp only [List.length_drop, List.length_take]; rfl)) ?_; (with_reducible refine (klaxonref11_Fires.calls k _ _ l0 a1 a2 a3 a4 true _ ?side1 ?side2 A6.out).mono ?_); (case side1 => repeat (first | exact HR0.out | (with_reducible refine Kd.C_alloc ?_ _) | (with_reducible refine Kd.C_drewN ?_ _) | (with_reducible refine Kd.C_drew ?_))); (case side2 => exact HC0.out); rintro e w' ⟨rfl, ⟨nd, rfl⟩⟩; refine ⟨_, rfl, ?_⟩))
    go_ret
    exact ⟨by first | rfl | (simp; done) | (simp [*]; done), by repeat (first | exact Drawn0.refl _ | apply Drawn0.step)⟩
  · replace c7 := Bool.eq_false_iff.mpr c7
    subst c7
    have H1 : (klaxonref11_State.l0 k l0 a4) = some r := by rw [if_neg (show ¬ (false = true) by decide)] at H; exact H
    clear H
    have H := H1
    clear H1
    have H' := Aside0.mk H
    clear H
    go_enter Try.func28, Try.ntmps28
    go_wp2_with (first | ((with_reducible refine gate_callee (f := 38) rfl ?_); refine goesL_ (some 16) rfl rfl Try.func38 (by kernel_rfl) rfl #[.slice A0 l0.length c0, .int .i64 a1, .int .i64 a2, .int .i64 a3, .int .i64 a4] rfl (by (try simp only [List.map_toArray, List.map_cons, List.map_nil]); first | done | rfl | (simp only [List.length_drop, List.length_take]; rfl)) ?_; (with_reducible refine (klaxonref11_Fires.calls k _ _ l0 a1 a2 a3 a4 false _ ?side1 ?side2 A6.out).mono ?_); (case side1 => repeat (first | exact HR0.out | (with_reducible refine Kd.C_alloc ?_ _) | (with_reducible refine Kd.C_drewN ?_ _) | (with_reducible refine Kd.C_drew ?_))); (case side2 => exact HC0.out); rintro e w' ⟨rfl, ⟨nd, rfl⟩⟩; refine ⟨_, rfl, ?_⟩))
    (try simp only [Act.put, List.setIfInBounds_toArray, List.set_cons_zero, List.set_cons_succ])
    go_loopg [4] k (fun kq v4 w' => ∃ (x4_1 : Int), v4 = .int .i64 x4_1 ∧ Aside0 (klaxonref11_State.l0 kq l0 x4_1 = some r) ∧ Aside0 (kq ≤ k) ∧ Drawn0 w w')
    case atStart => exact ⟨(a4), (by first | rfl | (simp; done) | (simp [*]; done)), H', ⟨Nat.le_refl _⟩, by repeat (first | exact Drawn0.refl _ | apply Drawn0.step)⟩
    case round =>
      clear H'
      try clear c2
      try clear p2
      try clear c3
      try clear c7
      obtain ⟨x4_1, rfl, HA, HK1, ⟨m1, rfl⟩⟩ := hrel
      cases gk with
      | zero => exact absurd HA.out (by simp [klaxonref11_State.l0])
      | succ k1 =>
        have H := HA.out
        clear HA
        simp only [klaxonref11_State.l0] at H
        by_cases c8 : x4_1 ≥ 0
        · rw [if_pos c8] at H
          have c8b0 : decide (0 ≤ x4_1) = true := decide_eq_true c8
          clear c8
          by_cases c9 : 0 ≤ x4_1
          · rw [if_pos c9] at H
            have c9b0 : decide (0 ≤ x4_1) = true := decide_eq_true c9
            clear c9
            by_cases c10 : x4_1 < (l0.length : Int)
            · rw [if_pos c10] at H
              have c10b0 : decide (x4_1 < (l0.length : Int)) = true := decide_eq_true c10
              clear c10
              by_cases c11 : (rd l0 x4_1) = 2
              · rw [if_pos c11] at H
                have c11b0 : ((rd l0 x4_1) == 2) = true := beq_iff_eq.mpr c11
                have c11b1 : ((rd l0 x4_1) != 2) = false := bne_eq_false_iff_eq.mpr c11
                clear c11
                have H' := Aside0.mk H
                clear H
                have p143 : 0 ≤ (x4_1 : Int) := of_decide_eq_true (by first | (with_reducible assumption) | assumption)
                have q143 : x4_1 < (l0.length : Int) := of_decide_eq_true (by first | (with_reducible assumption) | assumption)
                obtain ⟨ad143, e143, hx143_0⟩ := Kd.at_int HR0.out x4_1 p143 q143
                cases e143
                replace p143 := eq_true p143
                replace q143 := eq_true q143
                go_wp2
                go_roundg k1
                case measure => have := HK1.out; omega
                case rel => exact ⟨(wrap64 (x4_1 - 1)), (by first | rfl | (simp; done) | (simp [*]; done)), H', ⟨by have := HK1.out; omega⟩, by repeat (first | exact Drawn0.refl _ | apply Drawn0.step)⟩
              · rw [if_neg c11] at H
                have c11b0 : ((rd l0 x4_1) == 2) = false := beq_eq_false_iff_ne.mpr c11
                have c11b1 : ((rd l0 x4_1) != 2) = true := bne_iff_ne.mpr c11
                by_cases c12 : (rd l0 x4_1) = 1
                · rw [if_pos c12] at H
                  have c12b0 : ((rd l0 x4_1) == 1) = true := beq_iff_eq.mpr c12
                  have c12b1 : ((rd l0 x4_1) != 1) = false := bne_eq_false_iff_eq.mpr c12
                  clear c12
                  obtain rfl := Option.some.inj H
                  have p143 : 0 ≤ (x4_1 : Int) := of_decide_eq_true (by first | (with_reducible assumption) | assumption)
                  have q143 : x4_1 < (l0.length : Int) := of_decide_eq_true (by first | (with_reducible assumption) | assumption)
                  obtain ⟨ad143, e143, hx143_0⟩ := Kd.at_int HR0.out x4_1 p143 q143
                  cases e143
                  replace p143 := eq_true p143
                  replace q143 := eq_true q143
                  have p144 : 0 ≤ (x4_1 : Int) := of_decide_eq_true (by first | (with_reducible assumption) | assumption)
                  have q144 : x4_1 < (l0.length : Int) := of_decide_eq_true (by first | (with_reducible assumption) | assumption)
                  obtain ⟨ad144, e144, hx144_0⟩ := Kd.at_int HR0.out x4_1 p144 q144
                  obtain rfl : ad143 = ad144 := (by injection e144)
                  replace p144 := eq_true p144
                  replace q144 := eq_true q144
                  go_wp2
                  go_ret
                  exact ⟨by first | rfl | (simp; done) | (simp [*]; done), by repeat (first | exact Drawn0.refl _ | apply Drawn0.step)⟩
                · rw [if_neg c12] at H
                  have c12b0 : ((rd l0 x4_1) == 1) = false := beq_eq_false_iff_ne.mpr c12
                  have c12b1 : ((rd l0 x4_1) != 1) = true := bne_iff_ne.mpr c12
                  obtain rfl := Option.some.inj H
                  have p143 : 0 ≤ (x4_1 : Int) := of_decide_eq_true (by first | (with_reducible assumption) | assumption)
                  have q143 : x4_1 < (l0.length : Int) := of_decide_eq_true (by first | (with_reducible assumption) | assumption)
                  obtain ⟨ad143, e143, hx143_0⟩ := Kd.at_int HR0.out x4_1 p143 q143
                  cases e143
                  replace p143 := eq_true p143
                  replace q143 := eq_true q143
                  have p144 : 0 ≤ (x4_1 : Int) := of_decide_eq_true (by first | (with_reducible assumption) | assumption)
                  have q144 : x4_1 < (l0.length : Int) := of_decide_eq_true (by first | (with_reducible assumption) | assumption)
                  obtain ⟨ad144, e144, hx144_0⟩ := Kd.at_int HR0.out x4_1 p144 q144
                  obtain rfl : ad143 = ad144 := (by injection e144)
                  replace p144 := eq_true p144
                  replace q144 := eq_true q144
                  go_wp2
                  go_ret
                  exact ⟨by first | rfl | (simp; done) | (simp [*]; done), by repeat (first | exact Drawn0.refl _ | apply Drawn0.step)⟩
            · rw [if_neg c10] at H
              exact absurd H (by simp)
          · rw [if_neg c9] at H
            exact absurd H (by simp)
        · rw [if_neg c8] at H
          have c8b0 : decide (0 ≤ x4_1) = false := decide_eq_false c8
          clear c8
          obtain rfl := Option.some.inj H
          go_wp2
          go_ret
          exact ⟨by first | rfl | (simp; done) | (simp [*]; done), by repeat (first | exact Drawn0.refl _ | apply Drawn0.step)⟩

/-! ### klaxonlaw12_LifeTells: function 6 -/
mutual
def klaxonlaw12_LifeTells.l0 : Nat → List Int → Int → Int → Int → List Int → Int → Int → Int → Int → Int → Option (Bool)
  | 0, _, _, _, _, _, _, _, _, _, _ => none
  | k + 1, x0, x9, x10, x11, x12, x14, x15, x149000, x149001, x149002 => if x15 < (x0.length : Int) then (klaxonlaw12_LifeTells.j1 k x0 x9 x10 x11 x12 x14 x15 (decide (x15 < 25)) x149000 x149001 x149002) else (klaxonlaw12_LifeTells.j1 k x0 x9 x10 x11 x12 x14 x15 false x149000 x149001 x149002)
def klaxonlaw12_LifeTells.j1 : Nat → List Int → Int → Int → Int → List Int → Int → Int → Bool → Int → Int → Int → Option (Bool)
  | 0, _, _, _, _, _, _, _, _, _, _, _ => none
  | k + 1, x0, x9, x10, x11, x12, x14, x15, x31, x149000, x149001, x149002 => if x31 = true then (if 0 ≤ x15 then (if x15 < (x0.length : Int) then ((klaxonbook_Within.f (rd x0 x15) 0 8).bind fun t151 => (if t151 > 5 then (klaxonlaw12_LifeTells.j2 k x0 x9 x10 x11 x12 x14 x15 t151 0 x149000 x149001 x149002) else (klaxonlaw12_LifeTells.j2 k x0 x9 x10 x11 x12 x14 x15 t151 1 x149000 x149001 x149002))) else (none)) else (none)) else ((klaxonlaw12_LifeRuns.f k).bind fun t149 => (some t149))
def klaxonlaw12_LifeTells.j2 : Nat → List Int → Int → Int → Int → List Int → Int → Int → Int → Int → Int → Int → Int → Option (Bool)
  | 0, _, _, _, _, _, _, _, _, _, _, _, _ => none
  | k + 1, x0, x9, x10, x11, x12, x14, x15, x16, x17, x149000, x149001, x149002 => if x16 = 8 then (klaxonlaw12_LifeTells.j3 k x0 x9 x10 x11 x12 x14 x15 2 x149000 x149001 x149002) else (klaxonlaw12_LifeTells.j3 k x0 x9 x10 x11 x12 x14 x15 x17 x149000 x149001 x149002)
def klaxonlaw12_LifeTells.j3 : Nat → List Int → Int → Int → Int → List Int → Int → Int → Int → Int → Int → Int → Option (Bool)
  | 0, _, _, _, _, _, _, _, _, _, _, _ => none
  | k + 1, x0, x9, x10, x11, x12, x14, x15, x17, x149000, x149001, x149002 => if x12.length < 17592186044416 then ((some (x12 ++ [x17] : List Int)).bind fun y152 => (if x17 < 2 then ((life_Life_Next.f k x149000 x149001 x149002 x15 x9 x10 x11 (x17 == 1)).bind fun bt155 => ((klaxonref11_State.f k y152 x9 x10 x11 x15).bind fun t158 => (if bt155.1 = t158 then (if bt155.1 = 0 then (if (!(bt155.1 == 0) || (!(bt155.2.1 == 0) || (!(bt155.2.2 == 0)))) = true then (some false) else (if x10 = 0 then (if bt155.1 = 1 then (some false) else (klaxonlaw12_LifeTells.l0 k x0 x9 x10 x11 y152 bt155.1 (wrap64 (x15 + 1)) bt155.1 bt155.2.1 bt155.2.2)) else (klaxonlaw12_LifeTells.l0 k x0 x9 x10 x11 y152 bt155.1 (wrap64 (x15 + 1)) bt155.1 bt155.2.1 bt155.2.2))) else (if x10 = 0 then (if bt155.1 = 1 then (some false) else (klaxonlaw12_LifeTells.l0 k x0 x9 x10 x11 y152 bt155.1 (wrap64 (x15 + 1)) bt155.1 bt155.2.1 bt155.2.2)) else (klaxonlaw12_LifeTells.l0 k x0 x9 x10 x11 y152 bt155.1 (wrap64 (x15 + 1)) bt155.1 bt155.2.1 bt155.2.2))) else (some false)))) else ((klaxonref11_State.f k y152 x9 x10 x11 x15).bind fun t159 => (if x14 = t159 then (if x149000 = 0 then (if (!(x149000 == 0) || (!(x149001 == 0) || (!(x149002 == 0)))) = true then (some false) else (if x10 = 0 then (if x14 = 1 then (some false) else (klaxonlaw12_LifeTells.l0 k x0 x9 x10 x11 y152 x14 (wrap64 (x15 + 1)) x149000 x149001 x149002)) else (klaxonlaw12_LifeTells.l0 k x0 x9 x10 x11 y152 x14 (wrap64 (x15 + 1)) x149000 x149001 x149002))) else (if x10 = 0 then (if x14 = 1 then (some false) else (klaxonlaw12_LifeTells.l0 k x0 x9 x10 x11 y152 x14 (wrap64 (x15 + 1)) x149000 x149001 x149002)) else (klaxonlaw12_LifeTells.l0 k x0 x9 x10 x11 y152 x14 (wrap64 (x15 + 1)) x149000 x149001 x149002))) else (some false))))) else (none)
end
def klaxonlaw12_LifeTells.f (k : Nat) (l0 : List Int) (a1 : Int) (a2 : Int) (a3 : Int) : Option (Bool) := (klaxonbook_Within.f a1 1 9).bind fun t145 => ((klaxonbook_Within.f a2 0 40).bind fun t146 => ((klaxonbook_Within.f a3 0 40).bind fun t147 => (klaxonlaw12_LifeTells.l0 k l0 t145 t146 t147 ([] : List Int) 0 0 0 0 0)))
theorem klaxonlaw12_LifeTells.mono_l : ∀ k, (∀ y0 y1 y2 y3 y4 y5 y6 y7 y8 y9, LeO (klaxonlaw12_LifeTells.l0 k y0 y1 y2 y3 y4 y5 y6 y7 y8 y9) (klaxonlaw12_LifeTells.l0 (k + 1) y0 y1 y2 y3 y4 y5 y6 y7 y8 y9)) ∧ (∀ y0 y1 y2 y3 y4 y5 y6 y7 y8 y9 y10, LeO (klaxonlaw12_LifeTells.j1 k y0 y1 y2 y3 y4 y5 y6 y7 y8 y9 y10) (klaxonlaw12_LifeTells.j1 (k + 1) y0 y1 y2 y3 y4 y5 y6 y7 y8 y9 y10)) ∧ (∀ y0 y1 y2 y3 y4 y5 y6 y7 y8 y9 y10 y11, LeO (klaxonlaw12_LifeTells.j2 k y0 y1 y2 y3 y4 y5 y6 y7 y8 y9 y10 y11) (klaxonlaw12_LifeTells.j2 (k + 1) y0 y1 y2 y3 y4 y5 y6 y7 y8 y9 y10 y11)) ∧ (∀ y0 y1 y2 y3 y4 y5 y6 y7 y8 y9 y10, LeO (klaxonlaw12_LifeTells.j3 k y0 y1 y2 y3 y4 y5 y6 y7 y8 y9 y10) (klaxonlaw12_LifeTells.j3 (k + 1) y0 y1 y2 y3 y4 y5 y6 y7 y8 y9 y10))
  | 0 => ⟨fun _ _ _ _ _ _ _ _ _ _ r h => by simp [klaxonlaw12_LifeTells.l0] at h, fun _ _ _ _ _ _ _ _ _ _ _ r h => by simp [klaxonlaw12_LifeTells.j1] at h, fun _ _ _ _ _ _ _ _ _ _ _ _ r h => by simp [klaxonlaw12_LifeTells.j2] at h, fun _ _ _ _ _ _ _ _ _ _ _ r h => by simp [klaxonlaw12_LifeTells.j3] at h⟩
  | k + 1 => by
    obtain ⟨ih0, ih1, ih2, ih3⟩ := klaxonlaw12_LifeTells.mono_l k
    refine ⟨?_, ?_, ?_, ?_⟩
    · intro y0 y1 y2 y3 y4 y5 y6 y7 y8 y9
      unfold klaxonlaw12_LifeTells.l0
      repeat' first
      | (with_reducible exact ih0 _ _ _ _ _ _ _ _ _ _)
      | (with_reducible exact ih1 _ _ _ _ _ _ _ _ _ _ _)
      | (with_reducible exact ih2 _ _ _ _ _ _ _ _ _ _ _ _)
      | (with_reducible exact ih3 _ _ _ _ _ _ _ _ _ _ _)
      | (with_reducible exact klaxonlaw12_LifeRuns.mono _)
      | (with_reducible exact klaxonref11_State.mono _ _ _ _ _ _)
      | (with_reducible exact life_Life_Next.mono _ _ _ _ _ _ _ _ _)
      | (with_reducible exact LeO.refl _)
      | (with_reducible exact LeO.none _)
      | (with_reducible refine LeO.ite ?_ ?_)
      | (with_reducible refine LeO.bind ?_ (fun _ => ?_))
      | exact ih0 _ _ _ _ _ _ _ _ _ _
      | exact ih1 _ _ _ _ _ _ _ _ _ _ _
      | exact ih2 _ _ _ _ _ _ _ _ _ _ _ _
      | exact ih3 _ _ _ _ _ _ _ _ _ _ _
      | exact klaxonlaw12_LifeRuns.mono _
      | exact klaxonref11_State.mono _ _ _ _ _ _
      | exact life_Life_Next.mono _ _ _ _ _ _ _ _ _
      | exact LeO.none _
      | refine LeO.ite ?_ ?_
      | refine LeO.bind ?_ (fun _ => ?_)
    · intro y0 y1 y2 y3 y4 y5 y6 y7 y8 y9 y10
      unfold klaxonlaw12_LifeTells.j1
      repeat' first
      | (with_reducible exact ih0 _ _ _ _ _ _ _ _ _ _)
      | (with_reducible exact ih1 _ _ _ _ _ _ _ _ _ _ _)
      | (with_reducible exact ih2 _ _ _ _ _ _ _ _ _ _ _ _)
      | (with_reducible exact ih3 _ _ _ _ _ _ _ _ _ _ _)
      | (with_reducible exact klaxonlaw12_LifeRuns.mono _)
      | (with_reducible exact klaxonref11_State.mono _ _ _ _ _ _)
      | (with_reducible exact life_Life_Next.mono _ _ _ _ _ _ _ _ _)
      | (with_reducible exact LeO.refl _)
      | (with_reducible exact LeO.none _)
      | (with_reducible refine LeO.ite ?_ ?_)
      | (with_reducible refine LeO.bind ?_ (fun _ => ?_))
      | exact ih0 _ _ _ _ _ _ _ _ _ _
      | exact ih1 _ _ _ _ _ _ _ _ _ _ _
      | exact ih2 _ _ _ _ _ _ _ _ _ _ _ _
      | exact ih3 _ _ _ _ _ _ _ _ _ _ _
      | exact klaxonlaw12_LifeRuns.mono _
      | exact klaxonref11_State.mono _ _ _ _ _ _
      | exact life_Life_Next.mono _ _ _ _ _ _ _ _ _
      | exact LeO.none _
      | refine LeO.ite ?_ ?_
      | refine LeO.bind ?_ (fun _ => ?_)
    · intro y0 y1 y2 y3 y4 y5 y6 y7 y8 y9 y10 y11
      unfold klaxonlaw12_LifeTells.j2
      repeat' first
      | (with_reducible exact ih0 _ _ _ _ _ _ _ _ _ _)
      | (with_reducible exact ih1 _ _ _ _ _ _ _ _ _ _ _)
      | (with_reducible exact ih2 _ _ _ _ _ _ _ _ _ _ _ _)
      | (with_reducible exact ih3 _ _ _ _ _ _ _ _ _ _ _)
      | (with_reducible exact klaxonlaw12_LifeRuns.mono _)
      | (with_reducible exact klaxonref11_State.mono _ _ _ _ _ _)
      | (with_reducible exact life_Life_Next.mono _ _ _ _ _ _ _ _ _)
      | (with_reducible exact LeO.refl _)
      | (with_reducible exact LeO.none _)
      | (with_reducible refine LeO.ite ?_ ?_)
      | (with_reducible refine LeO.bind ?_ (fun _ => ?_))
      | exact ih0 _ _ _ _ _ _ _ _ _ _
      | exact ih1 _ _ _ _ _ _ _ _ _ _ _
      | exact ih2 _ _ _ _ _ _ _ _ _ _ _ _
      | exact ih3 _ _ _ _ _ _ _ _ _ _ _
      | exact klaxonlaw12_LifeRuns.mono _
      | exact klaxonref11_State.mono _ _ _ _ _ _
      | exact life_Life_Next.mono _ _ _ _ _ _ _ _ _
      | exact LeO.none _
      | refine LeO.ite ?_ ?_
      | refine LeO.bind ?_ (fun _ => ?_)
    · intro y0 y1 y2 y3 y4 y5 y6 y7 y8 y9 y10
      unfold klaxonlaw12_LifeTells.j3
      repeat' first
      | (with_reducible exact ih0 _ _ _ _ _ _ _ _ _ _)
      | (with_reducible exact ih1 _ _ _ _ _ _ _ _ _ _ _)
      | (with_reducible exact ih2 _ _ _ _ _ _ _ _ _ _ _ _)
      | (with_reducible exact ih3 _ _ _ _ _ _ _ _ _ _ _)
      | (with_reducible exact klaxonlaw12_LifeRuns.mono _)
      | (with_reducible exact klaxonref11_State.mono _ _ _ _ _ _)
      | (with_reducible exact life_Life_Next.mono _ _ _ _ _ _ _ _ _)
      | (with_reducible exact LeO.refl _)
      | (with_reducible exact LeO.none _)
      | (with_reducible refine LeO.ite ?_ ?_)
      | (with_reducible refine LeO.bind ?_ (fun _ => ?_))
      | exact ih0 _ _ _ _ _ _ _ _ _ _
      | exact ih1 _ _ _ _ _ _ _ _ _ _ _
      | exact ih2 _ _ _ _ _ _ _ _ _ _ _ _
      | exact ih3 _ _ _ _ _ _ _ _ _ _ _
      | exact klaxonlaw12_LifeRuns.mono _
      | exact klaxonref11_State.mono _ _ _ _ _ _
      | exact life_Life_Next.mono _ _ _ _ _ _ _ _ _
      | exact LeO.none _
      | refine LeO.ite ?_ ?_
      | refine LeO.bind ?_ (fun _ => ?_)
theorem klaxonlaw12_LifeTells.mono : ∀ a0 a1 a2 a3 k, LeO (klaxonlaw12_LifeTells.f k a0 a1 a2 a3) (klaxonlaw12_LifeTells.f (k + 1) a0 a1 a2 a3) := by
  intro a0 a1 a2 a3 k
  obtain ⟨ih0, ih1, ih2, ih3⟩ := klaxonlaw12_LifeTells.mono_l k
  unfold klaxonlaw12_LifeTells.f
  repeat' first
      | (with_reducible exact ih0 _ _ _ _ _ _ _ _ _ _)
      | (with_reducible exact ih1 _ _ _ _ _ _ _ _ _ _ _)
      | (with_reducible exact ih2 _ _ _ _ _ _ _ _ _ _ _ _)
      | (with_reducible exact ih3 _ _ _ _ _ _ _ _ _ _ _)
      | (with_reducible exact klaxonlaw12_LifeRuns.mono _)
      | (with_reducible exact klaxonref11_State.mono _ _ _ _ _ _)
      | (with_reducible exact life_Life_Next.mono _ _ _ _ _ _ _ _ _)
      | (with_reducible exact LeO.refl _)
      | (with_reducible exact LeO.none _)
      | (with_reducible refine LeO.ite ?_ ?_)
      | (with_reducible refine LeO.bind ?_ (fun _ => ?_))
      | exact ih0 _ _ _ _ _ _ _ _ _ _
      | exact ih1 _ _ _ _ _ _ _ _ _ _ _
      | exact ih2 _ _ _ _ _ _ _ _ _ _ _ _
      | exact ih3 _ _ _ _ _ _ _ _ _ _ _
      | exact klaxonlaw12_LifeRuns.mono _
      | exact klaxonref11_State.mono _ _ _ _ _ _
      | exact life_Life_Next.mono _ _ _ _ _ _ _ _ _
      | exact LeO.none _
      | refine LeO.ite ?_ ?_
      | refine LeO.bind ?_ (fun _ => ?_)
set_option maxHeartbeats 8000000 in
set_option maxRecDepth 100000 in
theorem klaxonlaw12_LifeTells.calls (k : Nat) (A0 : Option Addr) (c0 : Nat) (l0 : List Int) (a1 : Int) (a2 : Int) (a3 : Int) (r : Bool) (w : World) (hr0 : Kd.C (Kd.int .i64) w A0 l0.length l0) (hc0 : l0.length ≤ c0) (h : klaxonlaw12_LifeTells.f k l0 a1 a2 a3 = some r) :
    Calls Try.prog 6 #[.slice A0 l0.length c0, .int .i64 a1, .int .i64 a2, .int .i64 a3] w fun e w' => e = .returned (.bool r) ∧ Below w.heap.size w w' := by
  have hu41 := Try.underlying41
  have HR0 := Aside0.mk hr0
  have HC0 := Aside0.mk hc0
  clear hr0 hc0
  have HB := Aside0.mk (Below.refl w.heap.size w)
  have H : ((klaxonbook_Within.f a1 1 9).bind fun t145 => ((klaxonbook_Within.f a2 0 40).bind fun t146 => ((klaxonbook_Within.f a3 0 40).bind fun t147 => (klaxonlaw12_LifeTells.l0 k l0 t145 t146 t147 ([] : List Int) 0 0 0 0 0)))) = some r := h
  clear h
  replace H := Option.bind_eq_some_iff.mp H
  obtain ⟨t145, A50, H⟩ := H
  replace H : ((klaxonbook_Within.f a2 0 40).bind fun t146 => ((klaxonbook_Within.f a3 0 40).bind fun t147 => (klaxonlaw12_LifeTells.l0 k l0 t145 t146 t147 ([] : List Int) 0 0 0 0 0))) = some r := H
  have A5 := Aside0.mk A50
  clear A50
  replace H := Option.bind_eq_some_iff.mp H
  obtain ⟨t146, A60, H⟩ := H
  replace H : ((klaxonbook_Within.f a3 0 40).bind fun t147 => (klaxonlaw12_LifeTells.l0 k l0 t145 t146 t147 ([] : List Int) 0 0 0 0 0)) = some r := H
  have A6 := Aside0.mk A60
  clear A60
  replace H := Option.bind_eq_some_iff.mp H
  obtain ⟨t147, A70, H⟩ := H
  replace H : (klaxonlaw12_LifeTells.l0 k l0 t145 t146 t147 ([] : List Int) 0 0 0 0 0) = some r := H
  have A7 := Aside0.mk A70
  clear A70
  have H' := Aside0.mk H
  clear H
  go_enter Try.func6, Try.ntmps6
  go_wp2_with (first | ((with_reducible refine gate_callee (f := 22) rfl ?_); refine goesL_ (some 19) rfl rfl Try.func22 (by kernel_rfl) rfl #[.int .i64 a1, .int .i64 1, .int .i64 9] rfl (by (try simp only [List.map_toArray, List.map_cons, List.map_nil]); first | done | rfl | (simp only [List.length_drop, List.length_take]; rfl)) ?_; (with_reducible refine (klaxonbook_Within.calls a1 1 9 t145 _ A5.out).mono ?_); rintro e w' ⟨rfl, ⟨nd, rfl⟩⟩; refine ⟨_, rfl, ?_⟩) | ((with_reducible refine gate_callee (f := 22) rfl ?_); refine goesL_ (some 21) rfl rfl Try.func22 (by kernel_rfl) rfl #[.int .i64 a2, .int .i64 0, .int .i64 40] rfl (by (try simp only [List.map_toArray, List.map_cons, List.map_nil]); first | done | rfl | (simp only [List.length_drop, List.length_take]; rfl)) ?_; (with_reducible refine (klaxonbook_Within.calls a2 0 40 t146 _ A6.out).mono ?_); rintro e w' ⟨rfl, ⟨nd, rfl⟩⟩; refine ⟨_, rfl, ?_⟩) | ((with_reducible refine gate_callee (f := 22) rfl ?_); refine goesL_ (some 23) rfl rfl Try.func22 (by kernel_rfl) rfl #[.int .i64 a3, .int .i64 0, .int .i64 40] rfl (by (try simp only [List.map_toArray, List.map_cons, List.map_nil]); first | done | rfl | (simp only [List.length_drop, List.length_take]; rfl)) ?_; (with_reducible refine (klaxonbook_Within.calls a3 0 40 t147 _ A7.out).mono ?_); rintro e w' ⟨rfl, ⟨nd, rfl⟩⟩; refine ⟨_, rfl, ?_⟩) | ((with_reducible refine gate_dst (N := 13) rfl ?_); refine box_event ?hg (N := 13) ?hd (cs := #[.int .i64 0, .int .i64 0, .int .i64 0]) (t := 41) ?hr ?_; (case hd => rfl); (case hg => rfl); (case hr => first | (go_simp; done) | (go_simp; rfl)); intro gb148 hg w8 hbox hb; have n0_ := Aside0.mk (below_step (by repeat (first | (with_reducible first | exact HB.out | apply below_alloc | apply pw_below_drewN | apply below_drew1) | exact HB.out)) hb); have n1_ := Aside0.mk (hbox); have n2_ := Aside0.mk ((by rw [hg]; exact (below_size (by repeat (first | (with_reducible first | exact HB.out | apply below_alloc | apply pw_below_drewN | apply below_drew1) | exact HB.out))) : w.heap.size ≤ gb148)); have n3_ := Aside0.mk ((by rw [hg]; exact (below_size (by repeat (first | (with_reducible first | exact HB.out | apply below_alloc | apply pw_below_drewN | apply below_drew1) | exact HB.out))) : w.heap.size ≤ gb148)); clear HB; have HB := n0_; have BK148 := n1_; have GW148 := n2_; have GE148 := n3_; clear n0_ n1_ n2_ n3_; clear hb hbox hg))
  go_loopg [12, 14, 15] k (fun kq v12 v14 v15 w' => ∃ (x12_1 : List Int) (x14_1 : Int) (x15_1 : Int) (x149000_1 : Int) (x149001_1 : Int) (x149002_1 : Int), v14 = .int .i64 x14_1 ∧ v15 = .int .i64 x15_1 ∧ Aside0 (klaxonlaw12_LifeTells.l0 kq l0 t145 t146 t147 x12_1 x14_1 x15_1 x149000_1 x149001_1 x149002_1 = some r) ∧ Aside0 (kq ≤ k) ∧ Aside0 (Kd.R (Kd.int .i64) 3 w' w.heap.size (fun _ => True) v12 x12_1) ∧ Aside0 (w'.heap[gb148]? = some (.cells #[.int .i64 x149000_1, .int .i64 x149001_1, .int .i64 x149002_1] 41 (0, 0))) ∧ Aside0 (Below w.heap.size w w'))
  case atStart => exact ⟨(([] : List Int)), (0), (0), (0), (0), (0), (by first | rfl | (simp; done) | (simp [*]; done)), (by first | rfl | (simp; done) | (simp [*]; done)), H', ⟨Nat.le_refl _⟩, ⟨by first | exact Kd.R_nil _ _ _ _ _ | exact Kd.N_nil _ _ _ _ _ | exact Kd.V_nil _ _ _ _ _ | exact Kd.Q_nil _ _ _ _ _ | exact Kd.S_nil _ _ _ _ _⟩, ⟨by (with_reducible repeat (first | refine blk_drewN ?_ _ | refine blk_drew ?_ | refine blk_alloc ?_ _)); exact BK148.out⟩, ⟨by repeat (first | (with_reducible first | exact HB.out | apply below_alloc | apply pw_below_drewN | apply below_drew1 | refine below_set ?_ GE148.out) | exact HB.out)⟩⟩
  case round =>
    clear H'
    try clear c2
    try clear p2
    try clear c6
    obtain ⟨x12_1, x14_1, x15_1, x149000_1, x149001_1, x149002_1, rfl, rfl, HA, HK1, HO_12, BK148, HB⟩ := hrel
    cases gk with
    | zero => exact absurd HA.out (by simp [klaxonlaw12_LifeTells.l0])
    | succ k1 =>
      have H := HA.out
      clear HA
      simp only [klaxonlaw12_LifeTells.l0] at H
      have HC9 := Aside0.mk H
      clear H
      go_upto_region 6 with (fail)
      go_cut [31] (fun v31 wc => ∃ (kq : Nat) (x31_8 : Bool), v31 = .bool x31_8 ∧ Aside0 (klaxonlaw12_LifeTells.j1 kq l0 t145 t146 t147 x12_1 x14_1 x15_1 x31_8 x149000_1 x149001_1 x149002_1 = some r) ∧ Aside0 (kq ≤ k1) ∧ Aside0 (Kd.R (Kd.int .i64) 3 wc w.heap.size (fun _ => True) u12 x12_1) ∧ Aside0 (wc.heap[gb148]? = some (.cells #[.int .i64 x149000_1, .int .i64 x149001_1, .int .i64 x149002_1] 41 (0, 0))) ∧ Aside0 (Below w.heap.size w wc))
      case first =>
        have H := HC9.out
        clear HC9
        by_cases c10 : x15_1 < (l0.length : Int)
        · rw [if_pos c10] at H
          have c10b0 : decide (x15_1 < (l0.length : Int)) = true := decide_eq_true c10
          clear c10
          (first | rw [c10b0] | (simp only [i64_w, i32_w]; rw [c10b0]) | skip)
          have H' := Aside0.mk H
          clear H
          go_wp2
          go_meet
          case rel => exact ⟨_, (decide (x15_1 < 25)), (by first | rfl | (simp; done) | (simp [*]; done)), H', ⟨by have := HK1.out; first | omega | exact Nat.le_refl _⟩, ⟨by (with_reducible repeat (first | apply Kd.R_alloc | apply Kd.R_drewN | apply Kd.R_drew)); exact HO_12.out⟩, ⟨by (with_reducible repeat (first | refine blk_drewN ?_ _ | refine blk_drew ?_ | refine blk_alloc ?_ _)); exact BK148.out⟩, ⟨by repeat (first | (with_reducible first | exact HB.out | apply below_alloc | apply pw_below_drewN | apply below_drew1 | refine below_set ?_ GE148.out) | exact HB.out)⟩⟩
        · rw [if_neg c10] at H
          have c10b0 : decide (x15_1 < (l0.length : Int)) = false := decide_eq_false c10
          clear c10
          (first | rw [c10b0] | (simp only [i64_w, i32_w]; rw [c10b0]) | skip)
          have H' := Aside0.mk H
          clear H
          go_wp2
          go_meet
          case rel => exact ⟨_, (false), (by first | rfl | (simp; done) | (simp [*]; done)), H', ⟨by have := HK1.out; first | omega | exact Nat.le_refl _⟩, ⟨by (with_reducible repeat (first | apply Kd.R_alloc | apply Kd.R_drewN | apply Kd.R_drew)); exact HO_12.out⟩, ⟨by (with_reducible repeat (first | refine blk_drewN ?_ _ | refine blk_drew ?_ | refine blk_alloc ?_ _)); exact BK148.out⟩, ⟨by repeat (first | (with_reducible first | exact HB.out | apply below_alloc | apply pw_below_drewN | apply below_drew1 | refine below_set ?_ GE148.out) | exact HB.out)⟩⟩
      case rest =>
        clear HC9
        try clear c1
        try clear c2
        try clear p2
        try clear c6
        try clear c10
        try clear c10b0
        try clear p2
        obtain ⟨kq, x31_8, rfl, HA, HJ8, HO_12, BK148, HB⟩ := hcut
        cases kq with
        | zero => exact absurd HA.out (by simp [klaxonlaw12_LifeTells.j1])
        | succ kj8 =>
          have H := HA.out
          clear HA
          simp only [klaxonlaw12_LifeTells.j1] at H
          by_cases c11 : x31_8 = true
          · subst c11
            have H1 : (if 0 ≤ x15_1 then (if x15_1 < (l0.length : Int) then ((klaxonbook_Within.f (rd l0 x15_1) 0 8).bind fun t151 => (if t151 > 5 then (klaxonlaw12_LifeTells.j2 kj8 l0 t145 t146 t147 x12_1 x14_1 x15_1 t151 0 x149000_1 x149001_1 x149002_1) else (klaxonlaw12_LifeTells.j2 kj8 l0 t145 t146 t147 x12_1 x14_1 x15_1 t151 1 x149000_1 x149001_1 x149002_1))) else (none)) else (none)) = some r := by rw [if_pos rfl] at H; exact H
            clear H
            have H := H1
            clear H1
            by_cases c12 : 0 ≤ x15_1
            · rw [if_pos c12] at H
              have c12b0 : decide (0 ≤ x15_1) = true := decide_eq_true c12
              clear c12
              by_cases c13 : x15_1 < (l0.length : Int)
              · rw [if_pos c13] at H
                have c13b0 : decide (x15_1 < (l0.length : Int)) = true := decide_eq_true c13
                clear c13
                replace H := Option.bind_eq_some_iff.mp H
                obtain ⟨t151, A140, H⟩ := H
                replace H : (if t151 > 5 then (klaxonlaw12_LifeTells.j2 kj8 l0 t145 t146 t147 x12_1 x14_1 x15_1 t151 0 x149000_1 x149001_1 x149002_1) else (klaxonlaw12_LifeTells.j2 kj8 l0 t145 t146 t147 x12_1 x14_1 x15_1 t151 1 x149000_1 x149001_1 x149002_1)) = some r := H
                have A14 := Aside0.mk A140
                clear A140
                have HC15 := Aside0.mk H
                clear H
                have p150 : 0 ≤ (x15_1 : Int) := of_decide_eq_true (by first | (with_reducible assumption) | assumption)
                have q150 : x15_1 < (l0.length : Int) := of_decide_eq_true (by first | (with_reducible assumption) | assumption)
                obtain ⟨ad150, e150, hx150_0⟩ := Kd.at_int HR0.out x15_1 p150 q150
                cases e150
                replace hx150_0 := (HB.out.cell (World.block_lt_of_cell? w _ hx150_0)).trans hx150_0
                replace p150 := eq_true p150
                replace q150 := eq_true q150
                go_upto_if 40 with (first | ((with_reducible refine gate_callee (f := 22) rfl ?_); refine goesL_ (some 38) rfl rfl Try.func22 (by kernel_rfl) rfl #[.int .i64 (rd l0 x15_1), .int .i64 0, .int .i64 8] rfl (by (try simp only [List.map_toArray, List.map_cons, List.map_nil]); first | done | rfl | (simp only [List.length_drop, List.length_take]; rfl)) ?_; (with_reducible refine (klaxonbook_Within.calls (rd l0 x15_1) 0 8 t151 _ A14.out).mono ?_); rintro e w' ⟨rfl, ⟨nd, rfl⟩⟩; refine ⟨_, rfl, ?_⟩))
                (try simp only [Act.put, List.setIfInBounds_toArray, List.set_cons_zero, List.set_cons_succ])
                go_cut [17] (fun v17 wc => ∃ (kq : Nat) (x17_14 : Int), v17 = .int .i64 x17_14 ∧ Aside0 (klaxonlaw12_LifeTells.j2 kq l0 t145 t146 t147 x12_1 x14_1 x15_1 t151 x17_14 x149000_1 x149001_1 x149002_1 = some r) ∧ Aside0 (kq ≤ kj8) ∧ Aside0 (Kd.R (Kd.int .i64) 3 wc w.heap.size (fun _ => True) u12 x12_1) ∧ Aside0 (wc.heap[gb148]? = some (.cells #[.int .i64 x149000_1, .int .i64 x149001_1, .int .i64 x149002_1] 41 (0, 0))) ∧ Aside0 (Below w.heap.size w wc))
                case first =>
                  have H := HC15.out
                  clear HC15
                  by_cases c16 : t151 > 5
                  · rw [if_pos c16] at H
                    have c16b0 : decide (5 < t151) = true := decide_eq_true c16
                    clear c16
                    (first | rw [c16b0] | (simp only [i64_w, i32_w]; rw [c16b0]) | skip)
                    have H' := Aside0.mk H
                    clear H
                    go_wp2
                    go_meet
                    case rel => exact ⟨_, (0), (by first | rfl | (simp; done) | (simp [*]; done)), H', ⟨by have := HK1.out; have := HJ8.out; first | omega | exact Nat.le_refl _⟩, ⟨by (with_reducible repeat (first | apply Kd.R_alloc | apply Kd.R_drewN | apply Kd.R_drew)); exact HO_12.out⟩, ⟨by (with_reducible repeat (first | refine blk_drewN ?_ _ | refine blk_drew ?_ | refine blk_alloc ?_ _)); exact BK148.out⟩, ⟨by repeat (first | (with_reducible first | exact HB.out | apply below_alloc | apply pw_below_drewN | apply below_drew1 | refine below_set ?_ GE148.out) | exact HB.out)⟩⟩
                  · rw [if_neg c16] at H
                    have c16b0 : decide (5 < t151) = false := decide_eq_false c16
                    clear c16
                    (first | rw [c16b0] | (simp only [i64_w, i32_w]; rw [c16b0]) | skip)
                    have H' := Aside0.mk H
                    clear H
                    go_wp2
                    go_meet
                    case rel => exact ⟨_, (1), (by first | rfl | (simp; done) | (simp [*]; done)), H', ⟨by have := HK1.out; have := HJ8.out; first | omega | exact Nat.le_refl _⟩, ⟨by (with_reducible repeat (first | apply Kd.R_alloc | apply Kd.R_drewN | apply Kd.R_drew)); exact HO_12.out⟩, ⟨by (with_reducible repeat (first | refine blk_drewN ?_ _ | refine blk_drew ?_ | refine blk_alloc ?_ _)); exact BK148.out⟩, ⟨by repeat (first | (with_reducible first | exact HB.out | apply below_alloc | apply pw_below_drewN | apply below_drew1 | refine below_set ?_ GE148.out) | exact HB.out)⟩⟩
                case rest =>
                  clear HC15
                  try clear c1
                  try clear p1
                  try clear q1
                  try clear hx1
                  try clear c2
                  try clear p2
                  try clear c6
                  try clear c10
                  try clear c10b0
                  try clear c11
                  try clear c12
                  try clear c12b0
                  try clear c13
                  try clear c13b0
                  try clear p15
                  try clear q15
                  try clear hx15
                  try clear c16
                  try clear c16b0
                  try clear hx150_0
                  try clear p150
                  try clear p2
                  try clear q150
                  obtain ⟨kq, x17_14, rfl, HA, HJ14, HO_12, BK148, HB⟩ := hcut
                  cases kq with
                  | zero => exact absurd HA.out (by simp [klaxonlaw12_LifeTells.j2])
                  | succ kj14 =>
                    have H := HA.out
                    clear HA
                    simp only [klaxonlaw12_LifeTells.j2] at H
                    have HC17 := Aside0.mk H
                    clear H
                    go_upto_if 42 with (fail)
                    go_cut [17] (fun v17 wc => ∃ (kq : Nat) (x17_16 : Int), v17 = .int .i64 x17_16 ∧ Aside0 (klaxonlaw12_LifeTells.j3 kq l0 t145 t146 t147 x12_1 x14_1 x15_1 x17_16 x149000_1 x149001_1 x149002_1 = some r) ∧ Aside0 (kq ≤ kj14) ∧ Aside0 (Kd.R (Kd.int .i64) 3 wc w.heap.size (fun _ => True) u12 x12_1) ∧ Aside0 (wc.heap[gb148]? = some (.cells #[.int .i64 x149000_1, .int .i64 x149001_1, .int .i64 x149002_1] 41 (0, 0))) ∧ Aside0 (Below w.heap.size w wc))
                    case first =>
                      have H := HC17.out
                      clear HC17
                      by_cases c18 : t151 = 8
                      · rw [if_pos c18] at H
                        have c18b0 : (t151 == 8) = true := beq_iff_eq.mpr c18
                        have c18b1 : (t151 != 8) = false := bne_eq_false_iff_eq.mpr c18
                        clear c18
                        (first | rw [c18b0] | (simp only [i64_w, i32_w]; rw [c18b0]) | skip)
                        have H' := Aside0.mk H
                        clear H
                        go_wp2
                        go_meet
                        case rel => exact ⟨_, (2), (by first | rfl | (simp; done) | (simp [*]; done)), H', ⟨by have := HK1.out; have := HJ8.out; have := HJ14.out; first | omega | exact Nat.le_refl _⟩, ⟨by (with_reducible repeat (first | apply Kd.R_alloc | apply Kd.R_drewN | apply Kd.R_drew)); exact HO_12.out⟩, ⟨by (with_reducible repeat (first | refine blk_drewN ?_ _ | refine blk_drew ?_ | refine blk_alloc ?_ _)); exact BK148.out⟩, ⟨by repeat (first | (with_reducible first | exact HB.out | apply below_alloc | apply pw_below_drewN | apply below_drew1 | refine below_set ?_ GE148.out) | exact HB.out)⟩⟩
                      · rw [if_neg c18] at H
                        have c18b0 : (t151 == 8) = false := beq_eq_false_iff_ne.mpr c18
                        have c18b1 : (t151 != 8) = true := bne_iff_ne.mpr c18
                        (first | rw [c18b0] | (simp only [i64_w, i32_w]; rw [c18b0]) | skip)
                        have H' := Aside0.mk H
                        clear H
                        go_wp2
                        go_meet
                        case rel => exact ⟨_, (x17_14), (by first | rfl | (simp; done) | (simp [*]; done)), H', ⟨by have := HK1.out; have := HJ8.out; have := HJ14.out; first | omega | exact Nat.le_refl _⟩, ⟨by (with_reducible repeat (first | apply Kd.R_alloc | apply Kd.R_drewN | apply Kd.R_drew)); exact HO_12.out⟩, ⟨by (with_reducible repeat (first | refine blk_drewN ?_ _ | refine blk_drew ?_ | refine blk_alloc ?_ _)); exact BK148.out⟩, ⟨by repeat (first | (with_reducible first | exact HB.out | apply below_alloc | apply pw_below_drewN | apply below_drew1 | refine below_set ?_ GE148.out) | exact HB.out)⟩⟩
                    case rest =>
                      clear HC17
                      try clear c1
                      try clear p1
                      try clear q1
                      try clear hx1
                      try clear c2
                      try clear p2
                      try clear c6
                      try clear c10
                      try clear c10b0
                      try clear c11
                      try clear c12
                      try clear c12b0
                      try clear c13
                      try clear c13b0
                      try clear p15
                      try clear q15
                      try clear hx15
                      try clear c16
                      try clear c16b0
                      try clear c18
                      try clear c18b0
                      try clear c18b1
                      try clear hx150_0
                      try clear p1
                      try clear p15
                      try clear p150
                      try clear p2
                      try clear q1
                      try clear q15
                      try clear q150
                      obtain ⟨kq, x17_16, rfl, HA, HJ16, HO_12, BK148, HB⟩ := hcut
                      cases kq with
                      | zero => exact absurd HA.out (by simp [klaxonlaw12_LifeTells.j3])
                      | succ kj16 =>
                        have H := HA.out
                        clear HA
                        simp only [klaxonlaw12_LifeTells.j3] at H
                        by_cases c19 : x12_1.length < 17592186044416
                        · rw [if_pos c19] at H
                          have LMc19 := Aside0.mk c19
                          clear c19
                          obtain ⟨y152, hy152⟩ : ∃ y_ : List Int, y_ = (x12_1 ++ [x17_16]) := ⟨_, rfl⟩
                          replace H : (if x17_16 < 2 then ((life_Life_Next.f kj16 x149000_1 x149001_1 x149002_1 x15_1 t145 t146 t147 (x17_16 == 1)).bind fun bt155 => ((klaxonref11_State.f kj16 y152 t145 t146 t147 x15_1).bind fun t158 => (if bt155.1 = t158 then (if bt155.1 = 0 then (if (!(bt155.1 == 0) || (!(bt155.2.1 == 0) || (!(bt155.2.2 == 0)))) = true then (some false) else (if t146 = 0 then (if bt155.1 = 1 then (some false) else (klaxonlaw12_LifeTells.l0 kj16 l0 t145 t146 t147 y152 bt155.1 (wrap64 (x15_1 + 1)) bt155.1 bt155.2.1 bt155.2.2)) else (klaxonlaw12_LifeTells.l0 kj16 l0 t145 t146 t147 y152 bt155.1 (wrap64 (x15_1 + 1)) bt155.1 bt155.2.1 bt155.2.2))) else (if t146 = 0 then (if bt155.1 = 1 then (some false) else (klaxonlaw12_LifeTells.l0 kj16 l0 t145 t146 t147 y152 bt155.1 (wrap64 (x15_1 + 1)) bt155.1 bt155.2.1 bt155.2.2)) else (klaxonlaw12_LifeTells.l0 kj16 l0 t145 t146 t147 y152 bt155.1 (wrap64 (x15_1 + 1)) bt155.1 bt155.2.1 bt155.2.2))) else (some false)))) else ((klaxonref11_State.f kj16 y152 t145 t146 t147 x15_1).bind fun t159 => (if x14_1 = t159 then (if x149000_1 = 0 then (if (!(x149000_1 == 0) || (!(x149001_1 == 0) || (!(x149002_1 == 0)))) = true then (some false) else (if t146 = 0 then (if x14_1 = 1 then (some false) else (klaxonlaw12_LifeTells.l0 kj16 l0 t145 t146 t147 y152 x14_1 (wrap64 (x15_1 + 1)) x149000_1 x149001_1 x149002_1)) else (klaxonlaw12_LifeTells.l0 kj16 l0 t145 t146 t147 y152 x14_1 (wrap64 (x15_1 + 1)) x149000_1 x149001_1 x149002_1))) else (if t146 = 0 then (if x14_1 = 1 then (some false) else (klaxonlaw12_LifeTells.l0 kj16 l0 t145 t146 t147 y152 x14_1 (wrap64 (x15_1 + 1)) x149000_1 x149001_1 x149002_1)) else (klaxonlaw12_LifeTells.l0 kj16 l0 t145 t146 t147 y152 x14_1 (wrap64 (x15_1 + 1)) x149000_1 x149001_1 x149002_1))) else (some false)))) = some r := by first | (rw [hy152]; with_reducible exact H) | (have H2_ := (Option.bind_some _ _).symm.trans H; rw [hy152]; with_reducible exact H2_) | (have H2_ := (Option.bind_some _ _).symm.trans H; with_reducible exact H2_) | with_reducible exact H | (rw [hy152]; exact H) | exact H
                          have Ny152 := Aside0.mk hy152
                          clear hy152
                          by_cases c20 : x17_16 < 2
                          · rw [if_pos c20] at H
                            have c20b0 : decide (x17_16 < 2) = true := decide_eq_true c20
                            clear c20
                            replace H := Option.bind_eq_some_iff.mp H
                            obtain ⟨⟨t155, t156, t157⟩, A210, H⟩ := H
                            replace H : ((klaxonref11_State.f kj16 y152 t145 t146 t147 x15_1).bind fun t158 => (if t155 = t158 then (if t155 = 0 then (if (!(t155 == 0) || (!(t156 == 0) || (!(t157 == 0)))) = true then (some false) else (if t146 = 0 then (if t155 = 1 then (some false) else (klaxonlaw12_LifeTells.l0 kj16 l0 t145 t146 t147 y152 t155 (wrap64 (x15_1 + 1)) t155 t156 t157)) else (klaxonlaw12_LifeTells.l0 kj16 l0 t145 t146 t147 y152 t155 (wrap64 (x15_1 + 1)) t155 t156 t157))) else (if t146 = 0 then (if t155 = 1 then (some false) else (klaxonlaw12_LifeTells.l0 kj16 l0 t145 t146 t147 y152 t155 (wrap64 (x15_1 + 1)) t155 t156 t157)) else (klaxonlaw12_LifeTells.l0 kj16 l0 t145 t146 t147 y152 t155 (wrap64 (x15_1 + 1)) t155 t156 t157))) else (some false))) = some r := H
                            have A21 := Aside0.mk A210
                            clear A210
                            replace H := Option.bind_eq_some_iff.mp H
                            obtain ⟨t158, A220, H⟩ := H
                            replace H : (if t155 = t158 then (if t155 = 0 then (if (!(t155 == 0) || (!(t156 == 0) || (!(t157 == 0)))) = true then (some false) else (if t146 = 0 then (if t155 = 1 then (some false) else (klaxonlaw12_LifeTells.l0 kj16 l0 t145 t146 t147 y152 t155 (wrap64 (x15_1 + 1)) t155 t156 t157)) else (klaxonlaw12_LifeTells.l0 kj16 l0 t145 t146 t147 y152 t155 (wrap64 (x15_1 + 1)) t155 t156 t157))) else (if t146 = 0 then (if t155 = 1 then (some false) else (klaxonlaw12_LifeTells.l0 kj16 l0 t145 t146 t147 y152 t155 (wrap64 (x15_1 + 1)) t155 t156 t157)) else (klaxonlaw12_LifeTells.l0 kj16 l0 t145 t146 t147 y152 t155 (wrap64 (x15_1 + 1)) t155 t156 t157))) else (some false)) = some r := H
                            have A22 := Aside0.mk A220
                            clear A220
                            by_cases c23 : t155 = t158
                            · rw [if_pos c23] at H
                              have c23b0 : (t155 == t158) = true := beq_iff_eq.mpr c23
                              have c23b1 : (t155 != t158) = false := bne_eq_false_iff_eq.mpr c23
                              clear c23
                              by_cases c24 : t155 = 0
                              · rw [if_pos c24] at H
                                have c24b0 : (t155 == 0) = true := beq_iff_eq.mpr c24
                                have c24b1 : (t155 != 0) = false := bne_eq_false_iff_eq.mpr c24
                                clear c24
                                by_cases c25 : (!(t155 == 0) || (!(t156 == 0) || (!(t157 == 0)))) = true
                                · rw [if_pos c25] at H
                                  have c25x : ¬ (t156 = 0 ∧ t157 = 0) := by
                                    rintro ⟨rfl, rfl⟩
                                    rw [c24b0] at c25; simp at c25
                                  have c25b0 : (!(t155 == 0) || (!(t156 == 0) || (!(t157 == 0)))) = true := c25
                                  clear c25
                                  obtain rfl := Option.some.inj H
                                  go_wp2_with (first | ((with_reducible refine gate_builtin (b := .append) (xs := #[.tmp 43, .tmp 45]) rfl ?_); at_builtin; refine Kd.R_append (Kd.int .i64) (w0 := w) w.heap.size rfl (.tmp 43) (.tmp 45) 39 3 (.int .i64 0) 8 rfl Try.underlying39 info3 rfl (by decide) (by omega) u12 x12_1 x17_16 [.int .i64 x17_16] (fun _ => True) (fun _ => False) rfl rfl ?aP (fun _ hk => hk.elim) ?aF ?aO ?aB ?aS ?aL ?_; (case aP => exact rfl); (case aB => exact (by repeat (first | (with_reducible first | exact HB.out | apply below_alloc | apply pw_below_drewN | apply below_drew1 | refine below_set ?_ GE148.out) | exact HB.out))); (case aF => exact (fun _ _ => trivial)); (case aO => exact (by (with_reducible repeat (first | apply Kd.R_alloc | apply Kd.R_drewN | apply Kd.R_drew)); exact HO_12.out)); (case aS => exact (below_size (by repeat (first | (with_reducible first | exact HB.out | apply below_alloc | apply pw_below_drewN | apply below_drew1 | refine below_set ?_ GE148.out) | exact HB.out)))); (case aL => have := LMc19.out; omega); intro v153 w26 ho hb hg hat; rw [← Ny152.out] at ho; have n0_ := Aside0.mk (blk_grown (g := gb148) (o := .cells #[.int .i64 x149000_1, .int .i64 x149001_1, .int .i64 x149002_1] 41 (0, 0)) (by (with_reducible repeat (first | refine blk_drewN ?_ _ | refine blk_drew ?_ | refine blk_alloc ?_ _)); exact BK148.out) hg (Kd.R_ne HO_12.out BK148.out (by decide))); have n1_ := Aside0.mk (hb); have n2_ := Aside0.mk (ho); clear BK148; clear HB; clear HO_12; have BK148 := n0_; have HB := n1_; have HO154 := n2_; clear n0_ n1_ n2_; clear ho hb hg hat; have hcz27_0 : w26.cell? ⟨gb148, 0, none⟩ = some (.int .i64 x149000_1) := (blk_cell BK148.out 0).trans rfl; have hcz27_1 : w26.cell? ⟨gb148, 1, none⟩ = some (.int .i64 x149001_1) := (blk_cell BK148.out 1).trans rfl; have hcz27_2 : w26.cell? ⟨gb148, 2, none⟩ = some (.int .i64 x149002_1) := (blk_cell BK148.out 2).trans rfl; have hfz27_0 := blk_frozen BK148.out 0; have hfz27_1 := blk_frozen BK148.out 1; have hfz27_2 := blk_frozen BK148.out 2) | ((with_reducible refine gate_callee (f := 27) rfl ?_); refine goesL_ (some 56) rfl rfl Try.func27 (by kernel_rfl) rfl #[.agg #[.int .i64 x149000_1, .int .i64 x149001_1, .int .i64 x149002_1], .int .i64 x15_1, .int .i64 t145, .int .i64 t146, .int .i64 t147, .bool (x17_16 == 1)] rfl (by (try simp only [List.map_toArray, List.map_cons, List.map_nil]); first | done | rfl | (simp only [List.length_drop, List.length_take]; rfl)) ?_; (with_reducible refine (life_Life_Next.calls kj16 x149000_1 x149001_1 x149002_1 x15_1 t145 t146 t147 (x17_16 == 1) t155 t156 t157 _ A21.out).mono ?_); rintro e w28 ⟨rfl, hb⟩; refine ⟨_, rfl, ?_⟩; have n0_ := Aside0.mk (Kd.R_below (by (with_reducible repeat (first | apply Kd.R_alloc | apply Kd.R_drewN | apply Kd.R_drew)); exact HO154.out) hb); have n1_ := Aside0.mk (blk_below (g := gb148) (o := .cells #[.int .i64 x149000_1, .int .i64 x149001_1, .int .i64 x149002_1] 41 (0, 0)) (by (with_reducible repeat (first | refine blk_drewN ?_ _ | refine blk_drew ?_ | refine blk_alloc ?_ _)); exact BK148.out) hb); have n2_ := Aside0.mk (below_step (by repeat (first | (with_reducible first | exact HB.out | apply below_alloc | apply pw_below_drewN | apply below_drew1 | refine below_set ?_ GE148.out) | exact HB.out)) hb); clear HO154; clear BK148; clear HB; have HO154 := n0_; have BK148 := n1_; have HB := n2_; clear n0_ n1_ n2_; (try clear hb); (try clear hb2); (try clear hk); (try clear hi); have hcz29_0 : w28.cell? ⟨gb148, 0, none⟩ = some (.int .i64 x149000_1) := (blk_cell BK148.out 0).trans rfl; have hcz29_1 : w28.cell? ⟨gb148, 1, none⟩ = some (.int .i64 x149001_1) := (blk_cell BK148.out 1).trans rfl; have hcz29_2 : w28.cell? ⟨gb148, 2, none⟩ = some (.int .i64 x149002_1) := (blk_cell BK148.out 2).trans rfl; have hfz29_0 := blk_frozen BK148.out 0; have hfz29_1 := blk_frozen BK148.out 1; have hfz29_2 := blk_frozen BK148.out 2; obtain ⟨Ao30, co30, eo30⟩ := Kd.R_slice HO154.out; subst eo30) | ((with_reducible refine gate_callee (f := 28) rfl ?_); refine goesL_ (some 65) rfl rfl Try.func28 (by kernel_rfl) rfl #[.slice Ao30 y152.length co30, .int .i64 t145, .int .i64 t146, .int .i64 t147, .int .i64 x15_1] rfl (by (try simp only [List.map_toArray, List.map_cons, List.map_nil]); first | done | rfl | (simp only [List.length_drop, List.length_take]; rfl)) ?_; (with_reducible refine (klaxonref11_State.calls kj16 _ _ y152 t145 t146 t147 x15_1 t158 _ ?side1 ?side2 A22.out).mono ?_); (case side1 => refine (Kd.R_reads' (e := 3) (base := w.heap.size) (ok := fun k_ => True) (n := y152.length) (c := co30) ?_).2.2; exact (by (with_reducible repeat (first | apply Kd.R_alloc | apply Kd.R_drewN | apply Kd.R_drew)); exact (Kd.R_mono (Kd.R_far (p := ⟨gb148, 2, none⟩) (Kd.R_far (p := ⟨gb148, 1, none⟩) (Kd.R_far (p := ⟨gb148, 0, none⟩) (Kd.R_types HO154.out BK148.out (by decide)) (fun _ hk => hk.2) (.int .i64 t155)) (fun _ hk => hk.2) (.int .i64 t156)) (fun _ hk => hk.2) (.int .i64 t157)) (fun _ h_ => h_.1)))); (case side2 => exact (Kd.R_reads' HO154.out).2.1); rintro e w' ⟨rfl, ⟨nd, rfl⟩⟩; refine ⟨_, rfl, ?_⟩))
                                  go_ret
                                  exact ⟨by first | rfl | (simp [errW_none, errW_some] <;> rfl) | (simp [*, errW_none, errW_some] <;> rfl), by repeat (first | (with_reducible first | exact HB.out | apply below_alloc | apply pw_below_drewN | apply below_drew1 | refine below_set ?_ GE148.out) | exact HB.out)⟩
                                · rw [if_neg c25] at H
                                  obtain ⟨z1, z2, z3⟩ : t155 = 0 ∧ t156 = 0 ∧ t157 = 0 := by simpa [and_assoc] using c25
                                  subst z1 z2 z3
                                  clear c24b0 c24b1
                                  clear c25
                                  by_cases c31 : t146 = 0
                                  · rw [if_pos c31] at H
                                    have c31b0 : (t146 == 0) = true := beq_iff_eq.mpr c31
                                    have c31b1 : (t146 != 0) = false := bne_eq_false_iff_eq.mpr c31
                                    clear c31
                                    by_cases c32 : (0 : Int) = 1
                                    · exact absurd c32 (by decide)
                                    · rw [if_neg c32] at H
                                      have c32b0 : ((0 : Int) == 1) = false := beq_eq_false_iff_ne.mpr c32
                                      have c32b1 : ((0 : Int) != 1) = true := bne_iff_ne.mpr c32
                                      have H' := Aside0.mk H
                                      clear H
                                      go_wp2_with (first | ((with_reducible refine gate_builtin (b := .append) (xs := #[.tmp 43, .tmp 45]) rfl ?_); at_builtin; refine Kd.R_append (Kd.int .i64) (w0 := w) w.heap.size rfl (.tmp 43) (.tmp 45) 39 3 (.int .i64 0) 8 rfl Try.underlying39 info3 rfl (by decide) (by omega) u12 x12_1 x17_16 [.int .i64 x17_16] (fun _ => True) (fun _ => False) rfl rfl ?aP (fun _ hk => hk.elim) ?aF ?aO ?aB ?aS ?aL ?_; (case aP => exact rfl); (case aB => exact (by repeat (first | (with_reducible first | exact HB.out | apply below_alloc | apply pw_below_drewN | apply below_drew1 | refine below_set ?_ GE148.out) | exact HB.out))); (case aF => exact (fun _ _ => trivial)); (case aO => exact (by (with_reducible repeat (first | apply Kd.R_alloc | apply Kd.R_drewN | apply Kd.R_drew)); exact HO_12.out)); (case aS => exact (below_size (by repeat (first | (with_reducible first | exact HB.out | apply below_alloc | apply pw_below_drewN | apply below_drew1 | refine below_set ?_ GE148.out) | exact HB.out)))); (case aL => have := LMc19.out; omega); intro v153 w38 ho hb hg hat; rw [← Ny152.out] at ho; have n0_ := Aside0.mk (blk_grown (g := gb148) (o := .cells #[.int .i64 x149000_1, .int .i64 x149001_1, .int .i64 x149002_1] 41 (0, 0)) (by (with_reducible repeat (first | refine blk_drewN ?_ _ | refine blk_drew ?_ | refine blk_alloc ?_ _)); exact BK148.out) hg (Kd.R_ne HO_12.out BK148.out (by decide))); have n1_ := Aside0.mk (hb); have n2_ := Aside0.mk (ho); clear BK148; clear HB; clear HO_12; have BK148 := n0_; have HB := n1_; have HO154 := n2_; clear n0_ n1_ n2_; clear ho hb hg hat; have hcz39_0 : w38.cell? ⟨gb148, 0, none⟩ = some (.int .i64 x149000_1) := (blk_cell BK148.out 0).trans rfl; have hcz39_1 : w38.cell? ⟨gb148, 1, none⟩ = some (.int .i64 x149001_1) := (blk_cell BK148.out 1).trans rfl; have hcz39_2 : w38.cell? ⟨gb148, 2, none⟩ = some (.int .i64 x149002_1) := (blk_cell BK148.out 2).trans rfl; have hfz39_0 := blk_frozen BK148.out 0; have hfz39_1 := blk_frozen BK148.out 1; have hfz39_2 := blk_frozen BK148.out 2) | ((with_reducible refine gate_callee (f := 27) rfl ?_); refine goesL_ (some 56) rfl rfl Try.func27 (by kernel_rfl) rfl #[.agg #[.int .i64 x149000_1, .int .i64 x149001_1, .int .i64 x149002_1], .int .i64 x15_1, .int .i64 t145, .int .i64 t146, .int .i64 t147, .bool (x17_16 == 1)] rfl (by (try simp only [List.map_toArray, List.map_cons, List.map_nil]); first | done | rfl | (simp only [List.length_drop, List.length_take]; rfl)) ?_; (with_reducible refine (life_Life_Next.calls kj16 x149000_1 x149001_1 x149002_1 x15_1 t145 t146 t147 (x17_16 == 1) 0 0 0 _ A21.out).mono ?_); rintro e w40 ⟨rfl, hb⟩; refine ⟨_, rfl, ?_⟩; have n0_ := Aside0.mk (Kd.R_below (by (with_reducible repeat (first | apply Kd.R_alloc | apply Kd.R_drewN | apply Kd.R_drew)); exact HO154.out) hb); have n1_ := Aside0.mk (blk_below (g := gb148) (o := .cells #[.int .i64 x149000_1, .int .i64 x149001_1, .int .i64 x149002_1] 41 (0, 0)) (by (with_reducible repeat (first | refine blk_drewN ?_ _ | refine blk_drew ?_ | refine blk_alloc ?_ _)); exact BK148.out) hb); have n2_ := Aside0.mk (below_step (by repeat (first | (with_reducible first | exact HB.out | apply below_alloc | apply pw_below_drewN | apply below_drew1 | refine below_set ?_ GE148.out) | exact HB.out)) hb); clear HO154; clear BK148; clear HB; have HO154 := n0_; have BK148 := n1_; have HB := n2_; clear n0_ n1_ n2_; (try clear hb); (try clear hb2); (try clear hk); (try clear hi); have hcz41_0 : w40.cell? ⟨gb148, 0, none⟩ = some (.int .i64 x149000_1) := (blk_cell BK148.out 0).trans rfl; have hcz41_1 : w40.cell? ⟨gb148, 1, none⟩ = some (.int .i64 x149001_1) := (blk_cell BK148.out 1).trans rfl; have hcz41_2 : w40.cell? ⟨gb148, 2, none⟩ = some (.int .i64 x149002_1) := (blk_cell BK148.out 2).trans rfl; have hfz41_0 := blk_frozen BK148.out 0; have hfz41_1 := blk_frozen BK148.out 1; have hfz41_2 := blk_frozen BK148.out 2; obtain ⟨Ao42, co42, eo42⟩ := Kd.R_slice HO154.out; subst eo42) | ((with_reducible refine gate_callee (f := 28) rfl ?_); refine goesL_ (some 65) rfl rfl Try.func28 (by kernel_rfl) rfl #[.slice Ao42 y152.length co42, .int .i64 t145, .int .i64 t146, .int .i64 t147, .int .i64 x15_1] rfl (by (try simp only [List.map_toArray, List.map_cons, List.map_nil]); first | done | rfl | (simp only [List.length_drop, List.length_take]; rfl)) ?_; (with_reducible refine (klaxonref11_State.calls kj16 _ _ y152 t145 t146 t147 x15_1 t158 _ ?side1 ?side2 A22.out).mono ?_); (case side1 => refine (Kd.R_reads' (e := 3) (base := w.heap.size) (ok := fun k_ => True) (n := y152.length) (c := co42) ?_).2.2; exact (by (with_reducible repeat (first | apply Kd.R_alloc | apply Kd.R_drewN | apply Kd.R_drew)); exact (Kd.R_mono (Kd.R_far (p := ⟨gb148, 2, none⟩) (Kd.R_far (p := ⟨gb148, 1, none⟩) (Kd.R_far (p := ⟨gb148, 0, none⟩) (Kd.R_types HO154.out BK148.out (by decide)) (fun _ hk => hk.2) (.int .i64 0)) (fun _ hk => hk.2) (.int .i64 0)) (fun _ hk => hk.2) (.int .i64 0)) (fun _ h_ => h_.1)))); (case side2 => exact (Kd.R_reads' HO154.out).2.1); rintro e w' ⟨rfl, ⟨nd, rfl⟩⟩; refine ⟨_, rfl, ?_⟩))
                                      go_roundg kj16
                                      case measure => have := HK1.out; have := HJ8.out; have := HJ14.out; have := HJ16.out; omega
                                      case rel => exact ⟨(y152), (0), (wrap64 (x15_1 + 1)), (0), (0), (0), (by first | rfl | (simp; done) | (simp [*]; done)), (by first | rfl | (simp; done) | (simp [*]; done)), H', ⟨by have := HK1.out; have := HJ8.out; have := HJ14.out; have := HJ16.out; omega⟩, ⟨by (with_reducible repeat (first | apply Kd.R_alloc | apply Kd.R_drewN | apply Kd.R_drew)); exact Kd.R_mono (Kd.R_far (p := ⟨gb148, 2, none⟩) (Kd.R_far (p := ⟨gb148, 1, none⟩) (Kd.R_far (p := ⟨gb148, 0, none⟩) (Kd.R_types HO154.out BK148.out (by decide)) (fun _ hk => hk.2) (.int .i64 0)) (fun _ hk => hk.2) (.int .i64 0)) (fun _ hk => hk.2) (.int .i64 0)) (fun _ hk => trivial)⟩, ⟨by (with_reducible repeat (first | refine blk_drewN ?_ _ | refine blk_drew ?_ | refine blk_alloc ?_ _)); refine blk_put (cs := #[.int .i64 0, .int .i64 0, .int .i64 x149002_1]) ?_ 2 _ rfl; (with_reducible repeat (first | refine blk_drewN ?_ _ | refine blk_drew ?_ | refine blk_alloc ?_ _)); refine blk_put (cs := #[.int .i64 0, .int .i64 x149001_1, .int .i64 x149002_1]) ?_ 1 _ rfl; (with_reducible repeat (first | refine blk_drewN ?_ _ | refine blk_drew ?_ | refine blk_alloc ?_ _)); refine blk_put (cs := #[.int .i64 x149000_1, .int .i64 x149001_1, .int .i64 x149002_1]) ?_ 0 _ rfl; (with_reducible repeat (first | refine blk_drewN ?_ _ | refine blk_drew ?_ | refine blk_alloc ?_ _)); exact BK148.out⟩, ⟨by repeat (first | (with_reducible first | exact HB.out | apply below_alloc | apply pw_below_drewN | apply below_drew1 | refine below_set ?_ GE148.out) | exact HB.out)⟩⟩
                                  · rw [if_neg c31] at H
                                    have c31b0 : (t146 == 0) = false := beq_eq_false_iff_ne.mpr c31
                                    have c31b1 : (t146 != 0) = true := bne_iff_ne.mpr c31
                                    have H' := Aside0.mk H
                                    clear H
                                    go_wp2_with (first | ((with_reducible refine gate_builtin (b := .append) (xs := #[.tmp 43, .tmp 45]) rfl ?_); at_builtin; refine Kd.R_append (Kd.int .i64) (w0 := w) w.heap.size rfl (.tmp 43) (.tmp 45) 39 3 (.int .i64 0) 8 rfl Try.underlying39 info3 rfl (by decide) (by omega) u12 x12_1 x17_16 [.int .i64 x17_16] (fun _ => True) (fun _ => False) rfl rfl ?aP (fun _ hk => hk.elim) ?aF ?aO ?aB ?aS ?aL ?_; (case aP => exact rfl); (case aB => exact (by repeat (first | (with_reducible first | exact HB.out | apply below_alloc | apply pw_below_drewN | apply below_drew1 | refine below_set ?_ GE148.out) | exact HB.out))); (case aF => exact (fun _ _ => trivial)); (case aO => exact (by (with_reducible repeat (first | apply Kd.R_alloc | apply Kd.R_drewN | apply Kd.R_drew)); exact HO_12.out)); (case aS => exact (below_size (by repeat (first | (with_reducible first | exact HB.out | apply below_alloc | apply pw_below_drewN | apply below_drew1 | refine below_set ?_ GE148.out) | exact HB.out)))); (case aL => have := LMc19.out; omega); intro v153 w43 ho hb hg hat; rw [← Ny152.out] at ho; have n0_ := Aside0.mk (blk_grown (g := gb148) (o := .cells #[.int .i64 x149000_1, .int .i64 x149001_1, .int .i64 x149002_1] 41 (0, 0)) (by (with_reducible repeat (first | refine blk_drewN ?_ _ | refine blk_drew ?_ | refine blk_alloc ?_ _)); exact BK148.out) hg (Kd.R_ne HO_12.out BK148.out (by decide))); have n1_ := Aside0.mk (hb); have n2_ := Aside0.mk (ho); clear BK148; clear HB; clear HO_12; have BK148 := n0_; have HB := n1_; have HO154 := n2_; clear n0_ n1_ n2_; clear ho hb hg hat; have hcz44_0 : w43.cell? ⟨gb148, 0, none⟩ = some (.int .i64 x149000_1) := (blk_cell BK148.out 0).trans rfl; have hcz44_1 : w43.cell? ⟨gb148, 1, none⟩ = some (.int .i64 x149001_1) := (blk_cell BK148.out 1).trans rfl; have hcz44_2 : w43.cell? ⟨gb148, 2, none⟩ = some (.int .i64 x149002_1) := (blk_cell BK148.out 2).trans rfl; have hfz44_0 := blk_frozen BK148.out 0; have hfz44_1 := blk_frozen BK148.out 1; have hfz44_2 := blk_frozen BK148.out 2) | ((with_reducible refine gate_callee (f := 27) rfl ?_); refine goesL_ (some 56) rfl rfl Try.func27 (by kernel_rfl) rfl #[.agg #[.int .i64 x149000_1, .int .i64 x149001_1, .int .i64 x149002_1], .int .i64 x15_1, .int .i64 t145, .int .i64 t146, .int .i64 t147, .bool (x17_16 == 1)] rfl (by (try simp only [List.map_toArray, List.map_cons, List.map_nil]); first | done | rfl | (simp only [List.length_drop, List.length_take]; rfl)) ?_; (with_reducible refine (life_Life_Next.calls kj16 x149000_1 x149001_1 x149002_1 x15_1 t145 t146 t147 (x17_16 == 1) 0 0 0 _ A21.out).mono ?_); rintro e w45 ⟨rfl, hb⟩; refine ⟨_, rfl, ?_⟩; have n0_ := Aside0.mk (Kd.R_below (by (with_reducible repeat (first | apply Kd.R_alloc | apply Kd.R_drewN | apply Kd.R_drew)); exact HO154.out) hb); have n1_ := Aside0.mk (blk_below (g := gb148) (o := .cells #[.int .i64 x149000_1, .int .i64 x149001_1, .int .i64 x149002_1] 41 (0, 0)) (by (with_reducible repeat (first | refine blk_drewN ?_ _ | refine blk_drew ?_ | refine blk_alloc ?_ _)); exact BK148.out) hb); have n2_ := Aside0.mk (below_step (by repeat (first | (with_reducible first | exact HB.out | apply below_alloc | apply pw_below_drewN | apply below_drew1 | refine below_set ?_ GE148.out) | exact HB.out)) hb); clear HO154; clear BK148; clear HB; have HO154 := n0_; have BK148 := n1_; have HB := n2_; clear n0_ n1_ n2_; (try clear hb); (try clear hb2); (try clear hk); (try clear hi); have hcz46_0 : w45.cell? ⟨gb148, 0, none⟩ = some (.int .i64 x149000_1) := (blk_cell BK148.out 0).trans rfl; have hcz46_1 : w45.cell? ⟨gb148, 1, none⟩ = some (.int .i64 x149001_1) := (blk_cell BK148.out 1).trans rfl; have hcz46_2 : w45.cell? ⟨gb148, 2, none⟩ = some (.int .i64 x149002_1) := (blk_cell BK148.out 2).trans rfl; have hfz46_0 := blk_frozen BK148.out 0; have hfz46_1 := blk_frozen BK148.out 1; have hfz46_2 := blk_frozen BK148.out 2; obtain ⟨Ao47, co47, eo47⟩ := Kd.R_slice HO154.out; subst eo47) | ((with_reducible refine gate_callee (f := 28) rfl ?_); refine goesL_ (some 65) rfl rfl Try.func28 (by kernel_rfl) rfl #[.slice Ao47 y152.length co47, .int .i64 t145, .int .i64 t146, .int .i64 t147, .int .i64 x15_1] rfl (by (try simp only [List.map_toArray, List.map_cons, List.map_nil]); first | done | rfl | (simp only [List.length_drop, List.length_take]; rfl)) ?_; (with_reducible refine (klaxonref11_State.calls kj16 _ _ y152 t145 t146 t147 x15_1 t158 _ ?side1 ?side2 A22.out).mono ?_); (case side1 => refine (Kd.R_reads' (e := 3) (base := w.heap.size) (ok := fun k_ => True) (n := y152.length) (c := co47) ?_).2.2; exact (by (with_reducible repeat (first | apply Kd.R_alloc | apply Kd.R_drewN | apply Kd.R_drew)); exact (Kd.R_mono (Kd.R_far (p := ⟨gb148, 2, none⟩) (Kd.R_far (p := ⟨gb148, 1, none⟩) (Kd.R_far (p := ⟨gb148, 0, none⟩) (Kd.R_types HO154.out BK148.out (by decide)) (fun _ hk => hk.2) (.int .i64 0)) (fun _ hk => hk.2) (.int .i64 0)) (fun _ hk => hk.2) (.int .i64 0)) (fun _ h_ => h_.1)))); (case side2 => exact (Kd.R_reads' HO154.out).2.1); rintro e w' ⟨rfl, ⟨nd, rfl⟩⟩; refine ⟨_, rfl, ?_⟩))
                                    go_roundg kj16
                                    case measure => have := HK1.out; have := HJ8.out; have := HJ14.out; have := HJ16.out; omega
                                    case rel => exact ⟨(y152), (0), (wrap64 (x15_1 + 1)), (0), (0), (0), (by first | rfl | (simp; done) | (simp [*]; done)), (by first | rfl | (simp; done) | (simp [*]; done)), H', ⟨by have := HK1.out; have := HJ8.out; have := HJ14.out; have := HJ16.out; omega⟩, ⟨by (with_reducible repeat (first | apply Kd.R_alloc | apply Kd.R_drewN | apply Kd.R_drew)); exact Kd.R_mono (Kd.R_far (p := ⟨gb148, 2, none⟩) (Kd.R_far (p := ⟨gb148, 1, none⟩) (Kd.R_far (p := ⟨gb148, 0, none⟩) (Kd.R_types HO154.out BK148.out (by decide)) (fun _ hk => hk.2) (.int .i64 0)) (fun _ hk => hk.2) (.int .i64 0)) (fun _ hk => hk.2) (.int .i64 0)) (fun _ hk => trivial)⟩, ⟨by (with_reducible repeat (first | refine blk_drewN ?_ _ | refine blk_drew ?_ | refine blk_alloc ?_ _)); refine blk_put (cs := #[.int .i64 0, .int .i64 0, .int .i64 x149002_1]) ?_ 2 _ rfl; (with_reducible repeat (first | refine blk_drewN ?_ _ | refine blk_drew ?_ | refine blk_alloc ?_ _)); refine blk_put (cs := #[.int .i64 0, .int .i64 x149001_1, .int .i64 x149002_1]) ?_ 1 _ rfl; (with_reducible repeat (first | refine blk_drewN ?_ _ | refine blk_drew ?_ | refine blk_alloc ?_ _)); refine blk_put (cs := #[.int .i64 x149000_1, .int .i64 x149001_1, .int .i64 x149002_1]) ?_ 0 _ rfl; (with_reducible repeat (first | refine blk_drewN ?_ _ | refine blk_drew ?_ | refine blk_alloc ?_ _)); exact BK148.out⟩, ⟨by repeat (first | (with_reducible first | exact HB.out | apply below_alloc | apply pw_below_drewN | apply below_drew1 | refine below_set ?_ GE148.out) | exact HB.out)⟩⟩
                              · rw [if_neg c24] at H
                                have c24b0 : (t155 == 0) = false := beq_eq_false_iff_ne.mpr c24
                                have c24b1 : (t155 != 0) = true := bne_iff_ne.mpr c24
                                by_cases c48 : t146 = 0
                                · rw [if_pos c48] at H
                                  have c48b0 : (t146 == 0) = true := beq_iff_eq.mpr c48
                                  have c48b1 : (t146 != 0) = false := bne_eq_false_iff_eq.mpr c48
                                  clear c48
                                  by_cases c49 : t155 = 1
                                  · rw [if_pos c49] at H
                                    have c49b0 : (t155 == 1) = true := beq_iff_eq.mpr c49
                                    have c49b1 : (t155 != 1) = false := bne_eq_false_iff_eq.mpr c49
                                    clear c49
                                    obtain rfl := Option.some.inj H
                                    go_wp2_with (first | ((with_reducible refine gate_builtin (b := .append) (xs := #[.tmp 43, .tmp 45]) rfl ?_); at_builtin; refine Kd.R_append (Kd.int .i64) (w0 := w) w.heap.size rfl (.tmp 43) (.tmp 45) 39 3 (.int .i64 0) 8 rfl Try.underlying39 info3 rfl (by decide) (by omega) u12 x12_1 x17_16 [.int .i64 x17_16] (fun _ => True) (fun _ => False) rfl rfl ?aP (fun _ hk => hk.elim) ?aF ?aO ?aB ?aS ?aL ?_; (case aP => exact rfl); (case aB => exact (by repeat (first | (with_reducible first | exact HB.out | apply below_alloc | apply pw_below_drewN | apply below_drew1 | refine below_set ?_ GE148.out) | exact HB.out))); (case aF => exact (fun _ _ => trivial)); (case aO => exact (by (with_reducible repeat (first | apply Kd.R_alloc | apply Kd.R_drewN | apply Kd.R_drew)); exact HO_12.out)); (case aS => exact (below_size (by repeat (first | (with_reducible first | exact HB.out | apply below_alloc | apply pw_below_drewN | apply below_drew1 | refine below_set ?_ GE148.out) | exact HB.out)))); (case aL => have := LMc19.out; omega); intro v153 w50 ho hb hg hat; rw [← Ny152.out] at ho; have n0_ := Aside0.mk (blk_grown (g := gb148) (o := .cells #[.int .i64 x149000_1, .int .i64 x149001_1, .int .i64 x149002_1] 41 (0, 0)) (by (with_reducible repeat (first | refine blk_drewN ?_ _ | refine blk_drew ?_ | refine blk_alloc ?_ _)); exact BK148.out) hg (Kd.R_ne HO_12.out BK148.out (by decide))); have n1_ := Aside0.mk (hb); have n2_ := Aside0.mk (ho); clear BK148; clear HB; clear HO_12; have BK148 := n0_; have HB := n1_; have HO154 := n2_; clear n0_ n1_ n2_; clear ho hb hg hat; have hcz51_0 : w50.cell? ⟨gb148, 0, none⟩ = some (.int .i64 x149000_1) := (blk_cell BK148.out 0).trans rfl; have hcz51_1 : w50.cell? ⟨gb148, 1, none⟩ = some (.int .i64 x149001_1) := (blk_cell BK148.out 1).trans rfl; have hcz51_2 : w50.cell? ⟨gb148, 2, none⟩ = some (.int .i64 x149002_1) := (blk_cell BK148.out 2).trans rfl; have hfz51_0 := blk_frozen BK148.out 0; have hfz51_1 := blk_frozen BK148.out 1; have hfz51_2 := blk_frozen BK148.out 2) | ((with_reducible refine gate_callee (f := 27) rfl ?_); refine goesL_ (some 56) rfl rfl Try.func27 (by kernel_rfl) rfl #[.agg #[.int .i64 x149000_1, .int .i64 x149001_1, .int .i64 x149002_1], .int .i64 x15_1, .int .i64 t145, .int .i64 t146, .int .i64 t147, .bool (x17_16 == 1)] rfl (by (try simp only [List.map_toArray, List.map_cons, List.map_nil]); first | done | rfl | (simp only [List.length_drop, List.length_take]; rfl)) ?_; (with_reducible refine (life_Life_Next.calls kj16 x149000_1 x149001_1 x149002_1 x15_1 t145 t146 t147 (x17_16 == 1) t155 t156 t157 _ A21.out).mono ?_); rintro e w52 ⟨rfl, hb⟩; refine ⟨_, rfl, ?_⟩; have n0_ := Aside0.mk (Kd.R_below (by (with_reducible repeat (first | apply Kd.R_alloc | apply Kd.R_drewN | apply Kd.R_drew)); exact HO154.out) hb); have n1_ := Aside0.mk (blk_below (g := gb148) (o := .cells #[.int .i64 x149000_1, .int .i64 x149001_1, .int .i64 x149002_1] 41 (0, 0)) (by (with_reducible repeat (first | refine blk_drewN ?_ _ | refine blk_drew ?_ | refine blk_alloc ?_ _)); exact BK148.out) hb); have n2_ := Aside0.mk (below_step (by repeat (first | (with_reducible first | exact HB.out | apply below_alloc | apply pw_below_drewN | apply below_drew1 | refine below_set ?_ GE148.out) | exact HB.out)) hb); clear HO154; clear BK148; clear HB; have HO154 := n0_; have BK148 := n1_; have HB := n2_; clear n0_ n1_ n2_; (try clear hb); (try clear hb2); (try clear hk); (try clear hi); have hcz53_0 : w52.cell? ⟨gb148, 0, none⟩ = some (.int .i64 x149000_1) := (blk_cell BK148.out 0).trans rfl; have hcz53_1 : w52.cell? ⟨gb148, 1, none⟩ = some (.int .i64 x149001_1) := (blk_cell BK148.out 1).trans rfl; have hcz53_2 : w52.cell? ⟨gb148, 2, none⟩ = some (.int .i64 x149002_1) := (blk_cell BK148.out 2).trans rfl; have hfz53_0 := blk_frozen BK148.out 0; have hfz53_1 := blk_frozen BK148.out 1; have hfz53_2 := blk_frozen BK148.out 2; obtain ⟨Ao54, co54, eo54⟩ := Kd.R_slice HO154.out; subst eo54) | ((with_reducible refine gate_callee (f := 28) rfl ?_); refine goesL_ (some 65) rfl rfl Try.func28 (by kernel_rfl) rfl #[.slice Ao54 y152.length co54, .int .i64 t145, .int .i64 t146, .int .i64 t147, .int .i64 x15_1] rfl (by (try simp only [List.map_toArray, List.map_cons, List.map_nil]); first | done | rfl | (simp only [List.length_drop, List.length_take]; rfl)) ?_; (with_reducible refine (klaxonref11_State.calls kj16 _ _ y152 t145 t146 t147 x15_1 t158 _ ?side1 ?side2 A22.out).mono ?_); (case side1 => refine (Kd.R_reads' (e := 3) (base := w.heap.size) (ok := fun k_ => True) (n := y152.length) (c := co54) ?_).2.2; exact (by (with_reducible repeat (first | apply Kd.R_alloc | apply Kd.R_drewN | apply Kd.R_drew)); exact (Kd.R_mono (Kd.R_far (p := ⟨gb148, 2, none⟩) (Kd.R_far (p := ⟨gb148, 1, none⟩) (Kd.R_far (p := ⟨gb148, 0, none⟩) (Kd.R_types HO154.out BK148.out (by decide)) (fun _ hk => hk.2) (.int .i64 t155)) (fun _ hk => hk.2) (.int .i64 t156)) (fun _ hk => hk.2) (.int .i64 t157)) (fun _ h_ => h_.1)))); (case side2 => exact (Kd.R_reads' HO154.out).2.1); rintro e w' ⟨rfl, ⟨nd, rfl⟩⟩; refine ⟨_, rfl, ?_⟩))
                                    go_ret
                                    exact ⟨by first | rfl | (simp [errW_none, errW_some] <;> rfl) | (simp [*, errW_none, errW_some] <;> rfl), by repeat (first | (with_reducible first | exact HB.out | apply below_alloc | apply pw_below_drewN | apply below_drew1 | refine below_set ?_ GE148.out) | exact HB.out)⟩
                                  · rw [if_neg c49] at H
                                    have c49b0 : (t155 == 1) = false := beq_eq_false_iff_ne.mpr c49
                                    have c49b1 : (t155 != 1) = true := bne_iff_ne.mpr c49
                                    have H' := Aside0.mk H
                                    clear H
                                    go_wp2_with (first | ((with_reducible refine gate_builtin (b := .append) (xs := #[.tmp 43, .tmp 45]) rfl ?_); at_builtin; refine Kd.R_append (Kd.int .i64) (w0 := w) w.heap.size rfl (.tmp 43) (.tmp 45) 39 3 (.int .i64 0) 8 rfl Try.underlying39 info3 rfl (by decide) (by omega) u12 x12_1 x17_16 [.int .i64 x17_16] (fun _ => True) (fun _ => False) rfl rfl ?aP (fun _ hk => hk.elim) ?aF ?aO ?aB ?aS ?aL ?_; (case aP => exact rfl); (case aB => exact (by repeat (first | (with_reducible first | exact HB.out | apply below_alloc | apply pw_below_drewN | apply below_drew1 | refine below_set ?_ GE148.out) | exact HB.out))); (case aF => exact (fun _ _ => trivial)); (case aO => exact (by (with_reducible repeat (first | apply Kd.R_alloc | apply Kd.R_drewN | apply Kd.R_drew)); exact HO_12.out)); (case aS => exact (below_size (by repeat (first | (with_reducible first | exact HB.out | apply below_alloc | apply pw_below_drewN | apply below_drew1 | refine below_set ?_ GE148.out) | exact HB.out)))); (case aL => have := LMc19.out; omega); intro v153 w55 ho hb hg hat; rw [← Ny152.out] at ho; have n0_ := Aside0.mk (blk_grown (g := gb148) (o := .cells #[.int .i64 x149000_1, .int .i64 x149001_1, .int .i64 x149002_1] 41 (0, 0)) (by (with_reducible repeat (first | refine blk_drewN ?_ _ | refine blk_drew ?_ | refine blk_alloc ?_ _)); exact BK148.out) hg (Kd.R_ne HO_12.out BK148.out (by decide))); have n1_ := Aside0.mk (hb); have n2_ := Aside0.mk (ho); clear BK148; clear HB; clear HO_12; have BK148 := n0_; have HB := n1_; have HO154 := n2_; clear n0_ n1_ n2_; clear ho hb hg hat; have hcz56_0 : w55.cell? ⟨gb148, 0, none⟩ = some (.int .i64 x149000_1) := (blk_cell BK148.out 0).trans rfl; have hcz56_1 : w55.cell? ⟨gb148, 1, none⟩ = some (.int .i64 x149001_1) := (blk_cell BK148.out 1).trans rfl; have hcz56_2 : w55.cell? ⟨gb148, 2, none⟩ = some (.int .i64 x149002_1) := (blk_cell BK148.out 2).trans rfl; have hfz56_0 := blk_frozen BK148.out 0; have hfz56_1 := blk_frozen BK148.out 1; have hfz56_2 := blk_frozen BK148.out 2) | ((with_reducible refine gate_callee (f := 27) rfl ?_); refine goesL_ (some 56) rfl rfl Try.func27 (by kernel_rfl) rfl #[.agg #[.int .i64 x149000_1, .int .i64 x149001_1, .int .i64 x149002_1], .int .i64 x15_1, .int .i64 t145, .int .i64 t146, .int .i64 t147, .bool (x17_16 == 1)] rfl (by (try simp only [List.map_toArray, List.map_cons, List.map_nil]); first | done | rfl | (simp only [List.length_drop, List.length_take]; rfl)) ?_; (with_reducible refine (life_Life_Next.calls kj16 x149000_1 x149001_1 x149002_1 x15_1 t145 t146 t147 (x17_16 == 1) t155 t156 t157 _ A21.out).mono ?_); rintro e w57 ⟨rfl, hb⟩; refine ⟨_, rfl, ?_⟩; have n0_ := Aside0.mk (Kd.R_below (by (with_reducible repeat (first | apply Kd.R_alloc | apply Kd.R_drewN | apply Kd.R_drew)); exact HO154.out) hb); have n1_ := Aside0.mk (blk_below (g := gb148) (o := .cells #[.int .i64 x149000_1, .int .i64 x149001_1, .int .i64 x149002_1] 41 (0, 0)) (by (with_reducible repeat (first | refine blk_drewN ?_ _ | refine blk_drew ?_ | refine blk_alloc ?_ _)); exact BK148.out) hb); have n2_ := Aside0.mk (below_step (by repeat (first | (with_reducible first | exact HB.out | apply below_alloc | apply pw_below_drewN | apply below_drew1 | refine below_set ?_ GE148.out) | exact HB.out)) hb); clear HO154; clear BK148; clear HB; have HO154 := n0_; have BK148 := n1_; have HB := n2_; clear n0_ n1_ n2_; (try clear hb); (try clear hb2); (try clear hk); (try clear hi); have hcz58_0 : w57.cell? ⟨gb148, 0, none⟩ = some (.int .i64 x149000_1) := (blk_cell BK148.out 0).trans rfl; have hcz58_1 : w57.cell? ⟨gb148, 1, none⟩ = some (.int .i64 x149001_1) := (blk_cell BK148.out 1).trans rfl; have hcz58_2 : w57.cell? ⟨gb148, 2, none⟩ = some (.int .i64 x149002_1) := (blk_cell BK148.out 2).trans rfl; have hfz58_0 := blk_frozen BK148.out 0; have hfz58_1 := blk_frozen BK148.out 1; have hfz58_2 := blk_frozen BK148.out 2; obtain ⟨Ao59, co59, eo59⟩ := Kd.R_slice HO154.out; subst eo59) | ((with_reducible refine gate_callee (f := 28) rfl ?_); refine goesL_ (some 65) rfl rfl Try.func28 (by kernel_rfl) rfl #[.slice Ao59 y152.length co59, .int .i64 t145, .int .i64 t146, .int .i64 t147, .int .i64 x15_1] rfl (by (try simp only [List.map_toArray, List.map_cons, List.map_nil]); first | done | rfl | (simp only [List.length_drop, List.length_take]; rfl)) ?_; (with_reducible refine (klaxonref11_State.calls kj16 _ _ y152 t145 t146 t147 x15_1 t158 _ ?side1 ?side2 A22.out).mono ?_); (case side1 => refine (Kd.R_reads' (e := 3) (base := w.heap.size) (ok := fun k_ => True) (n := y152.length) (c := co59) ?_).2.2; exact (by (with_reducible repeat (first | apply Kd.R_alloc | apply Kd.R_drewN | apply Kd.R_drew)); exact (Kd.R_mono (Kd.R_far (p := ⟨gb148, 2, none⟩) (Kd.R_far (p := ⟨gb148, 1, none⟩) (Kd.R_far (p := ⟨gb148, 0, none⟩) (Kd.R_types HO154.out BK148.out (by decide)) (fun _ hk => hk.2) (.int .i64 t155)) (fun _ hk => hk.2) (.int .i64 t156)) (fun _ hk => hk.2) (.int .i64 t157)) (fun _ h_ => h_.1)))); (case side2 => exact (Kd.R_reads' HO154.out).2.1); rintro e w' ⟨rfl, ⟨nd, rfl⟩⟩; refine ⟨_, rfl, ?_⟩))
                                    go_roundg kj16
                                    case measure => have := HK1.out; have := HJ8.out; have := HJ14.out; have := HJ16.out; omega
                                    case rel => exact ⟨(y152), (t155), (wrap64 (x15_1 + 1)), (t155), (t156), (t157), (by first | rfl | (simp; done) | (simp [*]; done)), (by first | rfl | (simp; done) | (simp [*]; done)), H', ⟨by have := HK1.out; have := HJ8.out; have := HJ14.out; have := HJ16.out; omega⟩, ⟨by (with_reducible repeat (first | apply Kd.R_alloc | apply Kd.R_drewN | apply Kd.R_drew)); exact Kd.R_mono (Kd.R_far (p := ⟨gb148, 2, none⟩) (Kd.R_far (p := ⟨gb148, 1, none⟩) (Kd.R_far (p := ⟨gb148, 0, none⟩) (Kd.R_types HO154.out BK148.out (by decide)) (fun _ hk => hk.2) (.int .i64 t155)) (fun _ hk => hk.2) (.int .i64 t156)) (fun _ hk => hk.2) (.int .i64 t157)) (fun _ hk => trivial)⟩, ⟨by (with_reducible repeat (first | refine blk_drewN ?_ _ | refine blk_drew ?_ | refine blk_alloc ?_ _)); refine blk_put (cs := #[.int .i64 t155, .int .i64 t156, .int .i64 x149002_1]) ?_ 2 _ rfl; (with_reducible repeat (first | refine blk_drewN ?_ _ | refine blk_drew ?_ | refine blk_alloc ?_ _)); refine blk_put (cs := #[.int .i64 t155, .int .i64 x149001_1, .int .i64 x149002_1]) ?_ 1 _ rfl; (with_reducible repeat (first | refine blk_drewN ?_ _ | refine blk_drew ?_ | refine blk_alloc ?_ _)); refine blk_put (cs := #[.int .i64 x149000_1, .int .i64 x149001_1, .int .i64 x149002_1]) ?_ 0 _ rfl; (with_reducible repeat (first | refine blk_drewN ?_ _ | refine blk_drew ?_ | refine blk_alloc ?_ _)); exact BK148.out⟩, ⟨by repeat (first | (with_reducible first | exact HB.out | apply below_alloc | apply pw_below_drewN | apply below_drew1 | refine below_set ?_ GE148.out) | exact HB.out)⟩⟩
                                · rw [if_neg c48] at H
                                  have c48b0 : (t146 == 0) = false := beq_eq_false_iff_ne.mpr c48
                                  have c48b1 : (t146 != 0) = true := bne_iff_ne.mpr c48
                                  have H' := Aside0.mk H
                                  clear H
                                  go_wp2_with (first | ((with_reducible refine gate_builtin (b := .append) (xs := #[.tmp 43, .tmp 45]) rfl ?_); at_builtin; refine Kd.R_append (Kd.int .i64) (w0 := w) w.heap.size rfl (.tmp 43) (.tmp 45) 39 3 (.int .i64 0) 8 rfl Try.underlying39 info3 rfl (by decide) (by omega) u12 x12_1 x17_16 [.int .i64 x17_16] (fun _ => True) (fun _ => False) rfl rfl ?aP (fun _ hk => hk.elim) ?aF ?aO ?aB ?aS ?aL ?_; (case aP => exact rfl); (case aB => exact (by repeat (first | (with_reducible first | exact HB.out | apply below_alloc | apply pw_below_drewN | apply below_drew1 | refine below_set ?_ GE148.out) | exact HB.out))); (case aF => exact (fun _ _ => trivial)); (case aO => exact (by (with_reducible repeat (first | apply Kd.R_alloc | apply Kd.R_drewN | apply Kd.R_drew)); exact HO_12.out)); (case aS => exact (below_size (by repeat (first | (with_reducible first | exact HB.out | apply below_alloc | apply pw_below_drewN | apply below_drew1 | refine below_set ?_ GE148.out) | exact HB.out)))); (case aL => have := LMc19.out; omega); intro v153 w60 ho hb hg hat; rw [← Ny152.out] at ho; have n0_ := Aside0.mk (blk_grown (g := gb148) (o := .cells #[.int .i64 x149000_1, .int .i64 x149001_1, .int .i64 x149002_1] 41 (0, 0)) (by (with_reducible repeat (first | refine blk_drewN ?_ _ | refine blk_drew ?_ | refine blk_alloc ?_ _)); exact BK148.out) hg (Kd.R_ne HO_12.out BK148.out (by decide))); have n1_ := Aside0.mk (hb); have n2_ := Aside0.mk (ho); clear BK148; clear HB; clear HO_12; have BK148 := n0_; have HB := n1_; have HO154 := n2_; clear n0_ n1_ n2_; clear ho hb hg hat; have hcz61_0 : w60.cell? ⟨gb148, 0, none⟩ = some (.int .i64 x149000_1) := (blk_cell BK148.out 0).trans rfl; have hcz61_1 : w60.cell? ⟨gb148, 1, none⟩ = some (.int .i64 x149001_1) := (blk_cell BK148.out 1).trans rfl; have hcz61_2 : w60.cell? ⟨gb148, 2, none⟩ = some (.int .i64 x149002_1) := (blk_cell BK148.out 2).trans rfl; have hfz61_0 := blk_frozen BK148.out 0; have hfz61_1 := blk_frozen BK148.out 1; have hfz61_2 := blk_frozen BK148.out 2) | ((with_reducible refine gate_callee (f := 27) rfl ?_); refine goesL_ (some 56) rfl rfl Try.func27 (by kernel_rfl) rfl #[.agg #[.int .i64 x149000_1, .int .i64 x149001_1, .int .i64 x149002_1], .int .i64 x15_1, .int .i64 t145, .int .i64 t146, .int .i64 t147, .bool (x17_16 == 1)] rfl (by (try simp only [List.map_toArray, List.map_cons, List.map_nil]); first | done | rfl | (simp only [List.length_drop, List.length_take]; rfl)) ?_; (with_reducible refine (life_Life_Next.calls kj16 x149000_1 x149001_1 x149002_1 x15_1 t145 t146 t147 (x17_16 == 1) t155 t156 t157 _ A21.out).mono ?_); rintro e w62 ⟨rfl, hb⟩; refine ⟨_, rfl, ?_⟩; have n0_ := Aside0.mk (Kd.R_below (by (with_reducible repeat (first | apply Kd.R_alloc | apply Kd.R_drewN | apply Kd.R_drew)); exact HO154.out) hb); have n1_ := Aside0.mk (blk_below (g := gb148) (o := .cells #[.int .i64 x149000_1, .int .i64 x149001_1, .int .i64 x149002_1] 41 (0, 0)) (by (with_reducible repeat (first | refine blk_drewN ?_ _ | refine blk_drew ?_ | refine blk_alloc ?_ _)); exact BK148.out) hb); have n2_ := Aside0.mk (below_step (by repeat (first | (with_reducible first | exact HB.out | apply below_alloc | apply pw_below_drewN | apply below_drew1 | refine below_set ?_ GE148.out) | exact HB.out)) hb); clear HO154; clear BK148; clear HB; have HO154 := n0_; have BK148 := n1_; have HB := n2_; clear n0_ n1_ n2_; (try clear hb); (try clear hb2); (try clear hk); (try clear hi); have hcz63_0 : w62.cell? ⟨gb148, 0, none⟩ = some (.int .i64 x149000_1) := (blk_cell BK148.out 0).trans rfl; have hcz63_1 : w62.cell? ⟨gb148, 1, none⟩ = some (.int .i64 x149001_1) := (blk_cell BK148.out 1).trans rfl; have hcz63_2 : w62.cell? ⟨gb148, 2, none⟩ = some (.int .i64 x149002_1) := (blk_cell BK148.out 2).trans rfl; have hfz63_0 := blk_frozen BK148.out 0; have hfz63_1 := blk_frozen BK148.out 1; have hfz63_2 := blk_frozen BK148.out 2; obtain ⟨Ao64, co64, eo64⟩ := Kd.R_slice HO154.out; subst eo64) | ((with_reducible refine gate_callee (f := 28) rfl ?_); refine goesL_ (some 65) rfl rfl Try.func28 (by kernel_rfl) rfl #[.slice Ao64 y152.length co64, .int .i64 t145, .int .i64 t146, .int .i64 t147, .int .i64 x15_1] rfl (by (try simp only [List.map_toArray, List.map_cons, List.map_nil]); first | done | rfl | (simp only [List.length_drop, List.length_take]; rfl)) ?_; (with_reducible refine (klaxonref11_State.calls kj16 _ _ y152 t145 t146 t147 x15_1 t158 _ ?side1 ?side2 A22.out).mono ?_); (case side1 => refine (Kd.R_reads' (e := 3) (base := w.heap.size) (ok := fun k_ => True) (n := y152.length) (c := co64) ?_).2.2; exact (by (with_reducible repeat (first | apply Kd.R_alloc | apply Kd.R_drewN | apply Kd.R_drew)); exact (Kd.R_mono (Kd.R_far (p := ⟨gb148, 2, none⟩) (Kd.R_far (p := ⟨gb148, 1, none⟩) (Kd.R_far (p := ⟨gb148, 0, none⟩) (Kd.R_types HO154.out BK148.out (by decide)) (fun _ hk => hk.2) (.int .i64 t155)) (fun _ hk => hk.2) (.int .i64 t156)) (fun _ hk => hk.2) (.int .i64 t157)) (fun _ h_ => h_.1)))); (case side2 => exact (Kd.R_reads' HO154.out).2.1); rintro e w' ⟨rfl, ⟨nd, rfl⟩⟩; refine ⟨_, rfl, ?_⟩))
                                  go_roundg kj16
                                  case measure => have := HK1.out; have := HJ8.out; have := HJ14.out; have := HJ16.out; omega
                                  case rel => exact ⟨(y152), (t155), (wrap64 (x15_1 + 1)), (t155), (t156), (t157), (by first | rfl | (simp; done) | (simp [*]; done)), (by first | rfl | (simp; done) | (simp [*]; done)), H', ⟨by have := HK1.out; have := HJ8.out; have := HJ14.out; have := HJ16.out; omega⟩, ⟨by (with_reducible repeat (first | apply Kd.R_alloc | apply Kd.R_drewN | apply Kd.R_drew)); exact Kd.R_mono (Kd.R_far (p := ⟨gb148, 2, none⟩) (Kd.R_far (p := ⟨gb148, 1, none⟩) (Kd.R_far (p := ⟨gb148, 0, none⟩) (Kd.R_types HO154.out BK148.out (by decide)) (fun _ hk => hk.2) (.int .i64 t155)) (fun _ hk => hk.2) (.int .i64 t156)) (fun _ hk => hk.2) (.int .i64 t157)) (fun _ hk => trivial)⟩, ⟨by (with_reducible repeat (first | refine blk_drewN ?_ _ | refine blk_drew ?_ | refine blk_alloc ?_ _)); refine blk_put (cs := #[.int .i64 t155, .int .i64 t156, .int .i64 x149002_1]) ?_ 2 _ rfl; (with_reducible repeat (first | refine blk_drewN ?_ _ | refine blk_drew ?_ | refine blk_alloc ?_ _)); refine blk_put (cs := #[.int .i64 t155, .int .i64 x149001_1, .int .i64 x149002_1]) ?_ 1 _ rfl; (with_reducible repeat (first | refine blk_drewN ?_ _ | refine blk_drew ?_ | refine blk_alloc ?_ _)); refine blk_put (cs := #[.int .i64 x149000_1, .int .i64 x149001_1, .int .i64 x149002_1]) ?_ 0 _ rfl; (with_reducible repeat (first | refine blk_drewN ?_ _ | refine blk_drew ?_ | refine blk_alloc ?_ _)); exact BK148.out⟩, ⟨by repeat (first | (with_reducible first | exact HB.out | apply below_alloc | apply pw_below_drewN | apply below_drew1 | refine below_set ?_ GE148.out) | exact HB.out)⟩⟩
                            · rw [if_neg c23] at H
                              have c23b0 : (t155 == t158) = false := beq_eq_false_iff_ne.mpr c23
                              have c23b1 : (t155 != t158) = true := bne_iff_ne.mpr c23
                              obtain rfl := Option.some.inj H
                              go_wp2_with (first | ((with_reducible refine gate_builtin (b := .append) (xs := #[.tmp 43, .tmp 45]) rfl ?_); at_builtin; refine Kd.R_append (Kd.int .i64) (w0 := w) w.heap.size rfl (.tmp 43) (.tmp 45) 39 3 (.int .i64 0) 8 rfl Try.underlying39 info3 rfl (by decide) (by omega) u12 x12_1 x17_16 [.int .i64 x17_16] (fun _ => True) (fun _ => False) rfl rfl ?aP (fun _ hk => hk.elim) ?aF ?aO ?aB ?aS ?aL ?_; (case aP => exact rfl); (case aB => exact (by repeat (first | (with_reducible first | exact HB.out | apply below_alloc | apply pw_below_drewN | apply below_drew1 | refine below_set ?_ GE148.out) | exact HB.out))); (case aF => exact (fun _ _ => trivial)); (case aO => exact (by (with_reducible repeat (first | apply Kd.R_alloc | apply Kd.R_drewN | apply Kd.R_drew)); exact HO_12.out)); (case aS => exact (below_size (by repeat (first | (with_reducible first | exact HB.out | apply below_alloc | apply pw_below_drewN | apply below_drew1 | refine below_set ?_ GE148.out) | exact HB.out)))); (case aL => have := LMc19.out; omega); intro v153 w65 ho hb hg hat; rw [← Ny152.out] at ho; have n0_ := Aside0.mk (blk_grown (g := gb148) (o := .cells #[.int .i64 x149000_1, .int .i64 x149001_1, .int .i64 x149002_1] 41 (0, 0)) (by (with_reducible repeat (first | refine blk_drewN ?_ _ | refine blk_drew ?_ | refine blk_alloc ?_ _)); exact BK148.out) hg (Kd.R_ne HO_12.out BK148.out (by decide))); have n1_ := Aside0.mk (hb); have n2_ := Aside0.mk (ho); clear BK148; clear HB; clear HO_12; have BK148 := n0_; have HB := n1_; have HO154 := n2_; clear n0_ n1_ n2_; clear ho hb hg hat; have hcz66_0 : w65.cell? ⟨gb148, 0, none⟩ = some (.int .i64 x149000_1) := (blk_cell BK148.out 0).trans rfl; have hcz66_1 : w65.cell? ⟨gb148, 1, none⟩ = some (.int .i64 x149001_1) := (blk_cell BK148.out 1).trans rfl; have hcz66_2 : w65.cell? ⟨gb148, 2, none⟩ = some (.int .i64 x149002_1) := (blk_cell BK148.out 2).trans rfl; have hfz66_0 := blk_frozen BK148.out 0; have hfz66_1 := blk_frozen BK148.out 1; have hfz66_2 := blk_frozen BK148.out 2) | ((with_reducible refine gate_callee (f := 27) rfl ?_); refine goesL_ (some 56) rfl rfl Try.func27 (by kernel_rfl) rfl #[.agg #[.int .i64 x149000_1, .int .i64 x149001_1, .int .i64 x149002_1], .int .i64 x15_1, .int .i64 t145, .int .i64 t146, .int .i64 t147, .bool (x17_16 == 1)] rfl (by (try simp only [List.map_toArray, List.map_cons, List.map_nil]); first | done | rfl | (simp only [List.length_drop, List.length_take]; rfl)) ?_; (with_reducible refine (life_Life_Next.calls kj16 x149000_1 x149001_1 x149002_1 x15_1 t145 t146 t147 (x17_16 == 1) t155 t156 t157 _ A21.out).mono ?_); rintro e w67 ⟨rfl, hb⟩; refine ⟨_, rfl, ?_⟩; have n0_ := Aside0.mk (Kd.R_below (by (with_reducible repeat (first | apply Kd.R_alloc | apply Kd.R_drewN | apply Kd.R_drew)); exact HO154.out) hb); have n1_ := Aside0.mk (blk_below (g := gb148) (o := .cells #[.int .i64 x149000_1, .int .i64 x149001_1, .int .i64 x149002_1] 41 (0, 0)) (by (with_reducible repeat (first | refine blk_drewN ?_ _ | refine blk_drew ?_ | refine blk_alloc ?_ _)); exact BK148.out) hb); have n2_ := Aside0.mk (below_step (by repeat (first | (with_reducible first | exact HB.out | apply below_alloc | apply pw_below_drewN | apply below_drew1 | refine below_set ?_ GE148.out) | exact HB.out)) hb); clear HO154; clear BK148; clear HB; have HO154 := n0_; have BK148 := n1_; have HB := n2_; clear n0_ n1_ n2_; (try clear hb); (try clear hb2); (try clear hk); (try clear hi); have hcz68_0 : w67.cell? ⟨gb148, 0, none⟩ = some (.int .i64 x149000_1) := (blk_cell BK148.out 0).trans rfl; have hcz68_1 : w67.cell? ⟨gb148, 1, none⟩ = some (.int .i64 x149001_1) := (blk_cell BK148.out 1).trans rfl; have hcz68_2 : w67.cell? ⟨gb148, 2, none⟩ = some (.int .i64 x149002_1) := (blk_cell BK148.out 2).trans rfl; have hfz68_0 := blk_frozen BK148.out 0; have hfz68_1 := blk_frozen BK148.out 1; have hfz68_2 := blk_frozen BK148.out 2; obtain ⟨Ao69, co69, eo69⟩ := Kd.R_slice HO154.out; subst eo69) | ((with_reducible refine gate_callee (f := 28) rfl ?_); refine goesL_ (some 65) rfl rfl Try.func28 (by kernel_rfl) rfl #[.slice Ao69 y152.length co69, .int .i64 t145, .int .i64 t146, .int .i64 t147, .int .i64 x15_1] rfl (by (try simp only [List.map_toArray, List.map_cons, List.map_nil]); first | done | rfl | (simp only [List.length_drop, List.length_take]; rfl)) ?_; (with_reducible refine (klaxonref11_State.calls kj16 _ _ y152 t145 t146 t147 x15_1 t158 _ ?side1 ?side2 A22.out).mono ?_); (case side1 => refine (Kd.R_reads' (e := 3) (base := w.heap.size) (ok := fun k_ => True) (n := y152.length) (c := co69) ?_).2.2; exact (by (with_reducible repeat (first | apply Kd.R_alloc | apply Kd.R_drewN | apply Kd.R_drew)); exact (Kd.R_mono (Kd.R_far (p := ⟨gb148, 2, none⟩) (Kd.R_far (p := ⟨gb148, 1, none⟩) (Kd.R_far (p := ⟨gb148, 0, none⟩) (Kd.R_types HO154.out BK148.out (by decide)) (fun _ hk => hk.2) (.int .i64 t155)) (fun _ hk => hk.2) (.int .i64 t156)) (fun _ hk => hk.2) (.int .i64 t157)) (fun _ h_ => h_.1)))); (case side2 => exact (Kd.R_reads' HO154.out).2.1); rintro e w' ⟨rfl, ⟨nd, rfl⟩⟩; refine ⟨_, rfl, ?_⟩))
                              go_ret
                              exact ⟨by first | rfl | (simp [errW_none, errW_some] <;> rfl) | (simp [*, errW_none, errW_some] <;> rfl), by repeat (first | (with_reducible first | exact HB.out | apply below_alloc | apply pw_below_drewN | apply below_drew1 | refine below_set ?_ GE148.out) | exact HB.out)⟩
                          · rw [if_neg c20] at H
                            have c20b0 : decide (x17_16 < 2) = false := decide_eq_false c20
                            clear c20
                            replace H := Option.bind_eq_some_iff.mp H
                            obtain ⟨t159, A700, H⟩ := H
                            replace H : (if x14_1 = t159 then (if x149000_1 = 0 then (if (!(x149000_1 == 0) || (!(x149001_1 == 0) || (!(x149002_1 == 0)))) = true then (some false) else (if t146 = 0 then (if x14_1 = 1 then (some false) else (klaxonlaw12_LifeTells.l0 kj16 l0 t145 t146 t147 y152 x14_1 (wrap64 (x15_1 + 1)) x149000_1 x149001_1 x149002_1)) else (klaxonlaw12_LifeTells.l0 kj16 l0 t145 t146 t147 y152 x14_1 (wrap64 (x15_1 + 1)) x149000_1 x149001_1 x149002_1))) else (if t146 = 0 then (if x14_1 = 1 then (some false) else (klaxonlaw12_LifeTells.l0 kj16 l0 t145 t146 t147 y152 x14_1 (wrap64 (x15_1 + 1)) x149000_1 x149001_1 x149002_1)) else (klaxonlaw12_LifeTells.l0 kj16 l0 t145 t146 t147 y152 x14_1 (wrap64 (x15_1 + 1)) x149000_1 x149001_1 x149002_1))) else (some false)) = some r := H
                            have A70 := Aside0.mk A700
                            clear A700
                            by_cases c71 : x14_1 = t159
                            · rw [if_pos c71] at H
                              have c71b0 : (x14_1 == t159) = true := beq_iff_eq.mpr c71
                              have c71b1 : (x14_1 != t159) = false := bne_eq_false_iff_eq.mpr c71
                              clear c71
                              by_cases c72 : x149000_1 = 0
                              · rw [if_pos c72] at H
                                have c72b0 : (x149000_1 == 0) = true := beq_iff_eq.mpr c72
                                have c72b1 : (x149000_1 != 0) = false := bne_eq_false_iff_eq.mpr c72
                                clear c72
                                by_cases c73 : (!(x149000_1 == 0) || (!(x149001_1 == 0) || (!(x149002_1 == 0)))) = true
                                · rw [if_pos c73] at H
                                  have c73x : ¬ (x149001_1 = 0 ∧ x149002_1 = 0) := by
                                    rintro ⟨z2, z3⟩
                                    rw [c72b0, z2, z3] at c73; simp at c73
                                  have c73b0 : (!(x149000_1 == 0) || (!(x149001_1 == 0) || (!(x149002_1 == 0)))) = true := c73
                                  clear c73
                                  obtain rfl := Option.some.inj H
                                  go_wp2_with (first | ((with_reducible refine gate_builtin (b := .append) (xs := #[.tmp 43, .tmp 45]) rfl ?_); at_builtin; refine Kd.R_append (Kd.int .i64) (w0 := w) w.heap.size rfl (.tmp 43) (.tmp 45) 39 3 (.int .i64 0) 8 rfl Try.underlying39 info3 rfl (by decide) (by omega) u12 x12_1 x17_16 [.int .i64 x17_16] (fun _ => True) (fun _ => False) rfl rfl ?aP (fun _ hk => hk.elim) ?aF ?aO ?aB ?aS ?aL ?_; (case aP => exact rfl); (case aB => exact (by repeat (first | (with_reducible first | exact HB.out | apply below_alloc | apply pw_below_drewN | apply below_drew1 | refine below_set ?_ GE148.out) | exact HB.out))); (case aF => exact (fun _ _ => trivial)); (case aO => exact (by (with_reducible repeat (first | apply Kd.R_alloc | apply Kd.R_drewN | apply Kd.R_drew)); exact HO_12.out)); (case aS => exact (below_size (by repeat (first | (with_reducible first | exact HB.out | apply below_alloc | apply pw_below_drewN | apply below_drew1 | refine below_set ?_ GE148.out) | exact HB.out)))); (case aL => have := LMc19.out; omega); intro v153 w74 ho hb hg hat; rw [← Ny152.out] at ho; have n0_ := Aside0.mk (blk_grown (g := gb148) (o := .cells #[.int .i64 x149000_1, .int .i64 x149001_1, .int .i64 x149002_1] 41 (0, 0)) (by (with_reducible repeat (first | refine blk_drewN ?_ _ | refine blk_drew ?_ | refine blk_alloc ?_ _)); exact BK148.out) hg (Kd.R_ne HO_12.out BK148.out (by decide))); have n1_ := Aside0.mk (hb); have n2_ := Aside0.mk (ho); clear BK148; clear HB; clear HO_12; have BK148 := n0_; have HB := n1_; have HO154 := n2_; clear n0_ n1_ n2_; clear ho hb hg hat; obtain ⟨Ao75, co75, eo75⟩ := Kd.R_slice HO154.out; subst eo75) | ((with_reducible refine gate_callee (f := 28) rfl ?_); refine goesL_ (some 65) rfl rfl Try.func28 (by kernel_rfl) rfl #[.slice Ao75 y152.length co75, .int .i64 t145, .int .i64 t146, .int .i64 t147, .int .i64 x15_1] rfl (by (try simp only [List.map_toArray, List.map_cons, List.map_nil]); first | done | rfl | (simp only [List.length_drop, List.length_take]; rfl)) ?_; (with_reducible refine (klaxonref11_State.calls kj16 _ _ y152 t145 t146 t147 x15_1 t159 _ ?side1 ?side2 A70.out).mono ?_); (case side1 => repeat (first | exact (Kd.R_reads' HO154.out).2.2 | (with_reducible refine Kd.C_alloc ?_ _) | (with_reducible refine Kd.C_drewN ?_ _) | (with_reducible refine Kd.C_drew ?_))); (case side2 => exact (Kd.R_reads' HO154.out).2.1); rintro e w' ⟨rfl, ⟨nd, rfl⟩⟩; refine ⟨_, rfl, ?_⟩; have hcz76_0 : w74.cell? ⟨gb148, 0, none⟩ = some (.int .i64 x149000_1) := (blk_cell BK148.out 0).trans rfl; have hcz76_1 : w74.cell? ⟨gb148, 1, none⟩ = some (.int .i64 x149001_1) := (blk_cell BK148.out 1).trans rfl; have hcz76_2 : w74.cell? ⟨gb148, 2, none⟩ = some (.int .i64 x149002_1) := (blk_cell BK148.out 2).trans rfl; have hfz76_0 := blk_frozen BK148.out 0; have hfz76_1 := blk_frozen BK148.out 1; have hfz76_2 := blk_frozen BK148.out 2))
                                  go_ret
                                  exact ⟨by first | rfl | (simp [errW_none, errW_some] <;> rfl) | (simp [*, errW_none, errW_some] <;> rfl), by repeat (first | (with_reducible first | exact HB.out | apply below_alloc | apply pw_below_drewN | apply below_drew1 | refine below_set ?_ GE148.out) | exact HB.out)⟩
                                · rw [if_neg c73] at H
                                  obtain ⟨z1, z2, z3⟩ : x149000_1 = 0 ∧ x149001_1 = 0 ∧ x149002_1 = 0 := by simpa [and_assoc] using c73
                                  subst z1 z2 z3
                                  clear c72b0 c72b1
                                  clear c73
                                  by_cases c77 : t146 = 0
                                  · rw [if_pos c77] at H
                                    have c77b0 : (t146 == 0) = true := beq_iff_eq.mpr c77
                                    have c77b1 : (t146 != 0) = false := bne_eq_false_iff_eq.mpr c77
                                    clear c77
                                    by_cases c78 : x14_1 = 1
                                    · rw [if_pos c78] at H
                                      have c78b0 : (x14_1 == 1) = true := beq_iff_eq.mpr c78
                                      have c78b1 : (x14_1 != 1) = false := bne_eq_false_iff_eq.mpr c78
                                      clear c78
                                      obtain rfl := Option.some.inj H
                                      go_wp2_with (first | ((with_reducible refine gate_builtin (b := .append) (xs := #[.tmp 43, .tmp 45]) rfl ?_); at_builtin; refine Kd.R_append (Kd.int .i64) (w0 := w) w.heap.size rfl (.tmp 43) (.tmp 45) 39 3 (.int .i64 0) 8 rfl Try.underlying39 info3 rfl (by decide) (by omega) u12 x12_1 x17_16 [.int .i64 x17_16] (fun _ => True) (fun _ => False) rfl rfl ?aP (fun _ hk => hk.elim) ?aF ?aO ?aB ?aS ?aL ?_; (case aP => exact rfl); (case aB => exact (by repeat (first | (with_reducible first | exact HB.out | apply below_alloc | apply pw_below_drewN | apply below_drew1 | refine below_set ?_ GE148.out) | exact HB.out))); (case aF => exact (fun _ _ => trivial)); (case aO => exact (by (with_reducible repeat (first | apply Kd.R_alloc | apply Kd.R_drewN | apply Kd.R_drew)); exact HO_12.out)); (case aS => exact (below_size (by repeat (first | (with_reducible first | exact HB.out | apply below_alloc | apply pw_below_drewN | apply below_drew1 | refine below_set ?_ GE148.out) | exact HB.out)))); (case aL => have := LMc19.out; omega); intro v153 w79 ho hb hg hat; rw [← Ny152.out] at ho; have n0_ := Aside0.mk (blk_grown (g := gb148) (o := .cells #[.int .i64 0, .int .i64 0, .int .i64 0] 41 (0, 0)) (by (with_reducible repeat (first | refine blk_drewN ?_ _ | refine blk_drew ?_ | refine blk_alloc ?_ _)); exact BK148.out) hg (Kd.R_ne HO_12.out BK148.out (by decide))); have n1_ := Aside0.mk (hb); have n2_ := Aside0.mk (ho); clear BK148; clear HB; clear HO_12; have BK148 := n0_; have HB := n1_; have HO154 := n2_; clear n0_ n1_ n2_; clear ho hb hg hat; obtain ⟨Ao80, co80, eo80⟩ := Kd.R_slice HO154.out; subst eo80) | ((with_reducible refine gate_callee (f := 28) rfl ?_); refine goesL_ (some 65) rfl rfl Try.func28 (by kernel_rfl) rfl #[.slice Ao80 y152.length co80, .int .i64 t145, .int .i64 t146, .int .i64 t147, .int .i64 x15_1] rfl (by (try simp only [List.map_toArray, List.map_cons, List.map_nil]); first | done | rfl | (simp only [List.length_drop, List.length_take]; rfl)) ?_; (with_reducible refine (klaxonref11_State.calls kj16 _ _ y152 t145 t146 t147 x15_1 t159 _ ?side1 ?side2 A70.out).mono ?_); (case side1 => repeat (first | exact (Kd.R_reads' HO154.out).2.2 | (with_reducible refine Kd.C_alloc ?_ _) | (with_reducible refine Kd.C_drewN ?_ _) | (with_reducible refine Kd.C_drew ?_))); (case side2 => exact (Kd.R_reads' HO154.out).2.1); rintro e w' ⟨rfl, ⟨nd, rfl⟩⟩; refine ⟨_, rfl, ?_⟩; have hcz81_0 : w79.cell? ⟨gb148, 0, none⟩ = some (.int .i64 0) := (blk_cell BK148.out 0).trans rfl; have hcz81_1 : w79.cell? ⟨gb148, 1, none⟩ = some (.int .i64 0) := (blk_cell BK148.out 1).trans rfl; have hcz81_2 : w79.cell? ⟨gb148, 2, none⟩ = some (.int .i64 0) := (blk_cell BK148.out 2).trans rfl; have hfz81_0 := blk_frozen BK148.out 0; have hfz81_1 := blk_frozen BK148.out 1; have hfz81_2 := blk_frozen BK148.out 2))
                                      go_ret
                                      exact ⟨by first | rfl | (simp [errW_none, errW_some] <;> rfl) | (simp [*, errW_none, errW_some] <;> rfl), by repeat (first | (with_reducible first | exact HB.out | apply below_alloc | apply pw_below_drewN | apply below_drew1 | refine below_set ?_ GE148.out) | exact HB.out)⟩
                                    · rw [if_neg c78] at H
                                      have c78b0 : (x14_1 == 1) = false := beq_eq_false_iff_ne.mpr c78
                                      have c78b1 : (x14_1 != 1) = true := bne_iff_ne.mpr c78
                                      have H' := Aside0.mk H
                                      clear H
                                      go_wp2_with (first | ((with_reducible refine gate_builtin (b := .append) (xs := #[.tmp 43, .tmp 45]) rfl ?_); at_builtin; refine Kd.R_append (Kd.int .i64) (w0 := w) w.heap.size rfl (.tmp 43) (.tmp 45) 39 3 (.int .i64 0) 8 rfl Try.underlying39 info3 rfl (by decide) (by omega) u12 x12_1 x17_16 [.int .i64 x17_16] (fun _ => True) (fun _ => False) rfl rfl ?aP (fun _ hk => hk.elim) ?aF ?aO ?aB ?aS ?aL ?_; (case aP => exact rfl); (case aB => exact (by repeat (first | (with_reducible first | exact HB.out | apply below_alloc | apply pw_below_drewN | apply below_drew1 | refine below_set ?_ GE148.out) | exact HB.out))); (case aF => exact (fun _ _ => trivial)); (case aO => exact (by (with_reducible repeat (first | apply Kd.R_alloc | apply Kd.R_drewN | apply Kd.R_drew)); exact HO_12.out)); (case aS => exact (below_size (by repeat (first | (with_reducible first | exact HB.out | apply below_alloc | apply pw_below_drewN | apply below_drew1 | refine below_set ?_ GE148.out) | exact HB.out)))); (case aL => have := LMc19.out; omega); intro v153 w82 ho hb hg hat; rw [← Ny152.out] at ho; have n0_ := Aside0.mk (blk_grown (g := gb148) (o := .cells #[.int .i64 0, .int .i64 0, .int .i64 0] 41 (0, 0)) (by (with_reducible repeat (first | refine blk_drewN ?_ _ | refine blk_drew ?_ | refine blk_alloc ?_ _)); exact BK148.out) hg (Kd.R_ne HO_12.out BK148.out (by decide))); have n1_ := Aside0.mk (hb); have n2_ := Aside0.mk (ho); clear BK148; clear HB; clear HO_12; have BK148 := n0_; have HB := n1_; have HO154 := n2_; clear n0_ n1_ n2_; clear ho hb hg hat; obtain ⟨Ao83, co83, eo83⟩ := Kd.R_slice HO154.out; subst eo83) | ((with_reducible refine gate_callee (f := 28) rfl ?_); refine goesL_ (some 65) rfl rfl Try.func28 (by kernel_rfl) rfl #[.slice Ao83 y152.length co83, .int .i64 t145, .int .i64 t146, .int .i64 t147, .int .i64 x15_1] rfl (by (try simp only [List.map_toArray, List.map_cons, List.map_nil]); first | done | rfl | (simp only [List.length_drop, List.length_take]; rfl)) ?_; (with_reducible refine (klaxonref11_State.calls kj16 _ _ y152 t145 t146 t147 x15_1 t159 _ ?side1 ?side2 A70.out).mono ?_); (case side1 => repeat (first | exact (Kd.R_reads' HO154.out).2.2 | (with_reducible refine Kd.C_alloc ?_ _) | (with_reducible refine Kd.C_drewN ?_ _) | (with_reducible refine Kd.C_drew ?_))); (case side2 => exact (Kd.R_reads' HO154.out).2.1); rintro e w' ⟨rfl, ⟨nd, rfl⟩⟩; refine ⟨_, rfl, ?_⟩; have hcz84_0 : w82.cell? ⟨gb148, 0, none⟩ = some (.int .i64 0) := (blk_cell BK148.out 0).trans rfl; have hcz84_1 : w82.cell? ⟨gb148, 1, none⟩ = some (.int .i64 0) := (blk_cell BK148.out 1).trans rfl; have hcz84_2 : w82.cell? ⟨gb148, 2, none⟩ = some (.int .i64 0) := (blk_cell BK148.out 2).trans rfl; have hfz84_0 := blk_frozen BK148.out 0; have hfz84_1 := blk_frozen BK148.out 1; have hfz84_2 := blk_frozen BK148.out 2))
                                      go_roundg kj16
                                      case measure => have := HK1.out; have := HJ8.out; have := HJ14.out; have := HJ16.out; omega
                                      case rel => exact ⟨(y152), (x14_1), (wrap64 (x15_1 + 1)), (0), (0), (0), (by first | rfl | (simp; done) | (simp [*]; done)), (by first | rfl | (simp; done) | (simp [*]; done)), H', ⟨by have := HK1.out; have := HJ8.out; have := HJ14.out; have := HJ16.out; omega⟩, ⟨by (with_reducible repeat (first | apply Kd.R_alloc | apply Kd.R_drewN | apply Kd.R_drew)); exact HO154.out⟩, ⟨by (with_reducible repeat (first | refine blk_drewN ?_ _ | refine blk_drew ?_ | refine blk_alloc ?_ _)); exact BK148.out⟩, ⟨by repeat (first | (with_reducible first | exact HB.out | apply below_alloc | apply pw_below_drewN | apply below_drew1 | refine below_set ?_ GE148.out) | exact HB.out)⟩⟩
                                  · rw [if_neg c77] at H
                                    have c77b0 : (t146 == 0) = false := beq_eq_false_iff_ne.mpr c77
                                    have c77b1 : (t146 != 0) = true := bne_iff_ne.mpr c77
                                    have H' := Aside0.mk H
                                    clear H
                                    go_wp2_with (first | ((with_reducible refine gate_builtin (b := .append) (xs := #[.tmp 43, .tmp 45]) rfl ?_); at_builtin; refine Kd.R_append (Kd.int .i64) (w0 := w) w.heap.size rfl (.tmp 43) (.tmp 45) 39 3 (.int .i64 0) 8 rfl Try.underlying39 info3 rfl (by decide) (by omega) u12 x12_1 x17_16 [.int .i64 x17_16] (fun _ => True) (fun _ => False) rfl rfl ?aP (fun _ hk => hk.elim) ?aF ?aO ?aB ?aS ?aL ?_; (case aP => exact rfl); (case aB => exact (by repeat (first | (with_reducible first | exact HB.out | apply below_alloc | apply pw_below_drewN | apply below_drew1 | refine below_set ?_ GE148.out) | exact HB.out))); (case aF => exact (fun _ _ => trivial)); (case aO => exact (by (with_reducible repeat (first | apply Kd.R_alloc | apply Kd.R_drewN | apply Kd.R_drew)); exact HO_12.out)); (case aS => exact (below_size (by repeat (first | (with_reducible first | exact HB.out | apply below_alloc | apply pw_below_drewN | apply below_drew1 | refine below_set ?_ GE148.out) | exact HB.out)))); (case aL => have := LMc19.out; omega); intro v153 w85 ho hb hg hat; rw [← Ny152.out] at ho; have n0_ := Aside0.mk (blk_grown (g := gb148) (o := .cells #[.int .i64 0, .int .i64 0, .int .i64 0] 41 (0, 0)) (by (with_reducible repeat (first | refine blk_drewN ?_ _ | refine blk_drew ?_ | refine blk_alloc ?_ _)); exact BK148.out) hg (Kd.R_ne HO_12.out BK148.out (by decide))); have n1_ := Aside0.mk (hb); have n2_ := Aside0.mk (ho); clear BK148; clear HB; clear HO_12; have BK148 := n0_; have HB := n1_; have HO154 := n2_; clear n0_ n1_ n2_; clear ho hb hg hat; obtain ⟨Ao86, co86, eo86⟩ := Kd.R_slice HO154.out; subst eo86) | ((with_reducible refine gate_callee (f := 28) rfl ?_); refine goesL_ (some 65) rfl rfl Try.func28 (by kernel_rfl) rfl #[.slice Ao86 y152.length co86, .int .i64 t145, .int .i64 t146, .int .i64 t147, .int .i64 x15_1] rfl (by (try simp only [List.map_toArray, List.map_cons, List.map_nil]); first | done | rfl | (simp only [List.length_drop, List.length_take]; rfl)) ?_; (with_reducible refine (klaxonref11_State.calls kj16 _ _ y152 t145 t146 t147 x15_1 t159 _ ?side1 ?side2 A70.out).mono ?_); (case side1 => repeat (first | exact (Kd.R_reads' HO154.out).2.2 | (with_reducible refine Kd.C_alloc ?_ _) | (with_reducible refine Kd.C_drewN ?_ _) | (with_reducible refine Kd.C_drew ?_))); (case side2 => exact (Kd.R_reads' HO154.out).2.1); rintro e w' ⟨rfl, ⟨nd, rfl⟩⟩; refine ⟨_, rfl, ?_⟩; have hcz87_0 : w85.cell? ⟨gb148, 0, none⟩ = some (.int .i64 0) := (blk_cell BK148.out 0).trans rfl; have hcz87_1 : w85.cell? ⟨gb148, 1, none⟩ = some (.int .i64 0) := (blk_cell BK148.out 1).trans rfl; have hcz87_2 : w85.cell? ⟨gb148, 2, none⟩ = some (.int .i64 0) := (blk_cell BK148.out 2).trans rfl; have hfz87_0 := blk_frozen BK148.out 0; have hfz87_1 := blk_frozen BK148.out 1; have hfz87_2 := blk_frozen BK148.out 2))
                                    go_roundg kj16
                                    case measure => have := HK1.out; have := HJ8.out; have := HJ14.out; have := HJ16.out; omega
                                    case rel => exact ⟨(y152), (x14_1), (wrap64 (x15_1 + 1)), (0), (0), (0), (by first | rfl | (simp; done) | (simp [*]; done)), (by first | rfl | (simp; done) | (simp [*]; done)), H', ⟨by have := HK1.out; have := HJ8.out; have := HJ14.out; have := HJ16.out; omega⟩, ⟨by (with_reducible repeat (first | apply Kd.R_alloc | apply Kd.R_drewN | apply Kd.R_drew)); exact HO154.out⟩, ⟨by (with_reducible repeat (first | refine blk_drewN ?_ _ | refine blk_drew ?_ | refine blk_alloc ?_ _)); exact BK148.out⟩, ⟨by repeat (first | (with_reducible first | exact HB.out | apply below_alloc | apply pw_below_drewN | apply below_drew1 | refine below_set ?_ GE148.out) | exact HB.out)⟩⟩
                              · rw [if_neg c72] at H
                                have c72b0 : (x149000_1 == 0) = false := beq_eq_false_iff_ne.mpr c72
                                have c72b1 : (x149000_1 != 0) = true := bne_iff_ne.mpr c72
                                by_cases c88 : t146 = 0
                                · rw [if_pos c88] at H
                                  have c88b0 : (t146 == 0) = true := beq_iff_eq.mpr c88
                                  have c88b1 : (t146 != 0) = false := bne_eq_false_iff_eq.mpr c88
                                  clear c88
                                  by_cases c89 : x14_1 = 1
                                  · rw [if_pos c89] at H
                                    have c89b0 : (x14_1 == 1) = true := beq_iff_eq.mpr c89
                                    have c89b1 : (x14_1 != 1) = false := bne_eq_false_iff_eq.mpr c89
                                    clear c89
                                    obtain rfl := Option.some.inj H
                                    go_wp2_with (first | ((with_reducible refine gate_builtin (b := .append) (xs := #[.tmp 43, .tmp 45]) rfl ?_); at_builtin; refine Kd.R_append (Kd.int .i64) (w0 := w) w.heap.size rfl (.tmp 43) (.tmp 45) 39 3 (.int .i64 0) 8 rfl Try.underlying39 info3 rfl (by decide) (by omega) u12 x12_1 x17_16 [.int .i64 x17_16] (fun _ => True) (fun _ => False) rfl rfl ?aP (fun _ hk => hk.elim) ?aF ?aO ?aB ?aS ?aL ?_; (case aP => exact rfl); (case aB => exact (by repeat (first | (with_reducible first | exact HB.out | apply below_alloc | apply pw_below_drewN | apply below_drew1 | refine below_set ?_ GE148.out) | exact HB.out))); (case aF => exact (fun _ _ => trivial)); (case aO => exact (by (with_reducible repeat (first | apply Kd.R_alloc | apply Kd.R_drewN | apply Kd.R_drew)); exact HO_12.out)); (case aS => exact (below_size (by repeat (first | (with_reducible first | exact HB.out | apply below_alloc | apply pw_below_drewN | apply below_drew1 | refine below_set ?_ GE148.out) | exact HB.out)))); (case aL => have := LMc19.out; omega); intro v153 w90 ho hb hg hat; rw [← Ny152.out] at ho; have n0_ := Aside0.mk (blk_grown (g := gb148) (o := .cells #[.int .i64 x149000_1, .int .i64 x149001_1, .int .i64 x149002_1] 41 (0, 0)) (by (with_reducible repeat (first | refine blk_drewN ?_ _ | refine blk_drew ?_ | refine blk_alloc ?_ _)); exact BK148.out) hg (Kd.R_ne HO_12.out BK148.out (by decide))); have n1_ := Aside0.mk (hb); have n2_ := Aside0.mk (ho); clear BK148; clear HB; clear HO_12; have BK148 := n0_; have HB := n1_; have HO154 := n2_; clear n0_ n1_ n2_; clear ho hb hg hat; obtain ⟨Ao91, co91, eo91⟩ := Kd.R_slice HO154.out; subst eo91) | ((with_reducible refine gate_callee (f := 28) rfl ?_); refine goesL_ (some 65) rfl rfl Try.func28 (by kernel_rfl) rfl #[.slice Ao91 y152.length co91, .int .i64 t145, .int .i64 t146, .int .i64 t147, .int .i64 x15_1] rfl (by (try simp only [List.map_toArray, List.map_cons, List.map_nil]); first | done | rfl | (simp only [List.length_drop, List.length_take]; rfl)) ?_; (with_reducible refine (klaxonref11_State.calls kj16 _ _ y152 t145 t146 t147 x15_1 t159 _ ?side1 ?side2 A70.out).mono ?_); (case side1 => repeat (first | exact (Kd.R_reads' HO154.out).2.2 | (with_reducible refine Kd.C_alloc ?_ _) | (with_reducible refine Kd.C_drewN ?_ _) | (with_reducible refine Kd.C_drew ?_))); (case side2 => exact (Kd.R_reads' HO154.out).2.1); rintro e w' ⟨rfl, ⟨nd, rfl⟩⟩; refine ⟨_, rfl, ?_⟩; have hcz92_0 : w90.cell? ⟨gb148, 0, none⟩ = some (.int .i64 x149000_1) := (blk_cell BK148.out 0).trans rfl; have hcz92_1 : w90.cell? ⟨gb148, 1, none⟩ = some (.int .i64 x149001_1) := (blk_cell BK148.out 1).trans rfl; have hcz92_2 : w90.cell? ⟨gb148, 2, none⟩ = some (.int .i64 x149002_1) := (blk_cell BK148.out 2).trans rfl; have hfz92_0 := blk_frozen BK148.out 0; have hfz92_1 := blk_frozen BK148.out 1; have hfz92_2 := blk_frozen BK148.out 2))
                                    go_ret
                                    exact ⟨by first | rfl | (simp [errW_none, errW_some] <;> rfl) | (simp [*, errW_none, errW_some] <;> rfl), by repeat (first | (with_reducible first | exact HB.out | apply below_alloc | apply pw_below_drewN | apply below_drew1 | refine below_set ?_ GE148.out) | exact HB.out)⟩
                                  · rw [if_neg c89] at H
                                    have c89b0 : (x14_1 == 1) = false := beq_eq_false_iff_ne.mpr c89
                                    have c89b1 : (x14_1 != 1) = true := bne_iff_ne.mpr c89
                                    have H' := Aside0.mk H
                                    clear H
                                    go_wp2_with (first | ((with_reducible refine gate_builtin (b := .append) (xs := #[.tmp 43, .tmp 45]) rfl ?_); at_builtin; refine Kd.R_append (Kd.int .i64) (w0 := w) w.heap.size rfl (.tmp 43) (.tmp 45) 39 3 (.int .i64 0) 8 rfl Try.underlying39 info3 rfl (by decide) (by omega) u12 x12_1 x17_16 [.int .i64 x17_16] (fun _ => True) (fun _ => False) rfl rfl ?aP (fun _ hk => hk.elim) ?aF ?aO ?aB ?aS ?aL ?_; (case aP => exact rfl); (case aB => exact (by repeat (first | (with_reducible first | exact HB.out | apply below_alloc | apply pw_below_drewN | apply below_drew1 | refine below_set ?_ GE148.out) | exact HB.out))); (case aF => exact (fun _ _ => trivial)); (case aO => exact (by (with_reducible repeat (first | apply Kd.R_alloc | apply Kd.R_drewN | apply Kd.R_drew)); exact HO_12.out)); (case aS => exact (below_size (by repeat (first | (with_reducible first | exact HB.out | apply below_alloc | apply pw_below_drewN | apply below_drew1 | refine below_set ?_ GE148.out) | exact HB.out)))); (case aL => have := LMc19.out; omega); intro v153 w93 ho hb hg hat; rw [← Ny152.out] at ho; have n0_ := Aside0.mk (blk_grown (g := gb148) (o := .cells #[.int .i64 x149000_1, .int .i64 x149001_1, .int .i64 x149002_1] 41 (0, 0)) (by (with_reducible repeat (first | refine blk_drewN ?_ _ | refine blk_drew ?_ | refine blk_alloc ?_ _)); exact BK148.out) hg (Kd.R_ne HO_12.out BK148.out (by decide))); have n1_ := Aside0.mk (hb); have n2_ := Aside0.mk (ho); clear BK148; clear HB; clear HO_12; have BK148 := n0_; have HB := n1_; have HO154 := n2_; clear n0_ n1_ n2_; clear ho hb hg hat; obtain ⟨Ao94, co94, eo94⟩ := Kd.R_slice HO154.out; subst eo94) | ((with_reducible refine gate_callee (f := 28) rfl ?_); refine goesL_ (some 65) rfl rfl Try.func28 (by kernel_rfl) rfl #[.slice Ao94 y152.length co94, .int .i64 t145, .int .i64 t146, .int .i64 t147, .int .i64 x15_1] rfl (by (try simp only [List.map_toArray, List.map_cons, List.map_nil]); first | done | rfl | (simp only [List.length_drop, List.length_take]; rfl)) ?_; (with_reducible refine (klaxonref11_State.calls kj16 _ _ y152 t145 t146 t147 x15_1 t159 _ ?side1 ?side2 A70.out).mono ?_); (case side1 => repeat (first | exact (Kd.R_reads' HO154.out).2.2 | (with_reducible refine Kd.C_alloc ?_ _) | (with_reducible refine Kd.C_drewN ?_ _) | (with_reducible refine Kd.C_drew ?_))); (case side2 => exact (Kd.R_reads' HO154.out).2.1); rintro e w' ⟨rfl, ⟨nd, rfl⟩⟩; refine ⟨_, rfl, ?_⟩; have hcz95_0 : w93.cell? ⟨gb148, 0, none⟩ = some (.int .i64 x149000_1) := (blk_cell BK148.out 0).trans rfl; have hcz95_1 : w93.cell? ⟨gb148, 1, none⟩ = some (.int .i64 x149001_1) := (blk_cell BK148.out 1).trans rfl; have hcz95_2 : w93.cell? ⟨gb148, 2, none⟩ = some (.int .i64 x149002_1) := (blk_cell BK148.out 2).trans rfl; have hfz95_0 := blk_frozen BK148.out 0; have hfz95_1 := blk_frozen BK148.out 1; have hfz95_2 := blk_frozen BK148.out 2))
                                    go_roundg kj16
                                    case measure => have := HK1.out; have := HJ8.out; have := HJ14.out; have := HJ16.out; omega
                                    case rel => exact ⟨(y152), (x14_1), (wrap64 (x15_1 + 1)), (x149000_1), (x149001_1), (x149002_1), (by first | rfl | (simp; done) | (simp [*]; done)), (by first | rfl | (simp; done) | (simp [*]; done)), H', ⟨by have := HK1.out; have := HJ8.out; have := HJ14.out; have := HJ16.out; omega⟩, ⟨by (with_reducible repeat (first | apply Kd.R_alloc | apply Kd.R_drewN | apply Kd.R_drew)); exact HO154.out⟩, ⟨by (with_reducible repeat (first | refine blk_drewN ?_ _ | refine blk_drew ?_ | refine blk_alloc ?_ _)); exact BK148.out⟩, ⟨by repeat (first | (with_reducible first | exact HB.out | apply below_alloc | apply pw_below_drewN | apply below_drew1 | refine below_set ?_ GE148.out) | exact HB.out)⟩⟩
                                · rw [if_neg c88] at H
                                  have c88b0 : (t146 == 0) = false := beq_eq_false_iff_ne.mpr c88
                                  have c88b1 : (t146 != 0) = true := bne_iff_ne.mpr c88
                                  have H' := Aside0.mk H
                                  clear H
                                  go_wp2_with (first | ((with_reducible refine gate_builtin (b := .append) (xs := #[.tmp 43, .tmp 45]) rfl ?_); at_builtin; refine Kd.R_append (Kd.int .i64) (w0 := w) w.heap.size rfl (.tmp 43) (.tmp 45) 39 3 (.int .i64 0) 8 rfl Try.underlying39 info3 rfl (by decide) (by omega) u12 x12_1 x17_16 [.int .i64 x17_16] (fun _ => True) (fun _ => False) rfl rfl ?aP (fun _ hk => hk.elim) ?aF ?aO ?aB ?aS ?aL ?_; (case aP => exact rfl); (case aB => exact (by repeat (first | (with_reducible first | exact HB.out | apply below_alloc | apply pw_below_drewN | apply below_drew1 | refine below_set ?_ GE148.out) | exact HB.out))); (case aF => exact (fun _ _ => trivial)); (case aO => exact (by (with_reducible repeat (first | apply Kd.R_alloc | apply Kd.R_drewN | apply Kd.R_drew)); exact HO_12.out)); (case aS => exact (below_size (by repeat (first | (with_reducible first | exact HB.out | apply below_alloc | apply pw_below_drewN | apply below_drew1 | refine below_set ?_ GE148.out) | exact HB.out)))); (case aL => have := LMc19.out; omega); intro v153 w96 ho hb hg hat; rw [← Ny152.out] at ho; have n0_ := Aside0.mk (blk_grown (g := gb148) (o := .cells #[.int .i64 x149000_1, .int .i64 x149001_1, .int .i64 x149002_1] 41 (0, 0)) (by (with_reducible repeat (first | refine blk_drewN ?_ _ | refine blk_drew ?_ | refine blk_alloc ?_ _)); exact BK148.out) hg (Kd.R_ne HO_12.out BK148.out (by decide))); have n1_ := Aside0.mk (hb); have n2_ := Aside0.mk (ho); clear BK148; clear HB; clear HO_12; have BK148 := n0_; have HB := n1_; have HO154 := n2_; clear n0_ n1_ n2_; clear ho hb hg hat; obtain ⟨Ao97, co97, eo97⟩ := Kd.R_slice HO154.out; subst eo97) | ((with_reducible refine gate_callee (f := 28) rfl ?_); refine goesL_ (some 65) rfl rfl Try.func28 (by kernel_rfl) rfl #[.slice Ao97 y152.length co97, .int .i64 t145, .int .i64 t146, .int .i64 t147, .int .i64 x15_1] rfl (by (try simp only [List.map_toArray, List.map_cons, List.map_nil]); first | done | rfl | (simp only [List.length_drop, List.length_take]; rfl)) ?_; (with_reducible refine (klaxonref11_State.calls kj16 _ _ y152 t145 t146 t147 x15_1 t159 _ ?side1 ?side2 A70.out).mono ?_); (case side1 => repeat (first | exact (Kd.R_reads' HO154.out).2.2 | (with_reducible refine Kd.C_alloc ?_ _) | (with_reducible refine Kd.C_drewN ?_ _) | (with_reducible refine Kd.C_drew ?_))); (case side2 => exact (Kd.R_reads' HO154.out).2.1); rintro e w' ⟨rfl, ⟨nd, rfl⟩⟩; refine ⟨_, rfl, ?_⟩; have hcz98_0 : w96.cell? ⟨gb148, 0, none⟩ = some (.int .i64 x149000_1) := (blk_cell BK148.out 0).trans rfl; have hcz98_1 : w96.cell? ⟨gb148, 1, none⟩ = some (.int .i64 x149001_1) := (blk_cell BK148.out 1).trans rfl; have hcz98_2 : w96.cell? ⟨gb148, 2, none⟩ = some (.int .i64 x149002_1) := (blk_cell BK148.out 2).trans rfl; have hfz98_0 := blk_frozen BK148.out 0; have hfz98_1 := blk_frozen BK148.out 1; have hfz98_2 := blk_frozen BK148.out 2))
                                  go_roundg kj16
                                  case measure => have := HK1.out; have := HJ8.out; have := HJ14.out; have := HJ16.out; omega
                                  case rel => exact ⟨(y152), (x14_1), (wrap64 (x15_1 + 1)), (x149000_1), (x149001_1), (x149002_1), (by first | rfl | (simp; done) | (simp [*]; done)), (by first | rfl | (simp; done) | (simp [*]; done)), H', ⟨by have := HK1.out; have := HJ8.out; have := HJ14.out; have := HJ16.out; omega⟩, ⟨by (with_reducible repeat (first | apply Kd.R_alloc | apply Kd.R_drewN | apply Kd.R_drew)); exact HO154.out⟩, ⟨by (with_reducible repeat (first | refine blk_drewN ?_ _ | refine blk_drew ?_ | refine blk_alloc ?_ _)); exact BK148.out⟩, ⟨by repeat (first | (with_reducible first | exact HB.out | apply below_alloc | apply pw_below_drewN | apply below_drew1 | refine below_set ?_ GE148.out) | exact HB.out)⟩⟩
                            · rw [if_neg c71] at H
                              have c71b0 : (x14_1 == t159) = false := beq_eq_false_iff_ne.mpr c71
                              have c71b1 : (x14_1 != t159) = true := bne_iff_ne.mpr c71
                              obtain rfl := Option.some.inj H
                              go_wp2_with (first | ((with_reducible refine gate_builtin (b := .append) (xs := #[.tmp 43, .tmp 45]) rfl ?_); at_builtin; refine Kd.R_append (Kd.int .i64) (w0 := w) w.heap.size rfl (.tmp 43) (.tmp 45) 39 3 (.int .i64 0) 8 rfl Try.underlying39 info3 rfl (by decide) (by omega) u12 x12_1 x17_16 [.int .i64 x17_16] (fun _ => True) (fun _ => False) rfl rfl ?aP (fun _ hk => hk.elim) ?aF ?aO ?aB ?aS ?aL ?_; (case aP => exact rfl); (case aB => exact (by repeat (first | (with_reducible first | exact HB.out | apply below_alloc | apply pw_below_drewN | apply below_drew1 | refine below_set ?_ GE148.out) | exact HB.out))); (case aF => exact (fun _ _ => trivial)); (case aO => exact (by (with_reducible repeat (first | apply Kd.R_alloc | apply Kd.R_drewN | apply Kd.R_drew)); exact HO_12.out)); (case aS => exact (below_size (by repeat (first | (with_reducible first | exact HB.out | apply below_alloc | apply pw_below_drewN | apply below_drew1 | refine below_set ?_ GE148.out) | exact HB.out)))); (case aL => have := LMc19.out; omega); intro v153 w99 ho hb hg hat; rw [← Ny152.out] at ho; have n0_ := Aside0.mk (blk_grown (g := gb148) (o := .cells #[.int .i64 x149000_1, .int .i64 x149001_1, .int .i64 x149002_1] 41 (0, 0)) (by (with_reducible repeat (first | refine blk_drewN ?_ _ | refine blk_drew ?_ | refine blk_alloc ?_ _)); exact BK148.out) hg (Kd.R_ne HO_12.out BK148.out (by decide))); have n1_ := Aside0.mk (hb); have n2_ := Aside0.mk (ho); clear BK148; clear HB; clear HO_12; have BK148 := n0_; have HB := n1_; have HO154 := n2_; clear n0_ n1_ n2_; clear ho hb hg hat; obtain ⟨Ao100, co100, eo100⟩ := Kd.R_slice HO154.out; subst eo100) | ((with_reducible refine gate_callee (f := 28) rfl ?_); refine goesL_ (some 65) rfl rfl Try.func28 (by kernel_rfl) rfl #[.slice Ao100 y152.length co100, .int .i64 t145, .int .i64 t146, .int .i64 t147, .int .i64 x15_1] rfl (by (try simp only [List.map_toArray, List.map_cons, List.map_nil]); first | done | rfl | (simp only [List.length_drop, List.length_take]; rfl)) ?_; (with_reducible refine (klaxonref11_State.calls kj16 _ _ y152 t145 t146 t147 x15_1 t159 _ ?side1 ?side2 A70.out).mono ?_); (case side1 => repeat (first | exact (Kd.R_reads' HO154.out).2.2 | (with_reducible refine Kd.C_alloc ?_ _) | (with_reducible refine Kd.C_drewN ?_ _) | (with_reducible refine Kd.C_drew ?_))); (case side2 => exact (Kd.R_reads' HO154.out).2.1); rintro e w' ⟨rfl, ⟨nd, rfl⟩⟩; refine ⟨_, rfl, ?_⟩))
                              go_ret
                              exact ⟨by first | rfl | (simp [errW_none, errW_some] <;> rfl) | (simp [*, errW_none, errW_some] <;> rfl), by repeat (first | (with_reducible first | exact HB.out | apply below_alloc | apply pw_below_drewN | apply below_drew1 | refine below_set ?_ GE148.out) | exact HB.out)⟩
                        · rw [if_neg c19] at H
                          exact absurd H (by simp)
              · rw [if_neg c13] at H
                exact absurd H (by simp)
            · rw [if_neg c12] at H
              exact absurd H (by simp)
          · replace c11 := Bool.eq_false_iff.mpr c11
            subst c11
            have H1 : ((klaxonlaw12_LifeRuns.f kj8).bind fun t149 => (some t149)) = some r := by rw [if_neg (show ¬ (false = true) by decide)] at H; exact H
            clear H
            have H := H1
            clear H1
            replace H := Option.bind_eq_some_iff.mp H
            obtain ⟨t149, A1010, H⟩ := H
            replace H : (some t149) = some r := H
            have A101 := Aside0.mk A1010
            clear A1010
            obtain rfl := Option.some.inj H
            go_wp2_with (first | ((with_reducible refine gate_callee (f := 5) rfl ?_); refine goesL_ (some 85) rfl rfl Try.func5 (by kernel_rfl) rfl #[] rfl (by (try simp only [List.map_toArray, List.map_cons, List.map_nil]); first | done | rfl | (simp only [List.length_drop, List.length_take]; rfl)) ?_; (with_reducible refine (klaxonlaw12_LifeRuns.calls kj8  t149 _ A101.out).mono ?_); rintro e w102 ⟨rfl, hb⟩; refine ⟨_, rfl, ?_⟩; have n0_ := Aside0.mk (Kd.R_below (by (with_reducible repeat (first | apply Kd.R_alloc | apply Kd.R_drewN | apply Kd.R_drew)); exact HO_12.out) hb); have n1_ := Aside0.mk (blk_below (g := gb148) (o := .cells #[.int .i64 x149000_1, .int .i64 x149001_1, .int .i64 x149002_1] 41 (0, 0)) (by (with_reducible repeat (first | refine blk_drewN ?_ _ | refine blk_drew ?_ | refine blk_alloc ?_ _)); exact BK148.out) hb); have n2_ := Aside0.mk (below_step (by repeat (first | (with_reducible first | exact HB.out | apply below_alloc | apply pw_below_drewN | apply below_drew1 | refine below_set ?_ GE148.out) | exact HB.out)) hb); clear HO_12; clear BK148; clear HB; have HO_12 := n0_; have BK148 := n1_; have HB := n2_; clear n0_ n1_ n2_; (try clear hb); (try clear hb2); (try clear hk); (try clear hi)))
            go_ret
            exact ⟨by first | rfl | (simp [errW_none, errW_some] <;> rfl) | (simp [*, errW_none, errW_some] <;> rfl), by repeat (first | (with_reducible first | exact HB.out | apply below_alloc | apply pw_below_drewN | apply below_drew1 | refine below_set ?_ GE148.out) | exact HB.out)⟩

/-- THE ONE PURE STATEMENT of klaxonlaw12_LifeTells: yours. -/
def klaxonlaw12_LifeTells.Pure : Prop := ∀ (l0 : List Int) (a1 : Int) (a2 : Int) (a3 : Int), l0.length ≤ maxLen → l0.length * 8 ≤ 140737488351232 → (∀ x ∈ l0, (Lit.int .i64 x).wf = true) → (Lit.int .i64 a1).wf = true → (Lit.int .i64 a2).wf = true → (Lit.int .i64 a3).wf = true → ∃ k, klaxonlaw12_LifeTells.f k l0 a1 a2 a3 = some true
theorem klaxonlaw12_LifeTells.walk (P : klaxonlaw12_LifeTells.Pure) (a0 : Option Addr) (len0 cap0 : Nat) (z0 : List Int) (a1 : Int) (a2 : Int) (a3 : Int) (w : World) (w0 : (a0 = none ∧ len0 = 0 ∧ cap0 = 0 ∧ z0 = []) ∨ ∃ x, a0 = some x ∧ len0 ≤ cap0 ∧ cap0 ≤ maxLen ∧ z0.length = cap0 ∧ (∀ i, i < z0.length → w.cell? (x.add i) = some (.int .i64 (z0.getD i 0))) ∧ ∀ n ∈ z0, (Lit.int .i64 n).wf = true) (y0 : len0 * 8 ≤ 140737488351232) (w1 : (Lit.int .i64 a1).wf = true) (w2 : (Lit.int .i64 a2).wf = true) (w3 : (Lit.int .i64 a3).wf = true) :
    Calls Try.prog 6 #[.slice a0 len0 cap0, .int .i64 a1, .int .i64 a2, .int .i64 a3] w fun e w' => e = .returned (.bool true) ∧ Below w.heap.size w w' := by
  obtain ⟨l0, rfl, hr0, hm0, hw0, hc0⟩ := ReadsInt.ofRowC w0
  obtain ⟨k, h⟩ := P l0 a1 a2 a3 hm0 y0 hw0 w1 w2 w3
  refine (klaxonlaw12_LifeTells.calls k _ _ l0 a1 a2 a3 true w (Kd.C_of_reads (d := (0 : Int)) (h1 := fun _ => rfl) hr0) hc0 h).mono ?_
  rintro e w' ⟨rfl, hd⟩
  exact ⟨rfl, hd⟩

end Go.Proofs.Ytkppbflmlpabjaa.PLifeTells
