/- Walks of functions that the law NumOrder reaches: written by a program of this session (adapt.py) out of a print that fell in Lean; 26 places in it are turned by the session. -/
import Derived.Test.YtkppbflmlpabjaaPNumOrderx0
import Derived.Test.YtkppbflmlpabjaaPNumOrderx1
namespace Go.Proofs.Ytkppbflmlpabjaa.PNumOrder
open Go.RowKit Go.Proofs.YtkppbflmlpabjaaW.PrintWords Go.Proofs.YtkppbflmlpabjaaW.PrintLast Go.Proofs.YtkppbflmlpabjaaW.PrintMore
attribute [local go_sem] max2_int min2_int max_two min_two max_three min_three max_four min_four   -- for this text's walks alone
set_option linter.unusedVariables false
set_option linter.unusedSimpArgs false

/-! ### klaxonlaw1_NumOrder: function 12 -/
mutual
def klaxonlaw1_NumOrder.j0 : Nat → Int → Int → Int → Int → Int → Bool → Option (Bool)
  | 0, _, _, _, _, _, _ => none
  | k + 1, x0, x1, x7, x8, x9, x50 => if x50 = true then (some false) else ((num_Sub.f x0 x7).bind fun bt117 => (if bt117.2 = 0 then (if bt117.1 ≥ x0 then (klaxonlaw1_NumOrder.j1 k x0 x1 x7 x8 x9 true) else (klaxonlaw1_NumOrder.j1 k x0 x1 x7 x8 x9 false)) else (klaxonlaw1_NumOrder.j1 k x0 x1 x7 x8 x9 (decide (x0 ≥ (wrap64 ((-9223372036854775808) + x7)))))))
def klaxonlaw1_NumOrder.j1 : Nat → Int → Int → Int → Int → Int → Bool → Option (Bool)
  | 0, _, _, _, _, _, _ => none
  | k + 1, x0, x1, x7, x8, x9, x73 => if x73 = true then (some false) else (if x9 = 0 then (if x1 ≥ 0 then (if x8 < x0 then (klaxonlaw1_NumOrder.j2 k x0 x7 true) else (if x1 < 0 then (klaxonlaw1_NumOrder.j2 k x0 x7 (decide (x8 ≥ x0))) else (klaxonlaw1_NumOrder.j2 k x0 x7 false))) else (if x1 < 0 then (klaxonlaw1_NumOrder.j2 k x0 x7 (decide (x8 ≥ x0))) else (klaxonlaw1_NumOrder.j2 k x0 x7 false))) else (klaxonlaw1_NumOrder.j2 k x0 x7 false))
def klaxonlaw1_NumOrder.j2 : Nat → Int → Int → Bool → Option (Bool)
  | 0, _, _, _ => none
  | k + 1, x0, x7, x97 => if x97 = true then (some false) else (if x7 = 0 then (none) else ((num_Mul.f (wrap64 ((wrap64 ((9223372036854775807 : Int) / x7)) + 1)) x7).bind fun bt119 => ((num_Mul.f (wrap64 ((9223372036854775807 : Int) / x7)) x7).bind fun bt121 => ((klaxonbook_Within.f x0 0 1099511627776).bind fun t123 => (if bt119.2 = 3 then (if bt121.2 = 0 then (if bt121.1 ≤ 9223372036854775807 then ((num_Up.f k t123 x7).bind fun t124 => ((num_Up.f k (wrap64 (t123 + 1)) x7).bind fun t125 => (if t124 ≤ t125 then ((num_Up.f k (wrap64 (t123 * 1)) 1).bind fun t126 => (if t126 = t123 then ((klaxonlaw1_NumRuns.f k).bind fun t127 => (some t127)) else (some false))) else (some false)))) else (some false)) else (some false)) else (some false))))))
end
def klaxonlaw1_NumOrder.f (k : Nat) (a0 : Int) (a1 : Int) (a2 : Int) : Option (Bool) := (klaxonbook_Within.f a2 2 1099511627776).bind fun t112 => ((num_Add.f a0 a1).bind fun bt113 => ((num_Add.f a0 t112).bind fun bt115 => (if bt115.2 = 0 then (if bt115.1 ≤ a0 then (klaxonlaw1_NumOrder.j0 k a0 a1 t112 bt113.1 bt113.2 true) else (klaxonlaw1_NumOrder.j0 k a0 a1 t112 bt113.1 bt113.2 false)) else (klaxonlaw1_NumOrder.j0 k a0 a1 t112 bt113.1 bt113.2 (decide (a0 ≤ (wrap64 (9223372036854775807 - t112))))))))
theorem klaxonlaw1_NumOrder.mono_l : ∀ k, (∀ y0 y1 y2 y3 y4 y5, LeO (klaxonlaw1_NumOrder.j0 k y0 y1 y2 y3 y4 y5) (klaxonlaw1_NumOrder.j0 (k + 1) y0 y1 y2 y3 y4 y5)) ∧ (∀ y0 y1 y2 y3 y4 y5, LeO (klaxonlaw1_NumOrder.j1 k y0 y1 y2 y3 y4 y5) (klaxonlaw1_NumOrder.j1 (k + 1) y0 y1 y2 y3 y4 y5)) ∧ (∀ y0 y1 y2, LeO (klaxonlaw1_NumOrder.j2 k y0 y1 y2) (klaxonlaw1_NumOrder.j2 (k + 1) y0 y1 y2))
  | 0 => ⟨fun _ _ _ _ _ _ r h => by simp [klaxonlaw1_NumOrder.j0] at h, fun _ _ _ _ _ _ r h => by simp [klaxonlaw1_NumOrder.j1] at h, fun _ _ _ r h => by simp [klaxonlaw1_NumOrder.j2] at h⟩
  | k + 1 => by
    obtain ⟨ih0, ih1, ih2⟩ := klaxonlaw1_NumOrder.mono_l k
    refine ⟨?_, ?_, ?_⟩
    · intro y0 y1 y2 y3 y4 y5
      unfold klaxonlaw1_NumOrder.j0
      repeat' first
      | (with_reducible exact ih0 _ _ _ _ _ _)
      | (with_reducible exact ih1 _ _ _ _ _ _)
      | (with_reducible exact ih2 _ _ _)
      | (with_reducible exact klaxonlaw1_NumRuns.mono _)
      | (with_reducible exact num_Up.mono _ _ _)
      | (with_reducible exact LeO.refl _)
      | (with_reducible exact LeO.none _)
      | (with_reducible refine LeO.ite ?_ ?_)
      | (with_reducible refine LeO.bind ?_ (fun _ => ?_))
      | exact ih0 _ _ _ _ _ _
      | exact ih1 _ _ _ _ _ _
      | exact ih2 _ _ _
      | exact klaxonlaw1_NumRuns.mono _
      | exact num_Up.mono _ _ _
      | exact LeO.none _
      | refine LeO.ite ?_ ?_
      | refine LeO.bind ?_ (fun _ => ?_)
    · intro y0 y1 y2 y3 y4 y5
      unfold klaxonlaw1_NumOrder.j1
      repeat' first
      | (with_reducible exact ih0 _ _ _ _ _ _)
      | (with_reducible exact ih1 _ _ _ _ _ _)
      | (with_reducible exact ih2 _ _ _)
      | (with_reducible exact klaxonlaw1_NumRuns.mono _)
      | (with_reducible exact num_Up.mono _ _ _)
      | (with_reducible exact LeO.refl _)
      | (with_reducible exact LeO.none _)
      | (with_reducible refine LeO.ite ?_ ?_)
      | (with_reducible refine LeO.bind ?_ (fun _ => ?_))
      | exact ih0 _ _ _ _ _ _
      | exact ih1 _ _ _ _ _ _
      | exact ih2 _ _ _
      | exact klaxonlaw1_NumRuns.mono _
      | exact num_Up.mono _ _ _
      | exact LeO.none _
      | refine LeO.ite ?_ ?_
      | refine LeO.bind ?_ (fun _ => ?_)
    · intro y0 y1 y2
      unfold klaxonlaw1_NumOrder.j2
      repeat' first
      | (with_reducible exact ih0 _ _ _ _ _ _)
      | (with_reducible exact ih1 _ _ _ _ _ _)
      | (with_reducible exact ih2 _ _ _)
      | (with_reducible exact klaxonlaw1_NumRuns.mono _)
      | (with_reducible exact num_Up.mono _ _ _)
      | (with_reducible exact LeO.refl _)
      | (with_reducible exact LeO.none _)
      | (with_reducible refine LeO.ite ?_ ?_)
      | (with_reducible refine LeO.bind ?_ (fun _ => ?_))
      | exact ih0 _ _ _ _ _ _
      | exact ih1 _ _ _ _ _ _
      | exact ih2 _ _ _
      | exact klaxonlaw1_NumRuns.mono _
      | exact num_Up.mono _ _ _
      | exact LeO.none _
      | refine LeO.ite ?_ ?_
      | refine LeO.bind ?_ (fun _ => ?_)
theorem klaxonlaw1_NumOrder.mono : ∀ a0 a1 a2 k, LeO (klaxonlaw1_NumOrder.f k a0 a1 a2) (klaxonlaw1_NumOrder.f (k + 1) a0 a1 a2) := by
  intro a0 a1 a2 k
  obtain ⟨ih0, ih1, ih2⟩ := klaxonlaw1_NumOrder.mono_l k
  unfold klaxonlaw1_NumOrder.f
  repeat' first
      | (with_reducible exact ih0 _ _ _ _ _ _)
      | (with_reducible exact ih1 _ _ _ _ _ _)
      | (with_reducible exact ih2 _ _ _)
      | (with_reducible exact klaxonlaw1_NumRuns.mono _)
      | (with_reducible exact num_Up.mono _ _ _)
      | (with_reducible exact LeO.refl _)
      | (with_reducible exact LeO.none _)
      | (with_reducible refine LeO.ite ?_ ?_)
      | (with_reducible refine LeO.bind ?_ (fun _ => ?_))
      | exact ih0 _ _ _ _ _ _
      | exact ih1 _ _ _ _ _ _
      | exact ih2 _ _ _
      | exact klaxonlaw1_NumRuns.mono _
      | exact num_Up.mono _ _ _
      | exact LeO.none _
      | refine LeO.ite ?_ ?_
      | refine LeO.bind ?_ (fun _ => ?_)
set_option maxHeartbeats 8000000 in
set_option maxRecDepth 100000 in
theorem klaxonlaw1_NumOrder.calls (k : Nat) (a0 : Int) (a1 : Int) (a2 : Int) (r : Bool) (w : World) (h : klaxonlaw1_NumOrder.f k a0 a1 a2 = some r) :
    Calls Try.prog 12 #[.int .i64 a0, .int .i64 a1, .int .i64 a2] w fun e w' => e = .returned (.bool r) ∧ Drawn0 w w' := by
  have H : ((klaxonbook_Within.f a2 2 1099511627776).bind fun t112 => ((num_Add.f a0 a1).bind fun bt113 => ((num_Add.f a0 t112).bind fun bt115 => (if bt115.2 = 0 then (if bt115.1 ≤ a0 then (klaxonlaw1_NumOrder.j0 k a0 a1 t112 bt113.1 bt113.2 true) else (klaxonlaw1_NumOrder.j0 k a0 a1 t112 bt113.1 bt113.2 false)) else (klaxonlaw1_NumOrder.j0 k a0 a1 t112 bt113.1 bt113.2 (decide (a0 ≤ (wrap64 (9223372036854775807 - t112))))))))) = some r := h
  clear h
  replace H := Option.bind_eq_some_iff.mp H
  obtain ⟨t112, A40, H⟩ := H
  replace H : ((num_Add.f a0 a1).bind fun bt113 => ((num_Add.f a0 t112).bind fun bt115 => (if bt115.2 = 0 then (if bt115.1 ≤ a0 then (klaxonlaw1_NumOrder.j0 k a0 a1 t112 bt113.1 bt113.2 true) else (klaxonlaw1_NumOrder.j0 k a0 a1 t112 bt113.1 bt113.2 false)) else (klaxonlaw1_NumOrder.j0 k a0 a1 t112 bt113.1 bt113.2 (decide (a0 ≤ (wrap64 (9223372036854775807 - t112)))))))) = some r := H
  have A4 := Aside0.mk A40
  clear A40
  replace H := Option.bind_eq_some_iff.mp H
  obtain ⟨⟨t113, t114⟩, A50, H⟩ := H
  replace H : ((num_Add.f a0 t112).bind fun bt115 => (if bt115.2 = 0 then (if bt115.1 ≤ a0 then (klaxonlaw1_NumOrder.j0 k a0 a1 t112 t113 t114 true) else (klaxonlaw1_NumOrder.j0 k a0 a1 t112 t113 t114 false)) else (klaxonlaw1_NumOrder.j0 k a0 a1 t112 t113 t114 (decide (a0 ≤ (wrap64 (9223372036854775807 - t112))))))) = some r := H
  have A5 := Aside0.mk A50
  clear A50
  replace H := Option.bind_eq_some_iff.mp H
  obtain ⟨⟨t115, t116⟩, A60, H⟩ := H
  replace H : (if t116 = 0 then (if t115 ≤ a0 then (klaxonlaw1_NumOrder.j0 k a0 a1 t112 t113 t114 true) else (klaxonlaw1_NumOrder.j0 k a0 a1 t112 t113 t114 false)) else (klaxonlaw1_NumOrder.j0 k a0 a1 t112 t113 t114 (decide (a0 ≤ (wrap64 (9223372036854775807 - t112)))))) = some r := H
  have A6 := Aside0.mk A60
  clear A60
  have HC7 := Aside0.mk H
  clear H
  go_enter Try.func12, Try.ntmps12
  go_upto_region 4 with (first | ((with_reducible refine gate_callee (f := 22) rfl ?_); refine goesL_ (some 21) rfl rfl Try.func22 (by kernel_rfl) rfl #[.int .i64 a2, .int .i64 2, .int .i64 1099511627776] rfl (by (try simp only [List.map_toArray, List.map_cons, List.map_nil]); first | done | rfl | (simp only [List.length_drop, List.length_take]; rfl)) ?_; (with_reducible refine (klaxonbook_Within.calls a2 2 1099511627776 t112 _ A4.out).mono ?_); rintro e w' ⟨rfl, ⟨nd, rfl⟩⟩; refine ⟨_, rfl, ?_⟩) | ((with_reducible refine gate_callee (f := 15) rfl ?_); refine goesL_ (some 25) rfl rfl Try.func15 (by kernel_rfl) rfl #[.int .i64 a0, .int .i64 a1] rfl (by (try simp only [List.map_toArray, List.map_cons, List.map_nil]); first | done | rfl | (simp only [List.length_drop, List.length_take]; rfl)) ?_; (with_reducible refine (num_Add.calls a0 a1 t113 t114 _ A5.out).mono ?_); rintro e w' ⟨rfl, ⟨nd, rfl⟩⟩; refine ⟨_, rfl, ?_⟩) | ((with_reducible refine gate_callee (f := 15) rfl ?_); refine goesL_ (some 31) rfl rfl Try.func15 (by kernel_rfl) rfl #[.int .i64 a0, .int .i64 t112] rfl (by (try simp only [List.map_toArray, List.map_cons, List.map_nil]); first | done | rfl | (simp only [List.length_drop, List.length_take]; rfl)) ?_; (with_reducible refine (num_Add.calls a0 t112 t115 t116 _ A6.out).mono ?_); rintro e w' ⟨rfl, ⟨nd, rfl⟩⟩; refine ⟨_, rfl, ?_⟩))
  (try simp only [Act.put, List.setIfInBounds_toArray, List.set_cons_zero, List.set_cons_succ])
  go_cut [50] (fun v50 wc => ∃ (kq : Nat) (x50_6 : Bool), v50 = .bool x50_6 ∧ Aside0 (klaxonlaw1_NumOrder.j0 kq a0 a1 t112 t113 t114 x50_6 = some r) ∧ Aside0 (kq ≤ k) ∧ Drawn0 w wc)
  case first =>
    have H := HC7.out
    clear HC7
    by_cases c8 : t116 = 0
    · rw [if_pos c8] at H
      have c8b0 : (t116 == 0) = true := beq_iff_eq.mpr c8
      have c8b1 : (t116 != 0) = false := bne_eq_false_iff_eq.mpr c8
      clear c8
      (first | rw [c8b0] | (simp only [i64_w, i32_w]; rw [c8b0]) | skip)
      by_cases c9 : t115 ≤ a0
      · rw [if_pos c9] at H
        have c9b0 : decide (t115 ≤ a0) = true := decide_eq_true c9
        clear c9
        have H' := Aside0.mk H
        clear H
        go_wp2
        go_meet
        case rel => exact ⟨_, (true), (by first | rfl | (simp; done) | (simp [*]; done)), H', ⟨by first | omega | exact Nat.le_refl _⟩, by repeat (first | exact Drawn0.refl _ | apply Drawn0.step)⟩
      · rw [if_neg c9] at H
        have c9b0 : decide (t115 ≤ a0) = false := decide_eq_false c9
        clear c9
        have H' := Aside0.mk H
        clear H
        go_wp2
        go_meet
        case rel => exact ⟨_, (false), (by first | rfl | (simp; done) | (simp [*]; done)), H', ⟨by first | omega | exact Nat.le_refl _⟩, by repeat (first | exact Drawn0.refl _ | apply Drawn0.step)⟩
    · rw [if_neg c8] at H
      have c8b0 : (t116 == 0) = false := beq_eq_false_iff_ne.mpr c8
      have c8b1 : (t116 != 0) = true := bne_iff_ne.mpr c8
      (first | rw [c8b0] | (simp only [i64_w, i32_w]; rw [c8b0]) | skip)
      have H' := Aside0.mk H
      clear H
      go_wp2
      go_meet
      case rel => exact ⟨_, (decide (a0 ≤ (wrap64 (9223372036854775807 - t112)))), (by first | rfl | (simp; done) | (simp [*]; done)), H', ⟨by first | omega | exact Nat.le_refl _⟩, by repeat (first | exact Drawn0.refl _ | apply Drawn0.step)⟩
  case rest =>
    clear HC7
    try clear c1
    try clear c2
    try clear p2
    try clear p6
    try clear c8
    try clear c8b0
    try clear c8b1
    try clear c9
    try clear c9b0
    obtain ⟨kq, x50_6, rfl, HA, HJ6, ⟨mc6, rfl⟩⟩ := hcut
    cases kq with
    | zero => exact absurd HA.out (by simp [klaxonlaw1_NumOrder.j0])
    | succ kj6 =>
      have H := HA.out
      clear HA
      simp only [klaxonlaw1_NumOrder.j0] at H
      by_cases c10 : x50_6 = true
      · subst c10
        have H1 : (some false) = some r := by rw [if_pos rfl] at H; exact H
        clear H
        have H := H1
        clear H1
        obtain rfl := Option.some.inj H
        go_wp2
        go_ret
        exact ⟨by first | rfl | (simp; done) | (simp [*]; done), by repeat (first | exact Drawn0.refl _ | apply Drawn0.step)⟩
      · replace c10 := Bool.eq_false_iff.mpr c10
        subst c10
        have H1 : ((num_Sub.f a0 t112).bind fun bt117 => (if bt117.2 = 0 then (if bt117.1 ≥ a0 then (klaxonlaw1_NumOrder.j1 kj6 a0 a1 t112 t113 t114 true) else (klaxonlaw1_NumOrder.j1 kj6 a0 a1 t112 t113 t114 false)) else (klaxonlaw1_NumOrder.j1 kj6 a0 a1 t112 t113 t114 (decide (a0 ≥ (wrap64 ((-9223372036854775808) + t112))))))) = some r := by rw [if_neg (show ¬ (false = true) by decide)] at H; exact H
        clear H
        have H := H1
        clear H1
        replace H := Option.bind_eq_some_iff.mp H
        obtain ⟨⟨t117, t118⟩, A110, H⟩ := H
        replace H : (if t118 = 0 then (if t117 ≥ a0 then (klaxonlaw1_NumOrder.j1 kj6 a0 a1 t112 t113 t114 true) else (klaxonlaw1_NumOrder.j1 kj6 a0 a1 t112 t113 t114 false)) else (klaxonlaw1_NumOrder.j1 kj6 a0 a1 t112 t113 t114 (decide (a0 ≥ (wrap64 ((-9223372036854775808) + t112)))))) = some r := H
        have A11 := Aside0.mk A110
        clear A110
        have HC12 := Aside0.mk H
        clear H
        go_upto_region 7 with (first | ((with_reducible refine gate_callee (f := 29) rfl ?_); refine goesL_ (some 54) rfl rfl Try.func29 (by kernel_rfl) rfl #[.int .i64 a0, .int .i64 t112] rfl (by (try simp only [List.map_toArray, List.map_cons, List.map_nil]); first | done | rfl | (simp only [List.length_drop, List.length_take]; rfl)) ?_; (with_reducible refine (num_Sub.calls a0 t112 t117 t118 _ A11.out).mono ?_); rintro e w' ⟨rfl, ⟨nd, rfl⟩⟩; refine ⟨_, rfl, ?_⟩))
        (try simp only [Act.put, List.setIfInBounds_toArray, List.set_cons_zero, List.set_cons_succ])
        go_cut [73] (fun v73 wc => ∃ (kq : Nat) (x73_11 : Bool), v73 = .bool x73_11 ∧ Aside0 (klaxonlaw1_NumOrder.j1 kq a0 a1 t112 t113 t114 x73_11 = some r) ∧ Aside0 (kq ≤ kj6) ∧ Drawn0 w wc)
        case first =>
          have H := HC12.out
          clear HC12
          by_cases c13 : t118 = 0
          · rw [if_pos c13] at H
            have c13b0 : (t118 == 0) = true := beq_iff_eq.mpr c13
            have c13b1 : (t118 != 0) = false := bne_eq_false_iff_eq.mpr c13
            clear c13
            (first | rw [c13b0] | (simp only [i64_w, i32_w]; rw [c13b0]) | skip)
            by_cases c14 : t117 ≥ a0
            · rw [if_pos c14] at H
              have c14b0 : decide (a0 ≤ t117) = true := decide_eq_true c14
              clear c14
              have H' := Aside0.mk H
              clear H
              go_wp2
              go_meet
              case rel => exact ⟨_, (true), (by first | rfl | (simp; done) | (simp [*]; done)), H', ⟨by have := HJ6.out; first | omega | exact Nat.le_refl _⟩, by repeat (first | exact Drawn0.refl _ | apply Drawn0.step)⟩
            · rw [if_neg c14] at H
              have c14b0 : decide (a0 ≤ t117) = false := decide_eq_false c14
              clear c14
              have H' := Aside0.mk H
              clear H
              go_wp2
              go_meet
              case rel => exact ⟨_, (false), (by first | rfl | (simp; done) | (simp [*]; done)), H', ⟨by have := HJ6.out; first | omega | exact Nat.le_refl _⟩, by repeat (first | exact Drawn0.refl _ | apply Drawn0.step)⟩
          · rw [if_neg c13] at H
            have c13b0 : (t118 == 0) = false := beq_eq_false_iff_ne.mpr c13
            have c13b1 : (t118 != 0) = true := bne_iff_ne.mpr c13
            (first | rw [c13b0] | (simp only [i64_w, i32_w]; rw [c13b0]) | skip)
            have H' := Aside0.mk H
            clear H
            go_wp2
            go_meet
            case rel => exact ⟨_, (decide (a0 ≥ (wrap64 ((-9223372036854775808) + t112)))), (by first | rfl | (simp; done) | (simp [*]; done)), H', ⟨by have := HJ6.out; first | omega | exact Nat.le_refl _⟩, by repeat (first | exact Drawn0.refl _ | apply Drawn0.step)⟩
        case rest =>
          clear HC12
          try clear c1
          try clear c2
          try clear p2
          try clear c6
          try clear p6
          try clear c8
          try clear c8b0
          try clear c8b1
          try clear c9
          try clear c9b0
          try clear c10
          try clear c12
          try clear c13
          try clear c13b0
          try clear c13b1
          try clear c14
          try clear c14b0
          try clear p2
          try clear p6
          obtain ⟨kq, x73_11, rfl, HA, HJ11, ⟨mc11, rfl⟩⟩ := hcut
          cases kq with
          | zero => exact absurd HA.out (by simp [klaxonlaw1_NumOrder.j1])
          | succ kj11 =>
            have H := HA.out
            clear HA
            simp only [klaxonlaw1_NumOrder.j1] at H
            by_cases c15 : x73_11 = true
            · subst c15
              have H1 : (some false) = some r := by rw [if_pos rfl] at H; exact H
              clear H
              have H := H1
              clear H1
              obtain rfl := Option.some.inj H
              go_wp2
              go_ret
              exact ⟨by first | rfl | (simp; done) | (simp [*]; done), by repeat (first | exact Drawn0.refl _ | apply Drawn0.step)⟩
            · replace c15 := Bool.eq_false_iff.mpr c15
              subst c15
              have H1 : (if t114 = 0 then (if a1 ≥ 0 then (if t113 < a0 then (klaxonlaw1_NumOrder.j2 kj11 a0 t112 true) else (if a1 < 0 then (klaxonlaw1_NumOrder.j2 kj11 a0 t112 (decide (t113 ≥ a0))) else (klaxonlaw1_NumOrder.j2 kj11 a0 t112 false))) else (if a1 < 0 then (klaxonlaw1_NumOrder.j2 kj11 a0 t112 (decide (t113 ≥ a0))) else (klaxonlaw1_NumOrder.j2 kj11 a0 t112 false))) else (klaxonlaw1_NumOrder.j2 kj11 a0 t112 false)) = some r := by rw [if_neg (show ¬ (false = true) by decide)] at H; exact H
              clear H
              have H := H1
              clear H1
              have HC16 := Aside0.mk H
              clear H
              go_upto_region 9 with (fail)
              go_cut [97] (fun v97 wc => ∃ (kq : Nat) (x97_15 : Bool), v97 = .bool x97_15 ∧ Aside0 (klaxonlaw1_NumOrder.j2 kq a0 t112 x97_15 = some r) ∧ Aside0 (kq ≤ kj11) ∧ Drawn0 w wc)
              case first =>
                have H := HC16.out
                clear HC16
                by_cases c17 : t114 = 0
                · rw [if_pos c17] at H
                  have c17b0 : (t114 == 0) = true := beq_iff_eq.mpr c17
                  have c17b1 : (t114 != 0) = false := bne_eq_false_iff_eq.mpr c17
                  clear c17
                  (first | rw [c17b0] | (simp only [i64_w, i32_w]; rw [c17b0]) | skip)
                  by_cases c18 : a1 ≥ 0
                  · rw [if_pos c18] at H
                    have c18b0 : decide (0 ≤ a1) = true := decide_eq_true c18
                    clear c18
                    by_cases c19 : t113 < a0
                    · rw [if_pos c19] at H
                      have c19b0 : decide (t113 < a0) = true := decide_eq_true c19
                      clear c19
                      have H' := Aside0.mk H
                      clear H
                      go_wp2
                      go_meet
                      case rel => exact ⟨_, (true), (by first | rfl | (simp; done) | (simp [*]; done)), H', ⟨by have := HJ6.out; have := HJ11.out; first | omega | exact Nat.le_refl _⟩, by repeat (first | exact Drawn0.refl _ | apply Drawn0.step)⟩
                    · rw [if_neg c19] at H
                      have c19b0 : decide (t113 < a0) = false := decide_eq_false c19
                      clear c19
                      by_cases c20 : a1 < 0
                      · rw [if_pos c20] at H
                        have c20b0 : decide (a1 < 0) = true := decide_eq_true c20
                        clear c20
                        have H' := Aside0.mk H
                        clear H
                        go_wp2
                        go_meet
                        case rel => exact ⟨_, (decide (t113 ≥ a0)), (by first | rfl | (simp; done) | (simp [*]; done)), H', ⟨by have := HJ6.out; have := HJ11.out; first | omega | exact Nat.le_refl _⟩, by repeat (first | exact Drawn0.refl _ | apply Drawn0.step)⟩
                      · rw [if_neg c20] at H
                        have c20b0 : decide (a1 < 0) = false := decide_eq_false c20
                        clear c20
                        have H' := Aside0.mk H
                        clear H
                        go_wp2
                        go_meet
                        case rel => exact ⟨_, (false), (by first | rfl | (simp; done) | (simp [*]; done)), H', ⟨by have := HJ6.out; have := HJ11.out; first | omega | exact Nat.le_refl _⟩, by repeat (first | exact Drawn0.refl _ | apply Drawn0.step)⟩
                  · rw [if_neg c18] at H
                    have c18b0 : decide (0 ≤ a1) = false := decide_eq_false c18
                    clear c18
                    by_cases c21 : a1 < 0
                    · rw [if_pos c21] at H
                      have c21b0 : decide (a1 < 0) = true := decide_eq_true c21
                      clear c21
                      have H' := Aside0.mk H
                      clear H
                      go_wp2
                      go_meet
                      case rel => exact ⟨_, (decide (t113 ≥ a0)), (by first | rfl | (simp; done) | (simp [*]; done)), H', ⟨by have := HJ6.out; have := HJ11.out; first | omega | exact Nat.le_refl _⟩, by repeat (first | exact Drawn0.refl _ | apply Drawn0.step)⟩
                    · rw [if_neg c21] at H
                      have c21b0 : decide (a1 < 0) = false := decide_eq_false c21
                      clear c21
                      have H' := Aside0.mk H
                      clear H
                      go_wp2
                      go_meet
                      case rel => exact ⟨_, (false), (by first | rfl | (simp; done) | (simp [*]; done)), H', ⟨by have := HJ6.out; have := HJ11.out; first | omega | exact Nat.le_refl _⟩, by repeat (first | exact Drawn0.refl _ | apply Drawn0.step)⟩
                · rw [if_neg c17] at H
                  have c17b0 : (t114 == 0) = false := beq_eq_false_iff_ne.mpr c17
                  have c17b1 : (t114 != 0) = true := bne_iff_ne.mpr c17
                  (first | rw [c17b0] | (simp only [i64_w, i32_w]; rw [c17b0]) | skip)
                  have H' := Aside0.mk H
                  clear H
                  go_wp2
                  go_meet
                  case rel => exact ⟨_, (false), (by first | rfl | (simp; done) | (simp [*]; done)), H', ⟨by have := HJ6.out; have := HJ11.out; first | omega | exact Nat.le_refl _⟩, by repeat (first | exact Drawn0.refl _ | apply Drawn0.step)⟩
              case rest =>
                clear HC16
                try clear c1
                try clear c2
                try clear p2
                try clear c6
                try clear p6
                try clear c8
                try clear c8b0
                try clear c8b1
                try clear c9
                try clear c9b0
                try clear c10
                try clear c11
                try clear c12
                try clear c13
                try clear c13b0
                try clear c13b1
                try clear c14
                try clear c14b0
                try clear c15
                try clear c17
                try clear c17b0
                try clear c17b1
                try clear c18
                try clear c18b0
                try clear c19
                try clear c19b0
                try clear c20
                try clear c20b0
                try clear c21
                try clear c21b0
                try clear p2
                try clear p6
                obtain ⟨kq, x97_15, rfl, HA, HJ15, ⟨mc15, rfl⟩⟩ := hcut
                cases kq with
                | zero => exact absurd HA.out (by simp [klaxonlaw1_NumOrder.j2])
                | succ kj15 =>
                  have H := HA.out
                  clear HA
                  simp only [klaxonlaw1_NumOrder.j2] at H
                  by_cases c22 : x97_15 = true
                  · subst c22
                    have H1 : (some false) = some r := by rw [if_pos rfl] at H; exact H
                    clear H
                    have H := H1
                    clear H1
                    obtain rfl := Option.some.inj H
                    go_wp2
                    go_ret
                    exact ⟨by first | rfl | (simp; done) | (simp [*]; done), by repeat (first | exact Drawn0.refl _ | apply Drawn0.step)⟩
                  · replace c22 := Bool.eq_false_iff.mpr c22
                    subst c22
                    have H1 : (if t112 = 0 then (none) else ((num_Mul.f (wrap64 ((wrap64 ((9223372036854775807 : Int) / t112)) + 1)) t112).bind fun bt119 => ((num_Mul.f (wrap64 ((9223372036854775807 : Int) / t112)) t112).bind fun bt121 => ((klaxonbook_Within.f a0 0 1099511627776).bind fun t123 => (if bt119.2 = 3 then (if bt121.2 = 0 then (if bt121.1 ≤ 9223372036854775807 then ((num_Up.f kj15 t123 t112).bind fun t124 => ((num_Up.f kj15 (wrap64 (t123 + 1)) t112).bind fun t125 => (if t124 ≤ t125 then ((num_Up.f kj15 (wrap64 (t123 * 1)) 1).bind fun t126 => (if t126 = t123 then ((klaxonlaw1_NumRuns.f kj15).bind fun t127 => (some t127)) else (some false))) else (some false)))) else (some false)) else (some false)) else (some false)))))) = some r := by rw [if_neg (show ¬ (false = true) by decide)] at H; exact H
                    clear H
                    have H := H1
                    clear H1
                    by_cases c23 : t112 = 0
                    · rw [if_pos c23] at H
                      exact absurd H (by simp)
                    · rw [if_neg c23] at H
                      have c23b0 : (t112 == 0) = false := beq_eq_false_iff_ne.mpr c23
                      have c23b1 : (t112 != 0) = true := bne_iff_ne.mpr c23
                      replace H := Option.bind_eq_some_iff.mp H
                      obtain ⟨⟨t119, t120⟩, A240, H⟩ := H
                      replace H : ((num_Mul.f (wrap64 ((9223372036854775807 : Int) / t112)) t112).bind fun bt121 => ((klaxonbook_Within.f a0 0 1099511627776).bind fun t123 => (if t120 = 3 then (if bt121.2 = 0 then (if bt121.1 ≤ 9223372036854775807 then ((num_Up.f kj15 t123 t112).bind fun t124 => ((num_Up.f kj15 (wrap64 (t123 + 1)) t112).bind fun t125 => (if t124 ≤ t125 then ((num_Up.f kj15 (wrap64 (t123 * 1)) 1).bind fun t126 => (if t126 = t123 then ((klaxonlaw1_NumRuns.f kj15).bind fun t127 => (some t127)) else (some false))) else (some false)))) else (some false)) else (some false)) else (some false)))) = some r := H
                      have A24 := Aside0.mk A240
                      clear A240
                      replace H := Option.bind_eq_some_iff.mp H
                      obtain ⟨⟨t121, t122⟩, A250, H⟩ := H
                      replace H : ((klaxonbook_Within.f a0 0 1099511627776).bind fun t123 => (if t120 = 3 then (if t122 = 0 then (if t121 ≤ 9223372036854775807 then ((num_Up.f kj15 t123 t112).bind fun t124 => ((num_Up.f kj15 (wrap64 (t123 + 1)) t112).bind fun t125 => (if t124 ≤ t125 then ((num_Up.f kj15 (wrap64 (t123 * 1)) 1).bind fun t126 => (if t126 = t123 then ((klaxonlaw1_NumRuns.f kj15).bind fun t127 => (some t127)) else (some false))) else (some false)))) else (some false)) else (some false)) else (some false))) = some r := H
                      have A25 := Aside0.mk A250
                      clear A250
                      replace H := Option.bind_eq_some_iff.mp H
                      obtain ⟨t123, A260, H⟩ := H
                      replace H : (if t120 = 3 then (if t122 = 0 then (if t121 ≤ 9223372036854775807 then ((num_Up.f kj15 t123 t112).bind fun t124 => ((num_Up.f kj15 (wrap64 (t123 + 1)) t112).bind fun t125 => (if t124 ≤ t125 then ((num_Up.f kj15 (wrap64 (t123 * 1)) 1).bind fun t126 => (if t126 = t123 then ((klaxonlaw1_NumRuns.f kj15).bind fun t127 => (some t127)) else (some false))) else (some false)))) else (some false)) else (some false)) else (some false)) = some r := H
                      have A26 := Aside0.mk A260
                      clear A260
                      by_cases c27 : t120 = 3
                      · rw [if_pos c27] at H
                        have c27b0 : (t120 == 3) = true := beq_iff_eq.mpr c27
                        have c27b1 : (t120 != 3) = false := bne_eq_false_iff_eq.mpr c27
                        clear c27
                        by_cases c28 : t122 = 0
                        · rw [if_pos c28] at H
                          have c28b0 : (t122 == 0) = true := beq_iff_eq.mpr c28
                          have c28b1 : (t122 != 0) = false := bne_eq_false_iff_eq.mpr c28
                          clear c28
                          by_cases c29 : t121 ≤ 9223372036854775807
                          · rw [if_pos c29] at H
                            have c29b0 : decide (t121 ≤ 9223372036854775807) = true := decide_eq_true c29
                            clear c29
                            replace H := Option.bind_eq_some_iff.mp H
                            obtain ⟨t124, A300, H⟩ := H
                            replace H : ((num_Up.f kj15 (wrap64 (t123 + 1)) t112).bind fun t125 => (if t124 ≤ t125 then ((num_Up.f kj15 (wrap64 (t123 * 1)) 1).bind fun t126 => (if t126 = t123 then ((klaxonlaw1_NumRuns.f kj15).bind fun t127 => (some t127)) else (some false))) else (some false))) = some r := H
                            have A30 := Aside0.mk A300
                            clear A300
                            replace H := Option.bind_eq_some_iff.mp H
                            obtain ⟨t125, A310, H⟩ := H
                            replace H : (if t124 ≤ t125 then ((num_Up.f kj15 (wrap64 (t123 * 1)) 1).bind fun t126 => (if t126 = t123 then ((klaxonlaw1_NumRuns.f kj15).bind fun t127 => (some t127)) else (some false))) else (some false)) = some r := H
                            have A31 := Aside0.mk A310
                            clear A310
                            by_cases c32 : t124 ≤ t125
                            · rw [if_pos c32] at H
                              have c32b0 : decide (t124 ≤ t125) = true := decide_eq_true c32
                              clear c32
                              replace H := Option.bind_eq_some_iff.mp H
                              obtain ⟨t126, A330, H⟩ := H
                              replace H : (if t126 = t123 then ((klaxonlaw1_NumRuns.f kj15).bind fun t127 => (some t127)) else (some false)) = some r := H
                              have A33 := Aside0.mk A330
                              clear A330
                              by_cases c34 : t126 = t123
                              · rw [if_pos c34] at H
                                have c34b0 : (t126 == t123) = true := beq_iff_eq.mpr c34
                                have c34b1 : (t126 != t123) = false := bne_eq_false_iff_eq.mpr c34
                                clear c34
                                replace H := Option.bind_eq_some_iff.mp H
                                obtain ⟨t127, A350, H⟩ := H
                                replace H : (some t127) = some r := H
                                have A35 := Aside0.mk A350
                                clear A350
                                obtain rfl := Option.some.inj H
                                go_wp2_with (first | ((with_reducible refine gate_callee (f := 30) rfl ?_); refine goesL_ (some 104) rfl rfl Try.func30 (by kernel_rfl) rfl #[.int .i64 (wrap64 ((wrap64 (Int.tdiv 9223372036854775807 t112)) + 1)), .int .i64 t112] rfl (by (try simp only [List.map_toArray, List.map_cons, List.map_nil]); first | done | rfl | (simp only [List.length_drop, List.length_take]; rfl)) ?_; (with_reducible refine (num_Mul.calls (wrap64 ((wrap64 (Int.tdiv 9223372036854775807 t112)) + 1)) t112 t119 t120 _ (by rw [Int.tdiv_eq_ediv_of_nonneg (by decide)]; exact A24.out)).mono ?_); rintro e w' ⟨rfl, ⟨nd, rfl⟩⟩; refine ⟨_, rfl, ?_⟩) | ((with_reducible refine gate_callee (f := 30) rfl ?_); refine goesL_ (some 112) rfl rfl Try.func30 (by kernel_rfl) rfl #[.int .i64 (wrap64 (Int.tdiv 9223372036854775807 t112)), .int .i64 t112] rfl (by (try simp only [List.map_toArray, List.map_cons, List.map_nil]); first | done | rfl | (simp only [List.length_drop, List.length_take]; rfl)) ?_; (with_reducible refine (num_Mul.calls (wrap64 (Int.tdiv 9223372036854775807 t112)) t112 t121 t122 _ (by rw [Int.tdiv_eq_ediv_of_nonneg (by decide)]; exact A25.out)).mono ?_); rintro e w' ⟨rfl, ⟨nd, rfl⟩⟩; refine ⟨_, rfl, ?_⟩) | ((with_reducible refine gate_callee (f := 22) rfl ?_); refine goesL_ (some 116) rfl rfl Try.func22 (by kernel_rfl) rfl #[.int .i64 a0, .int .i64 0, .int .i64 1099511627776] rfl (by (try simp only [List.map_toArray, List.map_cons, List.map_nil]); first | done | rfl | (simp only [List.length_drop, List.length_take]; rfl)) ?_; (with_reducible refine (klaxonbook_Within.calls a0 0 1099511627776 t123 _ A26.out).mono ?_); rintro e w' ⟨rfl, ⟨nd, rfl⟩⟩; refine ⟨_, rfl, ?_⟩) | (go_at_call 18; (with_reducible refine (num_Up.calls kj15 t123 t112 t124 _ A30.out).mono ?_); rintro e w' ⟨rfl, ⟨nd, rfl⟩⟩) | (go_at_call 18; (with_reducible refine (num_Up.calls kj15 (wrap64 (t123 + 1)) t112 t125 _ A31.out).mono ?_); rintro e w' ⟨rfl, ⟨nd, rfl⟩⟩) | (go_at_call 18; (with_reducible refine (num_Up.calls kj15 (wrap64 t123) 1 t126 _ (by have z := A33.out; rw [Int.mul_one] at z; exact z)).mono ?_); rintro e w' ⟨rfl, ⟨nd, rfl⟩⟩) | (go_at_call 3; (with_reducible refine (klaxonlaw1_NumRuns.calls kj15  t127 _ A35.out).mono ?_); rintro e w' ⟨rfl, ⟨nd, rfl⟩⟩))
                                go_ret
                                exact ⟨by first | rfl | (simp; done) | (simp [*]; done), by repeat (first | exact Drawn0.refl _ | apply Drawn0.step)⟩
                              · rw [if_neg c34] at H
                                have c34b0 : (t126 == t123) = false := beq_eq_false_iff_ne.mpr c34
                                have c34b1 : (t126 != t123) = true := bne_iff_ne.mpr c34
                                obtain rfl := Option.some.inj H
                                go_wp2_with (first | ((with_reducible refine gate_callee (f := 30) rfl ?_); refine goesL_ (some 104) rfl rfl Try.func30 (by kernel_rfl) rfl #[.int .i64 (wrap64 ((wrap64 (Int.tdiv 9223372036854775807 t112)) + 1)), .int .i64 t112] rfl (by (try simp only [List.map_toArray, List.map_cons, List.map_nil]); first | done | rfl | (simp only [List.length_drop, List.length_take]; rfl)) ?_; (with_reducible refine (num_Mul.calls (wrap64 ((wrap64 (Int.tdiv 9223372036854775807 t112)) + 1)) t112 t119 t120 _ (by rw [Int.tdiv_eq_ediv_of_nonneg (by decide)]; exact A24.out)).mono ?_); rintro e w' ⟨rfl, ⟨nd, rfl⟩⟩; refine ⟨_, rfl, ?_⟩) | ((with_reducible refine gate_callee (f := 30) rfl ?_); refine goesL_ (some 112) rfl rfl Try.func30 (by kernel_rfl) rfl #[.int .i64 (wrap64 (Int.tdiv 9223372036854775807 t112)), .int .i64 t112] rfl (by (try simp only [List.map_toArray, List.map_cons, List.map_nil]); first | done | rfl | (simp only [List.length_drop, List.length_take]; rfl)) ?_; (with_reducible refine (num_Mul.calls (wrap64 (Int.tdiv 9223372036854775807 t112)) t112 t121 t122 _ (by rw [Int.tdiv_eq_ediv_of_nonneg (by decide)]; exact A25.out)).mono ?_); rintro e w' ⟨rfl, ⟨nd, rfl⟩⟩; refine ⟨_, rfl, ?_⟩) | ((with_reducible refine gate_callee (f := 22) rfl ?_); refine goesL_ (some 116) rfl rfl Try.func22 (by kernel_rfl) rfl #[.int .i64 a0, .int .i64 0, .int .i64 1099511627776] rfl (by (try simp only [List.map_toArray, List.map_cons, List.map_nil]); first | done | rfl | (simp only [List.length_drop, List.length_take]; rfl)) ?_; (with_reducible refine (klaxonbook_Within.calls a0 0 1099511627776 t123 _ A26.out).mono ?_); rintro e w' ⟨rfl, ⟨nd, rfl⟩⟩; refine ⟨_, rfl, ?_⟩) | (go_at_call 18; (with_reducible refine (num_Up.calls kj15 t123 t112 t124 _ A30.out).mono ?_); rintro e w' ⟨rfl, ⟨nd, rfl⟩⟩) | (go_at_call 18; (with_reducible refine (num_Up.calls kj15 (wrap64 (t123 + 1)) t112 t125 _ A31.out).mono ?_); rintro e w' ⟨rfl, ⟨nd, rfl⟩⟩) | (go_at_call 18; (with_reducible refine (num_Up.calls kj15 (wrap64 t123) 1 t126 _ (by have z := A33.out; rw [Int.mul_one] at z; exact z)).mono ?_); rintro e w' ⟨rfl, ⟨nd, rfl⟩⟩))
                                go_ret
                                exact ⟨by first | rfl | (simp; done) | (simp [*]; done), by repeat (first | exact Drawn0.refl _ | apply Drawn0.step)⟩
                            · rw [if_neg c32] at H
                              have c32b0 : decide (t124 ≤ t125) = false := decide_eq_false c32
                              clear c32
                              obtain rfl := Option.some.inj H
                              go_wp2_with (first | ((with_reducible refine gate_callee (f := 30) rfl ?_); refine goesL_ (some 104) rfl rfl Try.func30 (by kernel_rfl) rfl #[.int .i64 (wrap64 ((wrap64 (Int.tdiv 9223372036854775807 t112)) + 1)), .int .i64 t112] rfl (by (try simp only [List.map_toArray, List.map_cons, List.map_nil]); first | done | rfl | (simp only [List.length_drop, List.length_take]; rfl)) ?_; (with_reducible refine (num_Mul.calls (wrap64 ((wrap64 (Int.tdiv 9223372036854775807 t112)) + 1)) t112 t119 t120 _ (by rw [Int.tdiv_eq_ediv_of_nonneg (by decide)]; exact A24.out)).mono ?_); rintro e w' ⟨rfl, ⟨nd, rfl⟩⟩; refine ⟨_, rfl, ?_⟩) | ((with_reducible refine gate_callee (f := 30) rfl ?_); refine goesL_ (some 112) rfl rfl Try.func30 (by kernel_rfl) rfl #[.int .i64 (wrap64 (Int.tdiv 9223372036854775807 t112)), .int .i64 t112] rfl (by (try simp only [List.map_toArray, List.map_cons, List.map_nil]); first | done | rfl | (simp only [List.length_drop, List.length_take]; rfl)) ?_; (with_reducible refine (num_Mul.calls (wrap64 (Int.tdiv 9223372036854775807 t112)) t112 t121 t122 _ (by rw [Int.tdiv_eq_ediv_of_nonneg (by decide)]; exact A25.out)).mono ?_); rintro e w' ⟨rfl, ⟨nd, rfl⟩⟩; refine ⟨_, rfl, ?_⟩) | ((with_reducible refine gate_callee (f := 22) rfl ?_); refine goesL_ (some 116) rfl rfl Try.func22 (by kernel_rfl) rfl #[.int .i64 a0, .int .i64 0, .int .i64 1099511627776] rfl (by (try simp only [List.map_toArray, List.map_cons, List.map_nil]); first | done | rfl | (simp only [List.length_drop, List.length_take]; rfl)) ?_; (with_reducible refine (klaxonbook_Within.calls a0 0 1099511627776 t123 _ A26.out).mono ?_); rintro e w' ⟨rfl, ⟨nd, rfl⟩⟩; refine ⟨_, rfl, ?_⟩) | (go_at_call 18; (with_reducible refine (num_Up.calls kj15 t123 t112 t124 _ A30.out).mono ?_); rintro e w' ⟨rfl, ⟨nd, rfl⟩⟩) | (go_at_call 18; (with_reducible refine (num_Up.calls kj15 (wrap64 (t123 + 1)) t112 t125 _ A31.out).mono ?_); rintro e w' ⟨rfl, ⟨nd, rfl⟩⟩))
                              go_ret
                              exact ⟨by first | rfl | (simp; done) | (simp [*]; done), by repeat (first | exact Drawn0.refl _ | apply Drawn0.step)⟩
                          · rw [if_neg c29] at H
                            have c29b0 : decide (t121 ≤ 9223372036854775807) = false := decide_eq_false c29
                            clear c29
                            obtain rfl := Option.some.inj H
                            go_wp2_with (first | ((with_reducible refine gate_callee (f := 30) rfl ?_); refine goesL_ (some 104) rfl rfl Try.func30 (by kernel_rfl) rfl #[.int .i64 (wrap64 ((wrap64 (Int.tdiv 9223372036854775807 t112)) + 1)), .int .i64 t112] rfl (by (try simp only [List.map_toArray, List.map_cons, List.map_nil]); first | done | rfl | (simp only [List.length_drop, List.length_take]; rfl)) ?_; (with_reducible refine (num_Mul.calls (wrap64 ((wrap64 (Int.tdiv 9223372036854775807 t112)) + 1)) t112 t119 t120 _ (by rw [Int.tdiv_eq_ediv_of_nonneg (by decide)]; exact A24.out)).mono ?_); rintro e w' ⟨rfl, ⟨nd, rfl⟩⟩; refine ⟨_, rfl, ?_⟩) | ((with_reducible refine gate_callee (f := 30) rfl ?_); refine goesL_ (some 112) rfl rfl Try.func30 (by kernel_rfl) rfl #[.int .i64 (wrap64 (Int.tdiv 9223372036854775807 t112)), .int .i64 t112] rfl (by (try simp only [List.map_toArray, List.map_cons, List.map_nil]); first | done | rfl | (simp only [List.length_drop, List.length_take]; rfl)) ?_; (with_reducible refine (num_Mul.calls (wrap64 (Int.tdiv 9223372036854775807 t112)) t112 t121 t122 _ (by rw [Int.tdiv_eq_ediv_of_nonneg (by decide)]; exact A25.out)).mono ?_); rintro e w' ⟨rfl, ⟨nd, rfl⟩⟩; refine ⟨_, rfl, ?_⟩) | ((with_reducible refine gate_callee (f := 22) rfl ?_); refine goesL_ (some 116) rfl rfl Try.func22 (by kernel_rfl) rfl #[.int .i64 a0, .int .i64 0, .int .i64 1099511627776] rfl (by (try simp only [List.map_toArray, List.map_cons, List.map_nil]); first | done | rfl | (simp only [List.length_drop, List.length_take]; rfl)) ?_; (with_reducible refine (klaxonbook_Within.calls a0 0 1099511627776 t123 _ A26.out).mono ?_); rintro e w' ⟨rfl, ⟨nd, rfl⟩⟩; refine ⟨_, rfl, ?_⟩))
                            go_ret
                            exact ⟨by first | rfl | (simp; done) | (simp [*]; done), by repeat (first | exact Drawn0.refl _ | apply Drawn0.step)⟩
                        · rw [if_neg c28] at H
                          have c28b0 : (t122 == 0) = false := beq_eq_false_iff_ne.mpr c28
                          have c28b1 : (t122 != 0) = true := bne_iff_ne.mpr c28
                          obtain rfl := Option.some.inj H
                          go_wp2_with (first | ((with_reducible refine gate_callee (f := 30) rfl ?_); refine goesL_ (some 104) rfl rfl Try.func30 (by kernel_rfl) rfl #[.int .i64 (wrap64 ((wrap64 (Int.tdiv 9223372036854775807 t112)) + 1)), .int .i64 t112] rfl (by (try simp only [List.map_toArray, List.map_cons, List.map_nil]); first | done | rfl | (simp only [List.length_drop, List.length_take]; rfl)) ?_; (with_reducible refine (num_Mul.calls (wrap64 ((wrap64 (Int.tdiv 9223372036854775807 t112)) + 1)) t112 t119 t120 _ (by rw [Int.tdiv_eq_ediv_of_nonneg (by decide)]; exact A24.out)).mono ?_); rintro e w' ⟨rfl, ⟨nd, rfl⟩⟩; refine ⟨_, rfl, ?_⟩) | ((with_reducible refine gate_callee (f := 30) rfl ?_); refine goesL_ (some 112) rfl rfl Try.func30 (by kernel_rfl) rfl #[.int .i64 (wrap64 (Int.tdiv 9223372036854775807 t112)), .int .i64 t112] rfl (by (try simp only [List.map_toArray, List.map_cons, List.map_nil]); first | done | rfl | (simp only [List.length_drop, List.length_take]; rfl)) ?_; (with_reducible refine (num_Mul.calls (wrap64 (Int.tdiv 9223372036854775807 t112)) t112 t121 t122 _ (by rw [Int.tdiv_eq_ediv_of_nonneg (by decide)]; exact A25.out)).mono ?_); rintro e w' ⟨rfl, ⟨nd, rfl⟩⟩; refine ⟨_, rfl, ?_⟩) | ((with_reducible refine gate_callee (f := 22) rfl ?_); refine goesL_ (some 116) rfl rfl Try.func22 (by kernel_rfl) rfl #[.int .i64 a0, .int .i64 0, .int .i64 1099511627776] rfl (by (try simp only [List.map_toArray, List.map_cons, List.map_nil]); first | done | rfl | (simp only [List.length_drop, List.length_take]; rfl)) ?_; (with_reducible refine (klaxonbook_Within.calls a0 0 1099511627776 t123 _ A26.out).mono ?_); rintro e w' ⟨rfl, ⟨nd, rfl⟩⟩; refine ⟨_, rfl, ?_⟩))
                          go_ret
                          exact ⟨by first | rfl | (simp; done) | (simp [*]; done), by repeat (first | exact Drawn0.refl _ | apply Drawn0.step)⟩
                      · rw [if_neg c27] at H
                        have c27b0 : (t120 == 3) = false := beq_eq_false_iff_ne.mpr c27
                        have c27b1 : (t120 != 3) = true := bne_iff_ne.mpr c27
                        obtain rfl := Option.some.inj H
                        go_wp2_with (first | ((with_reducible refine gate_callee (f := 30) rfl ?_); refine goesL_ (some 104) rfl rfl Try.func30 (by kernel_rfl) rfl #[.int .i64 (wrap64 ((wrap64 (Int.tdiv 9223372036854775807 t112)) + 1)), .int .i64 t112] rfl (by (try simp only [List.map_toArray, List.map_cons, List.map_nil]); first | done | rfl | (simp only [List.length_drop, List.length_take]; rfl)) ?_; (with_reducible refine (num_Mul.calls (wrap64 ((wrap64 (Int.tdiv 9223372036854775807 t112)) + 1)) t112 t119 t120 _ (by rw [Int.tdiv_eq_ediv_of_nonneg (by decide)]; exact A24.out)).mono ?_); rintro e w' ⟨rfl, ⟨nd, rfl⟩⟩; refine ⟨_, rfl, ?_⟩) | ((with_reducible refine gate_callee (f := 30) rfl ?_); refine goesL_ (some 112) rfl rfl Try.func30 (by kernel_rfl) rfl #[.int .i64 (wrap64 (Int.tdiv 9223372036854775807 t112)), .int .i64 t112] rfl (by (try simp only [List.map_toArray, List.map_cons, List.map_nil]); first | done | rfl | (simp only [List.length_drop, List.length_take]; rfl)) ?_; (with_reducible refine (num_Mul.calls (wrap64 (Int.tdiv 9223372036854775807 t112)) t112 t121 t122 _ (by rw [Int.tdiv_eq_ediv_of_nonneg (by decide)]; exact A25.out)).mono ?_); rintro e w' ⟨rfl, ⟨nd, rfl⟩⟩; refine ⟨_, rfl, ?_⟩) | ((with_reducible refine gate_callee (f := 22) rfl ?_); refine goesL_ (some 116) rfl rfl Try.func22 (by kernel_rfl) rfl #[.int .i64 a0, .int .i64 0, .int .i64 1099511627776] rfl (by (try simp only [List.map_toArray, List.map_cons, List.map_nil]); first | done | rfl | (simp only [List.length_drop, List.length_take]; rfl)) ?_; (with_reducible refine (klaxonbook_Within.calls a0 0 1099511627776 t123 _ A26.out).mono ?_); rintro e w' ⟨rfl, ⟨nd, rfl⟩⟩; refine ⟨_, rfl, ?_⟩))
                        go_ret
                        exact ⟨by first | rfl | (simp; done) | (simp [*]; done), by repeat (first | exact Drawn0.refl _ | apply Drawn0.step)⟩

/-- THE ONE PURE STATEMENT of klaxonlaw1_NumOrder: yours. -/
def klaxonlaw1_NumOrder.Pure : Prop := ∀ (a0 : Int) (a1 : Int) (a2 : Int), (Lit.int .i64 a0).wf = true → (Lit.int .i64 a1).wf = true → (Lit.int .i64 a2).wf = true → ∃ k, klaxonlaw1_NumOrder.f k a0 a1 a2 = some true
theorem klaxonlaw1_NumOrder.walk (P : klaxonlaw1_NumOrder.Pure) (a0 : Int) (a1 : Int) (a2 : Int) (w : World) (w0 : (Lit.int .i64 a0).wf = true) (w1 : (Lit.int .i64 a1).wf = true) (w2 : (Lit.int .i64 a2).wf = true) :
    Calls Try.prog 12 #[.int .i64 a0, .int .i64 a1, .int .i64 a2] w fun e w' => e = .returned (.bool true) ∧ Below w.heap.size w w' := by
  obtain ⟨k, h⟩ := P a0 a1 a2 w0 w1 w2
  refine (klaxonlaw1_NumOrder.calls k a0 a1 a2 true w h).mono ?_
  rintro e w' ⟨rfl, hd⟩
  exact ⟨rfl, hd.below⟩

end Go.Proofs.Ytkppbflmlpabjaa.PNumOrder
