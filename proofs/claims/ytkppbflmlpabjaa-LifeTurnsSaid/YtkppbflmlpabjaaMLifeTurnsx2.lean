/- Walks of functions that the law LifeTurns reaches: written by a program of this session (adapt.py) out of a print that fell in Lean; 0 places in it are turned by the session. -/
import Derived.Test.YtkppbflmlpabjaaPLifeTurnsx0
import Derived.Test.YtkppbflmlpabjaaMLifeTurnsx1
namespace Go.Proofs.Ytkppbflmlpabjaa.PLifeTurns
open Go.RowKit Go.Proofs.YtkppbflmlpabjaaW.PrintWords Go.Proofs.YtkppbflmlpabjaaW.PrintLast Go.Proofs.YtkppbflmlpabjaaW.PrintMore
attribute [local go_sem] max2_int min2_int max_two min_two max_three min_three max_four min_four   -- for this text's walks alone
set_option linter.unusedVariables false
set_option linter.unusedSimpArgs false

/-! ### klaxonbook_Within: function 22 -/
def klaxonbook_Within.f (a0 : Int) (a1 : Int) (a2 : Int) : Option (Int) := if (wrap64 ((wrap64 (a2 - a1)) + 1)) = 0 then (none) else (if (Int.tmod a0 (wrap64 ((wrap64 (a2 - a1)) + 1))) < 0 then (some (wrap64 (a1 + (wrap64 ((wrap64 ((wrap64 ((Int.tmod a0 (wrap64 ((wrap64 (a2 - a1)) + 1))) + a2)) - a1)) + 1))))) else (some (wrap64 (a1 + (Int.tmod a0 (wrap64 ((wrap64 (a2 - a1)) + 1)))))))
set_option maxHeartbeats 8000000 in
set_option maxRecDepth 100000 in
theorem klaxonbook_Within.calls (a0 : Int) (a1 : Int) (a2 : Int) (r : Int) (w : World) (h : klaxonbook_Within.f a0 a1 a2 = some r) :
    Calls Try.prog 22 #[.int .i64 a0, .int .i64 a1, .int .i64 a2] w fun e w' => e = .returned (.int .i64 r) ∧ Drawn0 w w' := by
  have H : (if (wrap64 ((wrap64 (a2 - a1)) + 1)) = 0 then (none) else (if (Int.tmod a0 (wrap64 ((wrap64 (a2 - a1)) + 1))) < 0 then (some (wrap64 (a1 + (wrap64 ((wrap64 ((wrap64 ((Int.tmod a0 (wrap64 ((wrap64 (a2 - a1)) + 1))) + a2)) - a1)) + 1))))) else (some (wrap64 (a1 + (Int.tmod a0 (wrap64 ((wrap64 (a2 - a1)) + 1)))))))) = some r := h
  clear h
  by_cases c4 : (wrap64 ((wrap64 (a2 - a1)) + 1)) = 0
  · rw [if_pos c4] at H
    exact absurd H (by simp)
  · rw [if_neg c4] at H
    have c4b0 : ((wrap64 ((wrap64 (a2 - a1)) + 1)) == 0) = false := beq_eq_false_iff_ne.mpr c4
    have c4b1 : ((wrap64 ((wrap64 (a2 - a1)) + 1)) != 0) = true := bne_iff_ne.mpr c4
    by_cases c5 : (Int.tmod a0 (wrap64 ((wrap64 (a2 - a1)) + 1))) < 0
    · rw [if_pos c5] at H
      have c5b0 : decide ((Int.tmod a0 (wrap64 ((wrap64 (a2 - a1)) + 1))) < 0) = true := decide_eq_true c5
      clear c5
      obtain rfl := Option.some.inj H
      go_enter Try.func22, Try.ntmps22
      go_wp2
      go_ret
      exact ⟨by first | rfl | (simp; done) | (simp [*]; done), by repeat (first | exact Drawn0.refl _ | apply Drawn0.step)⟩
    · rw [if_neg c5] at H
      have c5b0 : decide ((Int.tmod a0 (wrap64 ((wrap64 (a2 - a1)) + 1))) < 0) = false := decide_eq_false c5
      clear c5
      obtain rfl := Option.some.inj H
      go_enter Try.func22, Try.ntmps22
      go_wp2
      go_ret
      exact ⟨by first | rfl | (simp; done) | (simp [*]; done), by repeat (first | exact Drawn0.refl _ | apply Drawn0.step)⟩

/-! ### klaxonlaw12_LifeTurns: function 8 -/
mutual
def klaxonlaw12_LifeTurns.j1 : Nat → List Int → Option (Bool)
  | 0, _ => none
  | k + 1, x3 => (life_Turns.f k x3).bind fun t138 => (klaxonlaw12_LifeTurns.l1 k x3 t138 0 0 (x3.length : Int) 0)
def klaxonlaw12_LifeTurns.l1 : Nat → List Int → List (S48) → Int → Int → Int → Int → Option (Bool)
  | 0, _, _, _, _, _, _ => none
  | k + 1, x3, x5, x6, x7, x30, x31 => if x31 < x30 then (if x7 < (x5.length : Int) then (if 0 ≤ x7 then (klaxonlaw12_LifeTurns.j3 k x3 x5 x6 x7 x31 x30 x31 (((rd_T48 x5 x7).f0) == x31)) else (none)) else (klaxonlaw12_LifeTurns.j3 k x3 x5 x6 x7 x31 x30 x31 false)) else (if x7 = (x5.length : Int) then ((life_Turns.f k ([] : List Int)).bind fun t141 => (if (t141.length : Int) = 0 then ((klaxonlaw12_LifeRuns.f k).bind fun t144 => (some t144)) else (some false))) else (some false))
def klaxonlaw12_LifeTurns.j3 : Nat → List Int → List (S48) → Int → Int → Int → Int → Int → Bool → Option (Bool)
  | 0, _, _, _, _, _, _, _, _ => none
  | k + 1, x3, x5, x6, x7, x8, x30, x31, x46 => if x46 = true then (if 0 ≤ x7 then (if x7 < (x5.length : Int) then (if ((rd_T48 x5 x7).f1) = x6 then (klaxonlaw12_LifeTurns.j4 k x3 x5 x7 x8 x30 x31 true) else (klaxonlaw12_LifeTurns.j4 k x3 x5 x7 x8 x30 x31 ((((rd_T48 x5 x7).f2).length : Int) != 0))) else (none)) else (none)) else (if 0 ≤ x8 then (if x8 < (x3.length : Int) then (if x6 = (rd x3 x8) then (klaxonlaw12_LifeTurns.l1 k x3 x5 x6 x7 x30 (wrap64 (x31 + 1))) else (some false)) else (none)) else (none))
def klaxonlaw12_LifeTurns.j4 : Nat → List Int → List (S48) → Int → Int → Int → Int → Bool → Option (Bool)
  | 0, _, _, _, _, _, _, _ => none
  | k + 1, x3, x5, x7, x8, x30, x31, x62 => if x62 = true then (some false) else (if 0 ≤ x7 then (if x7 < (x5.length : Int) then (if 0 ≤ x8 then (if x8 < (x3.length : Int) then (if ((rd_T48 x5 x7).f1) = (rd x3 x8) then (klaxonlaw12_LifeTurns.l1 k x3 x5 ((rd_T48 x5 x7).f1) (wrap64 (x7 + 1)) x30 (wrap64 (x31 + 1))) else (some false)) else (none)) else (none)) else (none)) else (none))
def klaxonlaw12_LifeTurns.l0 : Nat → List Int → List Int → Int → Option (Bool)
  | 0, _, _, _ => none
  | k + 1, x0, x3, x4 => if x4 < (x0.length : Int) then (if x4 < 40 then (if 0 ≤ x4 then ((klaxonbook_Within.f (rd x0 x4) 0 2).bind fun t134 => (if x3.length < 17592186044416 then (klaxonlaw12_LifeTurns.l0 k x0 (x3 ++ [t134]) (wrap64 (x4 + 1))) else (none))) else (none)) else (klaxonlaw12_LifeTurns.j1 k x3)) else (klaxonlaw12_LifeTurns.j1 k x3)
end
def klaxonlaw12_LifeTurns.f (k : Nat) (l0 : List Int) : Option (Bool) := klaxonlaw12_LifeTurns.l0 k l0 ([] : List Int) 0
theorem klaxonlaw12_LifeTurns.mono_l : ∀ k, (∀ y0, LeO (klaxonlaw12_LifeTurns.j1 k y0) (klaxonlaw12_LifeTurns.j1 (k + 1) y0)) ∧ (∀ y0 y1 y2 y3 y4 y5, LeO (klaxonlaw12_LifeTurns.l1 k y0 y1 y2 y3 y4 y5) (klaxonlaw12_LifeTurns.l1 (k + 1) y0 y1 y2 y3 y4 y5)) ∧ (∀ y0 y1 y2 y3 y4 y5 y6 y7, LeO (klaxonlaw12_LifeTurns.j3 k y0 y1 y2 y3 y4 y5 y6 y7) (klaxonlaw12_LifeTurns.j3 (k + 1) y0 y1 y2 y3 y4 y5 y6 y7)) ∧ (∀ y0 y1 y2 y3 y4 y5 y6, LeO (klaxonlaw12_LifeTurns.j4 k y0 y1 y2 y3 y4 y5 y6) (klaxonlaw12_LifeTurns.j4 (k + 1) y0 y1 y2 y3 y4 y5 y6)) ∧ (∀ y0 y1 y2, LeO (klaxonlaw12_LifeTurns.l0 k y0 y1 y2) (klaxonlaw12_LifeTurns.l0 (k + 1) y0 y1 y2))
  | 0 => ⟨fun _ r h => by simp [klaxonlaw12_LifeTurns.j1] at h, fun _ _ _ _ _ _ r h => by simp [klaxonlaw12_LifeTurns.l1] at h, fun _ _ _ _ _ _ _ _ r h => by simp [klaxonlaw12_LifeTurns.j3] at h, fun _ _ _ _ _ _ _ r h => by simp [klaxonlaw12_LifeTurns.j4] at h, fun _ _ _ r h => by simp [klaxonlaw12_LifeTurns.l0] at h⟩
  | k + 1 => by
    obtain ⟨ih0, ih1, ih2, ih3, ih4⟩ := klaxonlaw12_LifeTurns.mono_l k
    refine ⟨?_, ?_, ?_, ?_, ?_⟩
    · intro y0
      unfold klaxonlaw12_LifeTurns.j1
      repeat' first
      | (with_reducible exact ih0 _)
      | (with_reducible exact ih1 _ _ _ _ _ _)
      | (with_reducible exact ih2 _ _ _ _ _ _ _ _)
      | (with_reducible exact ih3 _ _ _ _ _ _ _)
      | (with_reducible exact ih4 _ _ _)
      | (with_reducible exact klaxonlaw12_LifeRuns.mono _)
      | (with_reducible exact life_Turns.mono _ _)
      | (with_reducible exact LeO.refl _)
      | (with_reducible exact LeO.none _)
      | (with_reducible refine LeO.ite ?_ ?_)
      | (with_reducible refine LeO.bind ?_ (fun _ => ?_))
      | exact ih0 _
      | exact ih1 _ _ _ _ _ _
      | exact ih2 _ _ _ _ _ _ _ _
      | exact ih3 _ _ _ _ _ _ _
      | exact ih4 _ _ _
      | exact klaxonlaw12_LifeRuns.mono _
      | exact life_Turns.mono _ _
      | exact LeO.none _
      | refine LeO.ite ?_ ?_
      | refine LeO.bind ?_ (fun _ => ?_)
    · intro y0 y1 y2 y3 y4 y5
      unfold klaxonlaw12_LifeTurns.l1
      repeat' first
      | (with_reducible exact ih0 _)
      | (with_reducible exact ih1 _ _ _ _ _ _)
      | (with_reducible exact ih2 _ _ _ _ _ _ _ _)
      | (with_reducible exact ih3 _ _ _ _ _ _ _)
      | (with_reducible exact ih4 _ _ _)
      | (with_reducible exact klaxonlaw12_LifeRuns.mono _)
      | (with_reducible exact life_Turns.mono _ _)
      | (with_reducible exact LeO.refl _)
      | (with_reducible exact LeO.none _)
      | (with_reducible refine LeO.ite ?_ ?_)
      | (with_reducible refine LeO.bind ?_ (fun _ => ?_))
      | exact ih0 _
      | exact ih1 _ _ _ _ _ _
      | exact ih2 _ _ _ _ _ _ _ _
      | exact ih3 _ _ _ _ _ _ _
      | exact ih4 _ _ _
      | exact klaxonlaw12_LifeRuns.mono _
      | exact life_Turns.mono _ _
      | exact LeO.none _
      | refine LeO.ite ?_ ?_
      | refine LeO.bind ?_ (fun _ => ?_)
    · intro y0 y1 y2 y3 y4 y5 y6 y7
      unfold klaxonlaw12_LifeTurns.j3
      repeat' first
      | (with_reducible exact ih0 _)
      | (with_reducible exact ih1 _ _ _ _ _ _)
      | (with_reducible exact ih2 _ _ _ _ _ _ _ _)
      | (with_reducible exact ih3 _ _ _ _ _ _ _)
      | (with_reducible exact ih4 _ _ _)
      | (with_reducible exact klaxonlaw12_LifeRuns.mono _)
      | (with_reducible exact life_Turns.mono _ _)
      | (with_reducible exact LeO.refl _)
      | (with_reducible exact LeO.none _)
      | (with_reducible refine LeO.ite ?_ ?_)
      | (with_reducible refine LeO.bind ?_ (fun _ => ?_))
      | exact ih0 _
      | exact ih1 _ _ _ _ _ _
      | exact ih2 _ _ _ _ _ _ _ _
      | exact ih3 _ _ _ _ _ _ _
      | exact ih4 _ _ _
      | exact klaxonlaw12_LifeRuns.mono _
      | exact life_Turns.mono _ _
      | exact LeO.none _
      | refine LeO.ite ?_ ?_
      | refine LeO.bind ?_ (fun _ => ?_)
    · intro y0 y1 y2 y3 y4 y5 y6
      unfold klaxonlaw12_LifeTurns.j4
      repeat' first
      | (with_reducible exact ih0 _)
      | (with_reducible exact ih1 _ _ _ _ _ _)
      | (with_reducible exact ih2 _ _ _ _ _ _ _ _)
      | (with_reducible exact ih3 _ _ _ _ _ _ _)
      | (with_reducible exact ih4 _ _ _)
      | (with_reducible exact klaxonlaw12_LifeRuns.mono _)
      | (with_reducible exact life_Turns.mono _ _)
      | (with_reducible exact LeO.refl _)
      | (with_reducible exact LeO.none _)
      | (with_reducible refine LeO.ite ?_ ?_)
      | (with_reducible refine LeO.bind ?_ (fun _ => ?_))
      | exact ih0 _
      | exact ih1 _ _ _ _ _ _
      | exact ih2 _ _ _ _ _ _ _ _
      | exact ih3 _ _ _ _ _ _ _
      | exact ih4 _ _ _
      | exact klaxonlaw12_LifeRuns.mono _
      | exact life_Turns.mono _ _
      | exact LeO.none _
      | refine LeO.ite ?_ ?_
      | refine LeO.bind ?_ (fun _ => ?_)
    · intro y0 y1 y2
      unfold klaxonlaw12_LifeTurns.l0
      repeat' first
      | (with_reducible exact ih0 _)
      | (with_reducible exact ih1 _ _ _ _ _ _)
      | (with_reducible exact ih2 _ _ _ _ _ _ _ _)
      | (with_reducible exact ih3 _ _ _ _ _ _ _)
      | (with_reducible exact ih4 _ _ _)
      | (with_reducible exact klaxonlaw12_LifeRuns.mono _)
      | (with_reducible exact life_Turns.mono _ _)
      | (with_reducible exact LeO.refl _)
      | (with_reducible exact LeO.none _)
      | (with_reducible refine LeO.ite ?_ ?_)
      | (with_reducible refine LeO.bind ?_ (fun _ => ?_))
      | exact ih0 _
      | exact ih1 _ _ _ _ _ _
      | exact ih2 _ _ _ _ _ _ _ _
      | exact ih3 _ _ _ _ _ _ _
      | exact ih4 _ _ _
      | exact klaxonlaw12_LifeRuns.mono _
      | exact life_Turns.mono _ _
      | exact LeO.none _
      | refine LeO.ite ?_ ?_
      | refine LeO.bind ?_ (fun _ => ?_)
theorem klaxonlaw12_LifeTurns.mono : ∀ a0 k, LeO (klaxonlaw12_LifeTurns.f k a0) (klaxonlaw12_LifeTurns.f (k + 1) a0) := by
  intro a0 k
  obtain ⟨ih0, ih1, ih2, ih3, ih4⟩ := klaxonlaw12_LifeTurns.mono_l k
  unfold klaxonlaw12_LifeTurns.f
  repeat' first
      | (with_reducible exact ih0 _)
      | (with_reducible exact ih1 _ _ _ _ _ _)
      | (with_reducible exact ih2 _ _ _ _ _ _ _ _)
      | (with_reducible exact ih3 _ _ _ _ _ _ _)
      | (with_reducible exact ih4 _ _ _)
      | (with_reducible exact klaxonlaw12_LifeRuns.mono _)
      | (with_reducible exact life_Turns.mono _ _)
      | (with_reducible exact LeO.refl _)
      | (with_reducible exact LeO.none _)
      | (with_reducible refine LeO.ite ?_ ?_)
      | (with_reducible refine LeO.bind ?_ (fun _ => ?_))
      | exact ih0 _
      | exact ih1 _ _ _ _ _ _
      | exact ih2 _ _ _ _ _ _ _ _
      | exact ih3 _ _ _ _ _ _ _
      | exact ih4 _ _ _
      | exact klaxonlaw12_LifeRuns.mono _
      | exact life_Turns.mono _ _
      | exact LeO.none _
      | refine LeO.ite ?_ ?_
      | refine LeO.bind ?_ (fun _ => ?_)
set_option maxHeartbeats 8000000 in
set_option maxRecDepth 100000 in
theorem klaxonlaw12_LifeTurns.calls (k : Nat) (A0 : Option Addr) (c0 : Nat) (l0 : List Int) (r : Bool) (w : World) (hr0 : Kd.C (Kd.int .i64) w A0 l0.length l0) (hc0 : l0.length ≤ c0) (h : klaxonlaw12_LifeTurns.f k l0 = some r) :
    Calls Try.prog 8 #[.slice A0 l0.length c0] w fun e w' => e = .returned (.bool r) ∧ Below w.heap.size w w' := by
  have HR0 := Aside0.mk hr0
  have HC0 := Aside0.mk hc0
  clear hr0 hc0
  have HB := Aside0.mk (Below.refl w.heap.size w)
  have H : (klaxonlaw12_LifeTurns.l0 k l0 ([] : List Int) 0) = some r := h
  clear h
  have HC2 := Aside0.mk H
  clear H
  go_enter Try.func8, Try.ntmps8
  go_upto_block 0 with (fail)
  go_cut [3] (fun v3 wc => ∃ (kq : Nat) (x3_1 : List Int), Aside0 (klaxonlaw12_LifeTurns.j1 kq x3_1 = some r) ∧ Aside0 (kq ≤ k) ∧ Aside0 (Kd.R (Kd.int .i64) 3 wc w.heap.size (fun _ => True) v3 x3_1) ∧ Aside0 (Below w.heap.size w wc))
  case first =>
    have H := HC2.out
    clear HC2
    have H' := Aside0.mk H
    clear H
    go_wp2
    go_loopg [3, 4] k (fun kq v3 v4 w' => ∃ (x3_1 : List Int) (x4_1 : Int), v4 = .int .i64 x4_1 ∧ Aside0 (klaxonlaw12_LifeTurns.l0 kq l0 x3_1 x4_1 = some r) ∧ Aside0 (kq ≤ k) ∧ Aside0 (Kd.R (Kd.int .i64) 3 w' w.heap.size (fun _ => True) v3 x3_1) ∧ Aside0 (Below w.heap.size w w'))
    case atStart => exact ⟨(([] : List Int)), (0), (by first | rfl | (simp; done) | (simp [*]; done)), H', ⟨Nat.le_refl _⟩, ⟨by first | exact Kd.R_nil _ _ _ _ _ | exact Kd.N_nil _ _ _ _ _ | exact Kd.V_nil _ _ _ _ _ | exact Kd.Q_nil _ _ _ _ _ | exact Kd.S_nil _ _ _ _ _⟩, ⟨by repeat (first | (with_reducible first | exact HB.out | apply below_alloc | apply pw_below_drewN | apply below_drew1) | exact HB.out)⟩⟩
    case round =>
      clear H'
      try clear p2
      obtain ⟨x3_1, x4_1, rfl, HA, HK1, HO_3, HB⟩ := hrel
      cases gk with
      | zero => exact absurd HA.out (by simp [klaxonlaw12_LifeTurns.l0])
      | succ k1 =>
        have H := HA.out
        clear HA
        simp only [klaxonlaw12_LifeTurns.l0] at H
        by_cases c3 : x4_1 < (l0.length : Int)
        · rw [if_pos c3] at H
          have c3b0 : decide (x4_1 < (l0.length : Int)) = true := decide_eq_true c3
          clear c3
          (first | rw [c3b0] | (simp only [i64_w, i32_w]; rw [c3b0]) | skip)
          by_cases c4 : x4_1 < 40
          · rw [if_pos c4] at H
            have c4b0 : decide (x4_1 < 40) = true := decide_eq_true c4
            clear c4
            by_cases c5 : 0 ≤ x4_1
            · rw [if_pos c5] at H
              have c5b0 : decide (0 ≤ x4_1) = true := decide_eq_true c5
              clear c5
              replace H := Option.bind_eq_some_iff.mp H
              obtain ⟨t134, A60, H⟩ := H
              replace H : (if x3_1.length < 17592186044416 then (klaxonlaw12_LifeTurns.l0 k1 l0 (x3_1 ++ [t134]) (wrap64 (x4_1 + 1))) else (none)) = some r := H
              have A6 := Aside0.mk A60
              clear A60
              by_cases c7 : x3_1.length < 17592186044416
              · rw [if_pos c7] at H
                have LMc7 := Aside0.mk c7
                clear c7
                obtain ⟨y135, hy135⟩ : ∃ y_ : List Int, y_ = (x3_1 ++ [t134]) := ⟨_, rfl⟩
                replace H : (klaxonlaw12_LifeTurns.l0 k1 l0 y135 (wrap64 (x4_1 + 1))) = some r := by first | (rw [hy135]; with_reducible exact H) | (have H2_ := (Option.bind_some _ _).symm.trans H; rw [hy135]; with_reducible exact H2_) | (have H2_ := (Option.bind_some _ _).symm.trans H; with_reducible exact H2_) | with_reducible exact H | (rw [hy135]; exact H) | exact H
                have Ny135 := Aside0.mk hy135
                clear hy135
                have H' := Aside0.mk H
                clear H
                have p133 : 0 ≤ (x4_1 : Int) := of_decide_eq_true (by first | (with_reducible assumption) | assumption)
                have q133 : x4_1 < (l0.length : Int) := of_decide_eq_true (by first | (with_reducible assumption) | assumption)
                obtain ⟨ad133, e133, hx133_0⟩ := Kd.at_int HR0.out x4_1 p133 q133
                cases e133
                replace hx133_0 := (HB.out.cell (World.block_lt_of_cell? w _ hx133_0)).trans hx133_0
                replace p133 := eq_true p133
                replace q133 := eq_true q133
                go_wp2_with (first | ((with_reducible refine gate_callee (f := 22) rfl ?_); refine goesL_ (some 24) rfl rfl Try.func22 (by kernel_rfl) rfl #[.int .i64 (rd l0 x4_1), .int .i64 0, .int .i64 2] rfl (by (try simp only [List.map_toArray, List.map_cons, List.map_nil]); first | done | rfl | (simp only [List.length_drop, List.length_take]; rfl)) ?_; (with_reducible refine (klaxonbook_Within.calls (rd l0 x4_1) 0 2 t134 _ A6.out).mono ?_); rintro e w' ⟨rfl, ⟨nd, rfl⟩⟩; refine ⟨_, rfl, ?_⟩) | ((with_reducible refine gate_builtin (b := .append) (xs := #[.tmp 19, .tmp 25]) rfl ?_); (try (refine gate_guard (by rfl) ?_; dsimp only)); at_builtin; refine Kd.R_append (Kd.int .i64) (w0 := w) w.heap.size rfl (.tmp 19) (.tmp 25) 27 3 (.int .i64 0) 8 rfl Try.underlying27 info3 rfl (by decide) (by omega) u3 x3_1 t134 [.int .i64 t134] (fun _ => True) (fun _ => False) rfl rfl ?aP (fun _ hk => hk.elim) ?aF ?aO ?aB ?aS ?aL ?_; (case aP => exact rfl); (case aB => exact (by repeat (first | (with_reducible first | exact HB.out | apply below_alloc | apply pw_below_drewN | apply below_drew1) | exact HB.out))); (case aF => exact (fun _ _ => trivial)); (case aO => exact (by (with_reducible repeat (first | apply Kd.R_alloc | apply Kd.R_drewN | apply Kd.R_drew)); exact HO_3.out)); (case aS => exact (below_size (by repeat (first | (with_reducible first | exact HB.out | apply below_alloc | apply pw_below_drewN | apply below_drew1) | exact HB.out)))); (case aL => have := LMc7.out; omega); intro v136 w8 ho hb hg hat; rw [← Ny135.out] at ho; have n0_ := Aside0.mk (hb); have n1_ := Aside0.mk (ho); clear HB; clear HO_3; have HB := n0_; have HO137 := n1_; clear n0_ n1_; clear ho hb hg hat))
                go_roundg k1
                case measure => have := HK1.out; omega
                case rel => exact ⟨(y135), (wrap64 (x4_1 + 1)), (by first | rfl | (simp; done) | (simp [*]; done)), H', ⟨by have := HK1.out; omega⟩, ⟨by (with_reducible repeat (first | apply Kd.R_alloc | apply Kd.R_drewN | apply Kd.R_drew)); exact HO137.out⟩, ⟨by repeat (first | (with_reducible first | exact HB.out | apply below_alloc | apply pw_below_drewN | apply below_drew1) | exact HB.out)⟩⟩
              · rw [if_neg c7] at H
                exact absurd H (by simp)
            · rw [if_neg c5] at H
              exact absurd H (by simp)
          · rw [if_neg c4] at H
            have c4b0 : decide (x4_1 < 40) = false := decide_eq_false c4
            clear c4
            have H' := Aside0.mk H
            clear H
            go_wp2
            go_meet
            case rel => exact ⟨_, (x3_1), H', ⟨by have := HK1.out; first | omega | exact Nat.le_refl _⟩, ⟨by (with_reducible repeat (first | apply Kd.R_alloc | apply Kd.R_drewN | apply Kd.R_drew)); exact HO_3.out⟩, ⟨by repeat (first | (with_reducible first | exact HB.out | apply below_alloc | apply pw_below_drewN | apply below_drew1) | exact HB.out)⟩⟩
        · rw [if_neg c3] at H
          have c3b0 : decide (x4_1 < (l0.length : Int)) = false := decide_eq_false c3
          clear c3
          (first | rw [c3b0] | (simp only [i64_w, i32_w]; rw [c3b0]) | skip)
          have H' := Aside0.mk H
          clear H
          go_wp2
          go_meet
          case rel => exact ⟨_, (x3_1), H', ⟨by have := HK1.out; first | omega | exact Nat.le_refl _⟩, ⟨by (with_reducible repeat (first | apply Kd.R_alloc | apply Kd.R_drewN | apply Kd.R_drew)); exact HO_3.out⟩, ⟨by repeat (first | (with_reducible first | exact HB.out | apply below_alloc | apply pw_below_drewN | apply below_drew1) | exact HB.out)⟩⟩
  case rest =>
    clear HC2
    try clear p1
    try clear q1
    try clear hx1
    try clear c2
    try clear p2
    try clear c3
    try clear c3b0
    try clear c4
    try clear c4b0
    try clear c5
    try clear c5b0
    try clear p6
    try clear c7
    try clear c8
    try clear hx133_0
    try clear p133
    try clear p2
    try clear q133
    obtain ⟨kq, x3_1, HA, HJ1, HO_3, HB⟩ := hcut
    cases kq with
    | zero => exact absurd HA.out (by simp [klaxonlaw12_LifeTurns.j1])
    | succ kj1 =>
      have H := HA.out
      clear HA
      simp only [klaxonlaw12_LifeTurns.j1] at H
      replace H := Option.bind_eq_some_iff.mp H
      obtain ⟨t138, A90, H⟩ := H
      replace H : (klaxonlaw12_LifeTurns.l1 kj1 x3_1 t138 0 0 (x3_1.length : Int) 0) = some r := H
      have A9 := Aside0.mk A90
      clear A90
      have H' := Aside0.mk H
      clear H
      obtain ⟨Ao10, co10, eo10⟩ := Kd.R_slice HO_3.out
      subst eo10
      go_wp2_with (first | ((with_reducible refine gate_callee (f := 26) rfl ?_); refine goesL_ (some 28) rfl rfl Try.func26 (by kernel_rfl) rfl #[.slice Ao10 x3_1.length co10] rfl (by (try simp only [List.map_toArray, List.map_cons, List.map_nil]); first | done | rfl | (simp only [List.length_drop, List.length_take]; rfl)) ?_; (with_reducible refine (life_Turns.calls kj1 _ _ x3_1 t138 _ ?side1 ?side2 A9.out).mono ?_); (case side1 => repeat (first | exact (Kd.R_reads' HO_3.out).2.2 | (with_reducible refine Kd.C_alloc ?_ _) | (with_reducible refine Kd.C_drewN ?_ _) | (with_reducible refine Kd.C_drew ?_))); (case side2 => exact (Kd.R_reads' HO_3.out).2.1); rintro e w11 ⟨v139, rfl, ho0, hb⟩; refine ⟨_, rfl, ?_⟩; have n0_ := Aside0.mk (Kd.R_below (by (with_reducible repeat (first | apply Kd.R_alloc | apply Kd.R_drewN | apply Kd.R_drew)); exact HO_3.out) hb); have n1_ := Aside0.mk (Kd.S_lower ho0 (below_size (by repeat (first | (with_reducible first | exact HB.out | apply below_alloc | apply pw_below_drewN | apply below_drew1) | exact HB.out)))); have n2_ := Aside0.mk (below_step (by repeat (first | (with_reducible first | exact HB.out | apply below_alloc | apply pw_below_drewN | apply below_drew1) | exact HB.out)) hb); clear HO_3; clear HB; have HO_3 := n0_; have HO140 := n1_; have HB := n2_; clear n0_ n1_ n2_; (try clear hb); (try clear hb2); (try clear hk); (try clear hi); (try clear ho0)))
      go_loopg [6, 7, 31] kj1 (fun kq v6 v7 v31 w' => ∃ (x6_2 : Int) (x7_2 : Int) (x31_2 : Int), v6 = .int .i64 x6_2 ∧ v7 = .int .i64 x7_2 ∧ v31 = .int .i64 x31_2 ∧ Aside0 (klaxonlaw12_LifeTurns.l1 kq x3_1 t138 x6_2 x7_2 (x3_1.length : Int) x31_2 = some r) ∧ Aside0 (kq ≤ kj1) ∧ Aside0 (Kd.R (Kd.int .i64) 3 w' w.heap.size (fun _ => True) (.slice Ao10 x3_1.length co10) x3_1) ∧ Aside0 (Kd.S k48 48 w' w.heap.size (fun _ => True) v139 t138) ∧ Aside0 (Below w.heap.size w w'))
      case atStart => exact ⟨(0), (0), (0), (by first | rfl | (simp; done) | (simp [*]; done)), (by first | rfl | (simp; done) | (simp [*]; done)), (by first | rfl | (simp; done) | (simp [*]; done)), H', ⟨Nat.le_refl _⟩, ⟨by (with_reducible repeat (first | apply Kd.R_alloc | apply Kd.R_drewN | apply Kd.R_drew)); exact HO_3.out⟩, ⟨by (with_reducible repeat (first | apply Kd.S_alloc | apply Kd.S_drewN | apply Kd.S_drew)); exact HO140.out⟩, ⟨by repeat (first | (with_reducible first | exact HB.out | apply below_alloc | apply pw_below_drewN | apply below_drew1) | exact HB.out)⟩⟩
      case round =>
        clear H'
        try clear p1
        try clear q1
        try clear hx1
        try clear c2
        try clear p2
        try clear c3
        try clear c3b0
        try clear c4
        try clear c4b0
        try clear c5
        try clear c5b0
        try clear p6
        try clear c7
        try clear c8
        try clear hx133_0
        try clear p1
        try clear p133
        try clear p2
        try clear p6
        try clear q1
        try clear q133
        obtain ⟨x6_2, x7_2, x31_2, rfl, rfl, rfl, HA, HK2, HO_3, HO_5, HB⟩ := hrel
        cases gk with
        | zero => exact absurd HA.out (by simp [klaxonlaw12_LifeTurns.l1])
        | succ k2 =>
          have H := HA.out
          clear HA
          simp only [klaxonlaw12_LifeTurns.l1] at H
          by_cases c12 : x31_2 < (x3_1.length : Int)
          · rw [if_pos c12] at H
            have c12b0 : decide (x31_2 < (x3_1.length : Int)) = true := decide_eq_true c12
            clear c12
            have HC13 := Aside0.mk H
            clear H
            go_upto_region 11 with (fail)
            go_cut [46] (fun v46 wc => ∃ (kq : Nat) (x46_12 : Bool), v46 = .bool x46_12 ∧ Aside0 (klaxonlaw12_LifeTurns.j3 kq x3_1 t138 x6_2 x7_2 x31_2 (x3_1.length : Int) x31_2 x46_12 = some r) ∧ Aside0 (kq ≤ k2) ∧ Aside0 (Kd.R (Kd.int .i64) 3 wc w.heap.size (fun _ => True) (.slice Ao10 x3_1.length co10) x3_1) ∧ Aside0 (Kd.S k48 48 wc w.heap.size (fun _ => True) v139 t138) ∧ Aside0 (Below w.heap.size w wc))
            case first =>
              have H := HC13.out
              clear HC13
              by_cases c14 : x7_2 < (t138.length : Int)
              · rw [if_pos c14] at H
                have c14b0 : decide (x7_2 < (t138.length : Int)) = true := decide_eq_true c14
                clear c14
                (first | rw [c14b0] | (simp only [i64_w, i32_w]; rw [c14b0]) | skip)
                by_cases c15 : 0 ≤ x7_2
                · rw [if_pos c15] at H
                  have c15b0 : decide (0 ≤ x7_2) = true := decide_eq_true c15
                  clear c15
                  have H' := Aside0.mk H
                  clear H
                  obtain ⟨Ao16, co16, eo16⟩ := Kd.S_slice HO_5.out
                  subst eo16
                  have p145 : 0 ≤ (x7_2 : Int) := of_decide_eq_true (by first | (with_reducible assumption) | assumption)
                  have q145 : x7_2 < (t138.length : Int) := of_decide_eq_true (by first | (with_reducible assumption) | assumption)
                  obtain ⟨ad145, A145_2, c145_2, e145, hx145_0, hx145_1, hx145_2, hl145_2, hi145_2⟩ := at_T48 (Kd.S_reads' HO_5.out).2.2 x7_2 p145 q145
                  cases e145
                  obtain ⟨ce145, hce145, hMe145, hcc145⟩ := Kd.S_get HO_5.out z48 x7_2 p145 (by first | exact q145 | exact of_decide_eq_true (by first | (with_reducible assumption) | assumption) | (have e_ := (Kd.S_reads' HO_5.out).1; omega))
                  obtain ⟨ve145_2, rfl, ge145_2⟩ := k48_openM hMe145
                  have hv145_2 := hcc145 2 _ rfl
                  rw [add_field _ _ 2 (by omega)] at hv145_2
                  replace hv145_2 := Option.some.inj (hv145_2.symm.trans hx145_2)
                  rw [hv145_2] at ge145_2
                  have HL145_2 := Aside0.mk (show Kd.R k86 86 _ _ _ _ ((rd_T48 t138 x7_2).f2) from ge145_2)
                  clear hv145_2 ge145_2
                  clear hcc145 hce145
                  have HR145_2 := Aside0.mk hi145_2
                  have HC145_2 := Aside0.mk hl145_2
                  clear hi145_2 hl145_2
                  replace p145 := eq_true p145
                  replace q145 := eq_true q145
                  go_wp2
                  go_meet
                  case rel => exact ⟨_, ((((rd_T48 t138 x7_2).f0) == x31_2)), (by first | rfl | (simp; done) | (simp [*]; done)), H', ⟨by have := HJ1.out; have := HK2.out; first | omega | exact Nat.le_refl _⟩, ⟨by (with_reducible repeat (first | apply Kd.R_alloc | apply Kd.R_drewN | apply Kd.R_drew)); exact HO_3.out⟩, ⟨by (with_reducible repeat (first | apply Kd.S_alloc | apply Kd.S_drewN | apply Kd.S_drew)); exact HO_5.out⟩, ⟨by repeat (first | (with_reducible first | exact HB.out | apply below_alloc | apply pw_below_drewN | apply below_drew1) | exact HB.out)⟩⟩
                · rw [if_neg c15] at H
                  exact absurd H (by simp)
              · rw [if_neg c14] at H
                have c14b0 : decide (x7_2 < (t138.length : Int)) = false := decide_eq_false c14
                clear c14
                (first | rw [c14b0] | (simp only [i64_w, i32_w]; rw [c14b0]) | skip)
                have H' := Aside0.mk H
                clear H
                obtain ⟨Ao17, co17, eo17⟩ := Kd.S_slice HO_5.out
                subst eo17
                go_wp2
                go_meet
                case rel => exact ⟨_, (false), (by first | rfl | (simp; done) | (simp [*]; done)), H', ⟨by have := HJ1.out; have := HK2.out; first | omega | exact Nat.le_refl _⟩, ⟨by (with_reducible repeat (first | apply Kd.R_alloc | apply Kd.R_drewN | apply Kd.R_drew)); exact HO_3.out⟩, ⟨by (with_reducible repeat (first | apply Kd.S_alloc | apply Kd.S_drewN | apply Kd.S_drew)); exact HO_5.out⟩, ⟨by repeat (first | (with_reducible first | exact HB.out | apply below_alloc | apply pw_below_drewN | apply below_drew1) | exact HB.out)⟩⟩
            case rest =>
              clear HC13
              try clear c1
              try clear p1
              try clear q1
              try clear hx1
              try clear c2
              try clear p2
              try clear c3
              try clear c3b0
              try clear c4
              try clear c4b0
              try clear c5
              try clear c5b0
              try clear p6
              try clear c7
              try clear c8
              try clear c12
              try clear c12b0
              try clear p13
              try clear q13
              try clear hx13
              try clear c14
              try clear c14b0
              try clear p14
              try clear q14
              try clear hx14
              try clear c15
              try clear c15b0
              try clear hx133_0
              try clear hx145_0
              try clear hx145_1
              try clear hx145_2
              try clear p1
              try clear p133
              try clear p145
              try clear p2
              try clear p6
              try clear q1
              try clear q133
              try clear q145
              obtain ⟨kq, x46_12, rfl, HA, HJ12, HO_3, HO_5, HB⟩ := hcut
              cases kq with
              | zero => exact absurd HA.out (by simp [klaxonlaw12_LifeTurns.j3])
              | succ kj12 =>
                have H := HA.out
                clear HA
                simp only [klaxonlaw12_LifeTurns.j3] at H
                by_cases c18 : x46_12 = true
                · subst c18
                  have H1 : (if 0 ≤ x7_2 then (if x7_2 < (t138.length : Int) then (if ((rd_T48 t138 x7_2).f1) = x6_2 then (klaxonlaw12_LifeTurns.j4 kj12 x3_1 t138 x7_2 x31_2 (x3_1.length : Int) x31_2 true) else (klaxonlaw12_LifeTurns.j4 kj12 x3_1 t138 x7_2 x31_2 (x3_1.length : Int) x31_2 ((((rd_T48 t138 x7_2).f2).length : Int) != 0))) else (none)) else (none)) = some r := by rw [if_pos rfl] at H; exact H
                  clear H
                  have H := H1
                  clear H1
                  have HC19 := Aside0.mk H
                  clear H
                  go_upto_region 12 with (fail)
                  go_cut [62] (fun v62 wc => ∃ (kq : Nat) (x62_18 : Bool), v62 = .bool x62_18 ∧ Aside0 (klaxonlaw12_LifeTurns.j4 kq x3_1 t138 x7_2 x31_2 (x3_1.length : Int) x31_2 x62_18 = some r) ∧ Aside0 (kq ≤ kj12) ∧ Aside0 (Kd.R (Kd.int .i64) 3 wc w.heap.size (fun _ => True) (.slice Ao10 x3_1.length co10) x3_1) ∧ Aside0 (Kd.S k48 48 wc w.heap.size (fun _ => True) v139 t138) ∧ Aside0 (Below w.heap.size w wc))
                  case first =>
                    have H := HC19.out
                    clear HC19
                    by_cases c20 : 0 ≤ x7_2
                    · rw [if_pos c20] at H
                      have c20b0 : decide (0 ≤ x7_2) = true := decide_eq_true c20
                      clear c20
                      (first | rw [c20b0] | (simp only [i64_w, i32_w]; rw [c20b0]) | skip)
                      by_cases c21 : x7_2 < (t138.length : Int)
                      · rw [if_pos c21] at H
                        have c21b0 : decide (x7_2 < (t138.length : Int)) = true := decide_eq_true c21
                        clear c21
                        by_cases c22 : ((rd_T48 t138 x7_2).f1) = x6_2
                        · rw [if_pos c22] at H
                          have c22b0 : (((rd_T48 t138 x7_2).f1) == x6_2) = true := beq_iff_eq.mpr c22
                          have c22b1 : (((rd_T48 t138 x7_2).f1) != x6_2) = false := bne_eq_false_iff_eq.mpr c22
                          clear c22
                          have H' := Aside0.mk H
                          clear H
                          obtain ⟨Ao23, co23, eo23⟩ := Kd.S_slice HO_5.out
                          subst eo23
                          have p146 : 0 ≤ (x7_2 : Int) := of_decide_eq_true (by first | (with_reducible assumption) | assumption)
                          have q146 : x7_2 < (t138.length : Int) := of_decide_eq_true (by first | (with_reducible assumption) | assumption)
                          obtain ⟨ad146, A146_2, c146_2, e146, hx146_0, hx146_1, hx146_2, hl146_2, hi146_2⟩ := at_T48 (Kd.S_reads' HO_5.out).2.2 x7_2 p146 q146
                          cases e146
                          obtain ⟨ce146, hce146, hMe146, hcc146⟩ := Kd.S_get HO_5.out z48 x7_2 p146 (by first | exact q146 | exact of_decide_eq_true (by first | (with_reducible assumption) | assumption) | (have e_ := (Kd.S_reads' HO_5.out).1; omega))
                          obtain ⟨ve146_2, rfl, ge146_2⟩ := k48_openM hMe146
                          have hv146_2 := hcc146 2 _ rfl
                          rw [add_field _ _ 2 (by omega)] at hv146_2
                          replace hv146_2 := Option.some.inj (hv146_2.symm.trans hx146_2)
                          rw [hv146_2] at ge146_2
                          have HL146_2 := Aside0.mk (show Kd.R k86 86 _ _ _ _ ((rd_T48 t138 x7_2).f2) from ge146_2)
                          clear hv146_2 ge146_2
                          clear hcc146 hce146
                          have HR146_2 := Aside0.mk hi146_2
                          have HC146_2 := Aside0.mk hl146_2
                          clear hi146_2 hl146_2
                          replace p146 := eq_true p146
                          replace q146 := eq_true q146
                          go_wp2
                          go_meet
                          case rel => exact ⟨_, (true), (by first | rfl | (simp; done) | (simp [*]; done)), H', ⟨by have := HJ1.out; have := HK2.out; have := HJ12.out; first | omega | exact Nat.le_refl _⟩, ⟨by (with_reducible repeat (first | apply Kd.R_alloc | apply Kd.R_drewN | apply Kd.R_drew)); exact HO_3.out⟩, ⟨by (with_reducible repeat (first | apply Kd.S_alloc | apply Kd.S_drewN | apply Kd.S_drew)); exact HO_5.out⟩, ⟨by repeat (first | (with_reducible first | exact HB.out | apply below_alloc | apply pw_below_drewN | apply below_drew1) | exact HB.out)⟩⟩
                        · rw [if_neg c22] at H
                          have c22b0 : (((rd_T48 t138 x7_2).f1) == x6_2) = false := beq_eq_false_iff_ne.mpr c22
                          have c22b1 : (((rd_T48 t138 x7_2).f1) != x6_2) = true := bne_iff_ne.mpr c22
                          have H' := Aside0.mk H
                          clear H
                          obtain ⟨Ao24, co24, eo24⟩ := Kd.S_slice HO_5.out
                          subst eo24
                          have p146 : 0 ≤ (x7_2 : Int) := of_decide_eq_true (by first | (with_reducible assumption) | assumption)
                          have q146 : x7_2 < (t138.length : Int) := of_decide_eq_true (by first | (with_reducible assumption) | assumption)
                          obtain ⟨ad146, A146_2, c146_2, e146, hx146_0, hx146_1, hx146_2, hl146_2, hi146_2⟩ := at_T48 (Kd.S_reads' HO_5.out).2.2 x7_2 p146 q146
                          cases e146
                          obtain ⟨ce146, hce146, hMe146, hcc146⟩ := Kd.S_get HO_5.out z48 x7_2 p146 (by first | exact q146 | exact of_decide_eq_true (by first | (with_reducible assumption) | assumption) | (have e_ := (Kd.S_reads' HO_5.out).1; omega))
                          obtain ⟨ve146_2, rfl, ge146_2⟩ := k48_openM hMe146
                          have hv146_2 := hcc146 2 _ rfl
                          rw [add_field _ _ 2 (by omega)] at hv146_2
                          replace hv146_2 := Option.some.inj (hv146_2.symm.trans hx146_2)
                          rw [hv146_2] at ge146_2
                          have HL146_2 := Aside0.mk (show Kd.R k86 86 _ _ _ _ ((rd_T48 t138 x7_2).f2) from ge146_2)
                          clear hv146_2 ge146_2
                          clear hcc146 hce146
                          have HR146_2 := Aside0.mk hi146_2
                          have HC146_2 := Aside0.mk hl146_2
                          clear hi146_2 hl146_2
                          replace p146 := eq_true p146
                          replace q146 := eq_true q146
                          have p147 : 0 ≤ (x7_2 : Int) := of_decide_eq_true (by first | (with_reducible assumption) | assumption)
                          have q147 : x7_2 < (t138.length : Int) := of_decide_eq_true (by first | (with_reducible assumption) | assumption)
                          obtain ⟨ad147, A147_2, c147_2, e147, hx147_0, hx147_1, hx147_2, hl147_2, hi147_2⟩ := at_T48 (Kd.S_reads' HO_5.out).2.2 x7_2 p147 q147
                          obtain rfl : ad146 = ad147 := (by injection e147)
                          obtain ⟨ce147, hce147, hMe147, hcc147⟩ := Kd.S_get HO_5.out z48 x7_2 p147 (by first | exact q147 | exact of_decide_eq_true (by first | (with_reducible assumption) | assumption) | (have e_ := (Kd.S_reads' HO_5.out).1; omega))
                          obtain ⟨ve147_2, rfl, ge147_2⟩ := k48_openM hMe147
                          have hv147_2 := hcc147 2 _ rfl
                          rw [add_field _ _ 2 (by omega)] at hv147_2
                          replace hv147_2 := Option.some.inj (hv147_2.symm.trans hx147_2)
                          rw [hv147_2] at ge147_2
                          have HL147_2 := Aside0.mk (show Kd.R k86 86 _ _ _ _ ((rd_T48 t138 x7_2).f2) from ge147_2)
                          clear hv147_2 ge147_2
                          clear hcc147 hce147
                          have HR147_2 := Aside0.mk hi147_2
                          have HC147_2 := Aside0.mk hl147_2
                          clear hi147_2 hl147_2
                          replace p147 := eq_true p147
                          replace q147 := eq_true q147
                          have ea_ := Option.some.inj (hx146_2.symm.trans hx147_2)
                          injection ea_ with ea_ en_ ec_
                          subst ea_
                          subst ec_
                          clear en_
                          go_wp2
                          go_meet
                          case rel => exact ⟨_, (((((rd_T48 t138 x7_2).f2).length : Int) != 0)), (by first | rfl | (simp; done) | (simp [*]; done)), H', ⟨by have := HJ1.out; have := HK2.out; have := HJ12.out; first | omega | exact Nat.le_refl _⟩, ⟨by (with_reducible repeat (first | apply Kd.R_alloc | apply Kd.R_drewN | apply Kd.R_drew)); exact HO_3.out⟩, ⟨by (with_reducible repeat (first | apply Kd.S_alloc | apply Kd.S_drewN | apply Kd.S_drew)); exact HO_5.out⟩, ⟨by repeat (first | (with_reducible first | exact HB.out | apply below_alloc | apply pw_below_drewN | apply below_drew1) | exact HB.out)⟩⟩
                      · rw [if_neg c21] at H
                        exact absurd H (by simp)
                    · rw [if_neg c20] at H
                      exact absurd H (by simp)
                  case rest =>
                    clear HC19
                    try clear c1
                    try clear p1
                    try clear q1
                    try clear hx1
                    try clear c2
                    try clear p2
                    try clear c3
                    try clear c3b0
                    try clear c4
                    try clear c4b0
                    try clear c5
                    try clear c5b0
                    try clear p6
                    try clear c7
                    try clear c8
                    try clear c12
                    try clear c12b0
                    try clear p13
                    try clear q13
                    try clear hx13
                    try clear c14
                    try clear c14b0
                    try clear p14
                    try clear q14
                    try clear hx14
                    try clear c15
                    try clear c15b0
                    try clear c18
                    try clear c20
                    try clear c20b0
                    try clear c21
                    try clear c21b0
                    try clear c22
                    try clear c22b0
                    try clear c22b1
                    try clear hx133_0
                    try clear hx145_0
                    try clear hx145_1
                    try clear hx145_2
                    try clear hx146_0
                    try clear hx146_1
                    try clear hx146_2
                    try clear hx147_0
                    try clear hx147_1
                    try clear hx147_2
                    try clear p1
                    try clear p13
                    try clear p133
                    try clear p14
                    try clear p145
                    try clear p146
                    try clear p147
                    try clear p2
                    try clear p6
                    try clear q1
                    try clear q13
                    try clear q133
                    try clear q14
                    try clear q145
                    try clear q146
                    try clear q147
                    obtain ⟨kq, x62_18, rfl, HA, HJ18, HO_3, HO_5, HB⟩ := hcut
                    cases kq with
                    | zero => exact absurd HA.out (by simp [klaxonlaw12_LifeTurns.j4])
                    | succ kj18 =>
                      have H := HA.out
                      clear HA
                      simp only [klaxonlaw12_LifeTurns.j4] at H
                      by_cases c25 : x62_18 = true
                      · subst c25
                        have H1 : (some false) = some r := by rw [if_pos rfl] at H; exact H
                        clear H
                        have H := H1
                        clear H1
                        obtain rfl := Option.some.inj H
                        go_wp2
                        go_ret
                        exact ⟨by first | rfl | (simp [errW_none, errW_some] <;> rfl) | (simp [*, errW_none, errW_some] <;> rfl), by repeat (first | (with_reducible first | exact HB.out | apply below_alloc | apply pw_below_drewN | apply below_drew1) | exact HB.out)⟩
                      · replace c25 := Bool.eq_false_iff.mpr c25
                        subst c25
                        have H1 : (if 0 ≤ x7_2 then (if x7_2 < (t138.length : Int) then (if 0 ≤ x31_2 then (if x31_2 < (x3_1.length : Int) then (if ((rd_T48 t138 x7_2).f1) = (rd x3_1 x31_2) then (klaxonlaw12_LifeTurns.l1 kj18 x3_1 t138 ((rd_T48 t138 x7_2).f1) (wrap64 (x7_2 + 1)) (x3_1.length : Int) (wrap64 (x31_2 + 1))) else (some false)) else (none)) else (none)) else (none)) else (none)) = some r := by rw [if_neg (show ¬ (false = true) by decide)] at H; exact H
                        clear H
                        have H := H1
                        clear H1
                        by_cases c26 : 0 ≤ x7_2
                        · rw [if_pos c26] at H
                          have c26b0 : decide (0 ≤ x7_2) = true := decide_eq_true c26
                          clear c26
                          by_cases c27 : x7_2 < (t138.length : Int)
                          · rw [if_pos c27] at H
                            have c27b0 : decide (x7_2 < (t138.length : Int)) = true := decide_eq_true c27
                            clear c27
                            by_cases c28 : 0 ≤ x31_2
                            · rw [if_pos c28] at H
                              have c28b0 : decide (0 ≤ x31_2) = true := decide_eq_true c28
                              clear c28
                              by_cases c29 : x31_2 < (x3_1.length : Int)
                              · rw [if_pos c29] at H
                                have c29b0 : decide (x31_2 < (x3_1.length : Int)) = true := decide_eq_true c29
                                clear c29
                                by_cases c30 : ((rd_T48 t138 x7_2).f1) = (rd x3_1 x31_2)
                                · rw [if_pos c30] at H
                                  have c30b0 : (((rd_T48 t138 x7_2).f1) == (rd x3_1 x31_2)) = true := beq_iff_eq.mpr c30
                                  have c30b1 : (((rd_T48 t138 x7_2).f1) != (rd x3_1 x31_2)) = false := bne_eq_false_iff_eq.mpr c30
                                  clear c30
                                  have H' := Aside0.mk H
                                  clear H
                                  obtain ⟨Ao31, co31, eo31⟩ := Kd.S_slice HO_5.out
                                  subst eo31
                                  have p148 : 0 ≤ (x7_2 : Int) := of_decide_eq_true (by first | (with_reducible assumption) | assumption)
                                  have q148 : x7_2 < (t138.length : Int) := of_decide_eq_true (by first | (with_reducible assumption) | assumption)
                                  obtain ⟨ad148, A148_2, c148_2, e148, hx148_0, hx148_1, hx148_2, hl148_2, hi148_2⟩ := at_T48 (Kd.S_reads' HO_5.out).2.2 x7_2 p148 q148
                                  cases e148
                                  obtain ⟨ce148, hce148, hMe148, hcc148⟩ := Kd.S_get HO_5.out z48 x7_2 p148 (by first | exact q148 | exact of_decide_eq_true (by first | (with_reducible assumption) | assumption) | (have e_ := (Kd.S_reads' HO_5.out).1; omega))
                                  obtain ⟨ve148_2, rfl, ge148_2⟩ := k48_openM hMe148
                                  have hv148_2 := hcc148 2 _ rfl
                                  rw [add_field _ _ 2 (by omega)] at hv148_2
                                  replace hv148_2 := Option.some.inj (hv148_2.symm.trans hx148_2)
                                  rw [hv148_2] at ge148_2
                                  have HL148_2 := Aside0.mk (show Kd.R k86 86 _ _ _ _ ((rd_T48 t138 x7_2).f2) from ge148_2)
                                  clear hv148_2 ge148_2
                                  clear hcc148 hce148
                                  have HR148_2 := Aside0.mk hi148_2
                                  have HC148_2 := Aside0.mk hl148_2
                                  clear hi148_2 hl148_2
                                  replace p148 := eq_true p148
                                  replace q148 := eq_true q148
                                  have p149 : 0 ≤ (x31_2 : Int) := of_decide_eq_true (by first | (with_reducible assumption) | assumption)
                                  have q149 : x31_2 < (x3_1.length : Int) := of_decide_eq_true (by first | (with_reducible assumption) | assumption)
                                  obtain ⟨ad149, e149, hx149_0⟩ := Kd.at_int (Kd.R_reads' HO_3.out).2.2 x31_2 p149 q149
                                  cases e149
                                  replace p149 := eq_true p149
                                  replace q149 := eq_true q149
                                  go_wp2
                                  go_roundg kj18
                                  case measure => have := HJ1.out; have := HK2.out; have := HJ12.out; have := HJ18.out; omega
                                  case rel => exact ⟨((rd_T48 t138 x7_2).f1), (wrap64 (x7_2 + 1)), (wrap64 (x31_2 + 1)), (by first | rfl | (simp; done) | (simp [*]; done)), (by first | rfl | (simp; done) | (simp [*]; done)), (by first | rfl | (simp; done) | (simp [*]; done)), H', ⟨by have := HJ1.out; have := HK2.out; have := HJ12.out; have := HJ18.out; omega⟩, ⟨by (with_reducible repeat (first | apply Kd.R_alloc | apply Kd.R_drewN | apply Kd.R_drew)); exact HO_3.out⟩, ⟨by (with_reducible repeat (first | apply Kd.S_alloc | apply Kd.S_drewN | apply Kd.S_drew)); exact HO_5.out⟩, ⟨by repeat (first | (with_reducible first | exact HB.out | apply below_alloc | apply pw_below_drewN | apply below_drew1) | exact HB.out)⟩⟩
                                · rw [if_neg c30] at H
                                  have c30b0 : (((rd_T48 t138 x7_2).f1) == (rd x3_1 x31_2)) = false := beq_eq_false_iff_ne.mpr c30
                                  have c30b1 : (((rd_T48 t138 x7_2).f1) != (rd x3_1 x31_2)) = true := bne_iff_ne.mpr c30
                                  obtain rfl := Option.some.inj H
                                  obtain ⟨Ao32, co32, eo32⟩ := Kd.S_slice HO_5.out
                                  subst eo32
                                  have p148 : 0 ≤ (x7_2 : Int) := of_decide_eq_true (by first | (with_reducible assumption) | assumption)
                                  have q148 : x7_2 < (t138.length : Int) := of_decide_eq_true (by first | (with_reducible assumption) | assumption)
                                  obtain ⟨ad148, A148_2, c148_2, e148, hx148_0, hx148_1, hx148_2, hl148_2, hi148_2⟩ := at_T48 (Kd.S_reads' HO_5.out).2.2 x7_2 p148 q148
                                  cases e148
                                  obtain ⟨ce148, hce148, hMe148, hcc148⟩ := Kd.S_get HO_5.out z48 x7_2 p148 (by first | exact q148 | exact of_decide_eq_true (by first | (with_reducible assumption) | assumption) | (have e_ := (Kd.S_reads' HO_5.out).1; omega))
                                  obtain ⟨ve148_2, rfl, ge148_2⟩ := k48_openM hMe148
                                  have hv148_2 := hcc148 2 _ rfl
                                  rw [add_field _ _ 2 (by omega)] at hv148_2
                                  replace hv148_2 := Option.some.inj (hv148_2.symm.trans hx148_2)
                                  rw [hv148_2] at ge148_2
                                  have HL148_2 := Aside0.mk (show Kd.R k86 86 _ _ _ _ ((rd_T48 t138 x7_2).f2) from ge148_2)
                                  clear hv148_2 ge148_2
                                  clear hcc148 hce148
                                  have HR148_2 := Aside0.mk hi148_2
                                  have HC148_2 := Aside0.mk hl148_2
                                  clear hi148_2 hl148_2
                                  replace p148 := eq_true p148
                                  replace q148 := eq_true q148
                                  have p149 : 0 ≤ (x31_2 : Int) := of_decide_eq_true (by first | (with_reducible assumption) | assumption)
                                  have q149 : x31_2 < (x3_1.length : Int) := of_decide_eq_true (by first | (with_reducible assumption) | assumption)
                                  obtain ⟨ad149, e149, hx149_0⟩ := Kd.at_int (Kd.R_reads' HO_3.out).2.2 x31_2 p149 q149
                                  cases e149
                                  replace p149 := eq_true p149
                                  replace q149 := eq_true q149
                                  go_wp2
                                  go_ret
                                  exact ⟨by first | rfl | (simp [errW_none, errW_some] <;> rfl) | (simp [*, errW_none, errW_some] <;> rfl), by repeat (first | (with_reducible first | exact HB.out | apply below_alloc | apply pw_below_drewN | apply below_drew1) | exact HB.out)⟩
                              · rw [if_neg c29] at H
                                exact absurd H (by simp)
                            · rw [if_neg c28] at H
                              exact absurd H (by simp)
                          · rw [if_neg c27] at H
                            exact absurd H (by simp)
                        · rw [if_neg c26] at H
                          exact absurd H (by simp)
                · replace c18 := Bool.eq_false_iff.mpr c18
                  subst c18
                  have H1 : (if 0 ≤ x31_2 then (if x31_2 < (x3_1.length : Int) then (if x6_2 = (rd x3_1 x31_2) then (klaxonlaw12_LifeTurns.l1 kj12 x3_1 t138 x6_2 x7_2 (x3_1.length : Int) (wrap64 (x31_2 + 1))) else (some false)) else (none)) else (none)) = some r := by rw [if_neg (show ¬ (false = true) by decide)] at H; exact H
                  clear H
                  have H := H1
                  clear H1
                  by_cases c33 : 0 ≤ x31_2
                  · rw [if_pos c33] at H
                    have c33b0 : decide (0 ≤ x31_2) = true := decide_eq_true c33
                    clear c33
                    by_cases c34 : x31_2 < (x3_1.length : Int)
                    · rw [if_pos c34] at H
                      have c34b0 : decide (x31_2 < (x3_1.length : Int)) = true := decide_eq_true c34
                      clear c34
                      by_cases c35 : x6_2 = (rd x3_1 x31_2)
                      · rw [if_pos c35] at H
                        have c35b0 : (x6_2 == (rd x3_1 x31_2)) = true := beq_iff_eq.mpr c35
                        have c35b1 : (x6_2 != (rd x3_1 x31_2)) = false := bne_eq_false_iff_eq.mpr c35
                        clear c35
                        have H' := Aside0.mk H
                        clear H
                        have p150 : 0 ≤ (x31_2 : Int) := of_decide_eq_true (by first | (with_reducible assumption) | assumption)
                        have q150 : x31_2 < (x3_1.length : Int) := of_decide_eq_true (by first | (with_reducible assumption) | assumption)
                        obtain ⟨ad150, e150, hx150_0⟩ := Kd.at_int (Kd.R_reads' HO_3.out).2.2 x31_2 p150 q150
                        cases e150
                        replace p150 := eq_true p150
                        replace q150 := eq_true q150
                        go_wp2
                        go_roundg kj12
                        case measure => have := HJ1.out; have := HK2.out; have := HJ12.out; omega
                        case rel => exact ⟨(x6_2), (x7_2), (wrap64 (x31_2 + 1)), (by first | rfl | (simp; done) | (simp [*]; done)), (by first | rfl | (simp; done) | (simp [*]; done)), (by first | rfl | (simp; done) | (simp [*]; done)), H', ⟨by have := HJ1.out; have := HK2.out; have := HJ12.out; omega⟩, ⟨by (with_reducible repeat (first | apply Kd.R_alloc | apply Kd.R_drewN | apply Kd.R_drew)); exact HO_3.out⟩, ⟨by (with_reducible repeat (first | apply Kd.S_alloc | apply Kd.S_drewN | apply Kd.S_drew)); exact HO_5.out⟩, ⟨by repeat (first | (with_reducible first | exact HB.out | apply below_alloc | apply pw_below_drewN | apply below_drew1) | exact HB.out)⟩⟩
                      · rw [if_neg c35] at H
                        have c35b0 : (x6_2 == (rd x3_1 x31_2)) = false := beq_eq_false_iff_ne.mpr c35
                        have c35b1 : (x6_2 != (rd x3_1 x31_2)) = true := bne_iff_ne.mpr c35
                        obtain rfl := Option.some.inj H
                        have p150 : 0 ≤ (x31_2 : Int) := of_decide_eq_true (by first | (with_reducible assumption) | assumption)
                        have q150 : x31_2 < (x3_1.length : Int) := of_decide_eq_true (by first | (with_reducible assumption) | assumption)
                        obtain ⟨ad150, e150, hx150_0⟩ := Kd.at_int (Kd.R_reads' HO_3.out).2.2 x31_2 p150 q150
                        cases e150
                        replace p150 := eq_true p150
                        replace q150 := eq_true q150
                        go_wp2
                        go_ret
                        exact ⟨by first | rfl | (simp [errW_none, errW_some] <;> rfl) | (simp [*, errW_none, errW_some] <;> rfl), by repeat (first | (with_reducible first | exact HB.out | apply below_alloc | apply pw_below_drewN | apply below_drew1) | exact HB.out)⟩
                    · rw [if_neg c34] at H
                      exact absurd H (by simp)
                  · rw [if_neg c33] at H
                    exact absurd H (by simp)
          · rw [if_neg c12] at H
            have c12b0 : decide (x31_2 < (x3_1.length : Int)) = false := decide_eq_false c12
            clear c12
            by_cases c36 : x7_2 = (t138.length : Int)
            · rw [if_pos c36] at H
              have c36b0 : (x7_2 == (t138.length : Int)) = true := beq_iff_eq.mpr c36
              have c36b1 : (x7_2 != (t138.length : Int)) = false := bne_eq_false_iff_eq.mpr c36
              clear c36
              replace H := Option.bind_eq_some_iff.mp H
              obtain ⟨t141, A370, H⟩ := H
              replace H : (if (t141.length : Int) = 0 then ((klaxonlaw12_LifeRuns.f k2).bind fun t144 => (some t144)) else (some false)) = some r := H
              have A37 := Aside0.mk A370
              clear A370
              by_cases c38 : (t141.length : Int) = 0
              · rw [if_pos c38] at H
                have c38b0 : ((t141.length : Int) == 0) = true := beq_iff_eq.mpr c38
                have c38b1 : ((t141.length : Int) != 0) = false := bne_eq_false_iff_eq.mpr c38
                clear c38
                replace H := Option.bind_eq_some_iff.mp H
                obtain ⟨t144, A390, H⟩ := H
                replace H : (some t144) = some r := H
                have A39 := Aside0.mk A390
                clear A390
                obtain rfl := Option.some.inj H
                obtain ⟨Ao40, co40, eo40⟩ := Kd.S_slice HO_5.out
                subst eo40
                go_wp2_with (first | (go_at_call 26; (refine (life_Turns.calls k2 _ _ ([] : List Int) t141 _ ?side1 ?side2 A37.out).mono ?_); (case side1 => exact Kd.C_nil _ _); (case side2 => exact Nat.le_refl _); rintro e w41 ⟨v142, rfl, ho0, hb⟩; have n0_ := Aside0.mk (Kd.R_below (by (with_reducible repeat (first | apply Kd.R_alloc | apply Kd.R_drewN | apply Kd.R_drew)); exact HO_3.out) hb); have n1_ := Aside0.mk (Kd.S_elder' (by (with_reducible repeat (first | apply Kd.S_alloc | apply Kd.S_drewN | apply Kd.S_drew)); exact HO_5.out) (Kd.S_base ho0) hb); have n2_ := Aside0.mk (Kd.S_lower (Kd.S_new' ho0 (Kd.S_lt (by (with_reducible repeat (first | apply Kd.S_alloc | apply Kd.S_drewN | apply Kd.S_drew)); exact HO_5.out))) (below_size (by repeat (first | (with_reducible first | exact HB.out | apply below_alloc | apply pw_below_drewN | apply below_drew1) | exact HB.out)))); have n3_ := Aside0.mk (below_step (by repeat (first | (with_reducible first | exact HB.out | apply below_alloc | apply pw_below_drewN | apply below_drew1) | exact HB.out)) hb); clear HO_3; clear HO_5; clear HB; have HO_3 := n0_; have HO_5 := n1_; have HO143 := n2_; have HB := n3_; clear n0_ n1_ n2_ n3_; (try clear hb); (try clear hb2); (try clear hk); (try clear hi); (try clear ho0); obtain ⟨Ao42, co42, eo42⟩ := Kd.S_slice HO143.out; subst eo42) | (go_at_call 5; (with_reducible refine (klaxonlaw12_LifeRuns.calls k2  t144 _ A39.out).mono ?_); rintro e w43 ⟨rfl, hb⟩; have n0_ := Aside0.mk (Kd.R_below (by (with_reducible repeat (first | apply Kd.R_alloc | apply Kd.R_drewN | apply Kd.R_drew)); exact HO_3.out) hb); have n1_ := Aside0.mk (Kd.S_below (by (with_reducible repeat (first | apply Kd.S_alloc | apply Kd.S_drewN | apply Kd.S_drew)); exact HO_5.out) hb); have n2_ := Aside0.mk (Kd.S_below (by (with_reducible repeat (first | apply Kd.S_alloc | apply Kd.S_drewN | apply Kd.S_drew)); exact HO143.out) hb); have n3_ := Aside0.mk (below_step (by repeat (first | (with_reducible first | exact HB.out | apply below_alloc | apply pw_below_drewN | apply below_drew1) | exact HB.out)) hb); clear HO_3; clear HO_5; clear HO143; clear HB; have HO_3 := n0_; have HO_5 := n1_; have HO143 := n2_; have HB := n3_; clear n0_ n1_ n2_ n3_; (try clear hb); (try clear hb2); (try clear hk); (try clear hi)))
                go_ret
                exact ⟨by first | rfl | (simp [errW_none, errW_some] <;> rfl) | (simp [*, errW_none, errW_some] <;> rfl), by repeat (first | (with_reducible first | exact HB.out | apply below_alloc | apply pw_below_drewN | apply below_drew1) | exact HB.out)⟩
              · rw [if_neg c38] at H
                have c38b0 : ((t141.length : Int) == 0) = false := beq_eq_false_iff_ne.mpr c38
                have c38b1 : ((t141.length : Int) != 0) = true := bne_iff_ne.mpr c38
                have c38b2 : ¬ (t141 = []) := fun h_ => c38 (by rw [h_]; rfl)
                obtain rfl := Option.some.inj H
                obtain ⟨Ao44, co44, eo44⟩ := Kd.S_slice HO_5.out
                subst eo44
                go_wp2_with (first | (go_at_call 26; (refine (life_Turns.calls k2 _ _ ([] : List Int) t141 _ ?side1 ?side2 A37.out).mono ?_); (case side1 => exact Kd.C_nil _ _); (case side2 => exact Nat.le_refl _); rintro e w45 ⟨v142, rfl, ho0, hb⟩; have n0_ := Aside0.mk (Kd.R_below (by (with_reducible repeat (first | apply Kd.R_alloc | apply Kd.R_drewN | apply Kd.R_drew)); exact HO_3.out) hb); have n1_ := Aside0.mk (Kd.S_elder' (by (with_reducible repeat (first | apply Kd.S_alloc | apply Kd.S_drewN | apply Kd.S_drew)); exact HO_5.out) (Kd.S_base ho0) hb); have n2_ := Aside0.mk (Kd.S_lower (Kd.S_new' ho0 (Kd.S_lt (by (with_reducible repeat (first | apply Kd.S_alloc | apply Kd.S_drewN | apply Kd.S_drew)); exact HO_5.out))) (below_size (by repeat (first | (with_reducible first | exact HB.out | apply below_alloc | apply pw_below_drewN | apply below_drew1) | exact HB.out)))); have n3_ := Aside0.mk (below_step (by repeat (first | (with_reducible first | exact HB.out | apply below_alloc | apply pw_below_drewN | apply below_drew1) | exact HB.out)) hb); clear HO_3; clear HO_5; clear HB; have HO_3 := n0_; have HO_5 := n1_; have HO143 := n2_; have HB := n3_; clear n0_ n1_ n2_ n3_; (try clear hb); (try clear hb2); (try clear hk); (try clear hi); (try clear ho0); obtain ⟨Ao46, co46, eo46⟩ := Kd.S_slice HO143.out; subst eo46))
                go_ret
                exact ⟨by first | rfl | (simp [errW_none, errW_some] <;> rfl) | (simp [*, errW_none, errW_some] <;> rfl), by repeat (first | (with_reducible first | exact HB.out | apply below_alloc | apply pw_below_drewN | apply below_drew1) | exact HB.out)⟩
            · rw [if_neg c36] at H
              have c36b0 : (x7_2 == (t138.length : Int)) = false := beq_eq_false_iff_ne.mpr c36
              have c36b1 : (x7_2 != (t138.length : Int)) = true := bne_iff_ne.mpr c36
              obtain rfl := Option.some.inj H
              obtain ⟨Ao47, co47, eo47⟩ := Kd.S_slice HO_5.out
              subst eo47
              go_wp2
              go_ret
              exact ⟨by first | rfl | (simp [errW_none, errW_some] <;> rfl) | (simp [*, errW_none, errW_some] <;> rfl), by repeat (first | (with_reducible first | exact HB.out | apply below_alloc | apply pw_below_drewN | apply below_drew1) | exact HB.out)⟩

/-- THE ONE PURE STATEMENT of klaxonlaw12_LifeTurns: yours. -/
def klaxonlaw12_LifeTurns.Pure : Prop := ∀ (l0 : List Int), l0.length ≤ maxLen → l0.length * 8 ≤ 140737488351232 → (∀ x ∈ l0, (Lit.int .i64 x).wf = true) → ∃ k, klaxonlaw12_LifeTurns.f k l0 = some true
theorem klaxonlaw12_LifeTurns.walk (P : klaxonlaw12_LifeTurns.Pure) (a0 : Option Addr) (len0 cap0 : Nat) (z0 : List Int) (w : World) (w0 : (a0 = none ∧ len0 = 0 ∧ cap0 = 0 ∧ z0 = []) ∨ ∃ x, a0 = some x ∧ len0 ≤ cap0 ∧ cap0 ≤ maxLen ∧ z0.length = cap0 ∧ (∀ i, i < z0.length → w.cell? (x.add i) = some (.int .i64 (z0.getD i 0))) ∧ ∀ n ∈ z0, (Lit.int .i64 n).wf = true) (y0 : len0 * 8 ≤ 140737488351232) :
    Calls Try.prog 8 #[.slice a0 len0 cap0] w fun e w' => e = .returned (.bool true) ∧ Below w.heap.size w w' := by
  obtain ⟨l0, rfl, hr0, hm0, hw0, hc0⟩ := ReadsInt.ofRowC w0
  obtain ⟨k, h⟩ := P l0 hm0 y0 hw0
  refine (klaxonlaw12_LifeTurns.calls k _ _ l0 true w (Kd.C_of_reads (d := (0 : Int)) (h1 := fun _ => rfl) hr0) hc0 h).mono ?_
  rintro e w' ⟨rfl, hd⟩
  exact ⟨rfl, hd⟩

end Go.Proofs.Ytkppbflmlpabjaa.PLifeTurns
