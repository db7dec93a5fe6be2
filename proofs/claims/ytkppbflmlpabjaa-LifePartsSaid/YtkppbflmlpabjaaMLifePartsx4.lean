/- Walks of functions that the law LifeParts reaches: written by a program of this session (adapt.py) out of a print that fell in Lean; 1 places in it are turned by the session. -/
import Derived.Test.YtkppbflmlpabjaaPLifePartsx0
import Derived.Test.YtkppbflmlpabjaaPLifePartsx1
import Derived.Test.YtkppbflmlpabjaaMLifePartsx2
import Derived.Test.YtkppbflmlpabjaaMLifePartsx3
namespace Go.Proofs.Ytkppbflmlpabjaa.PLifeParts
open Go.RowKit Go.Proofs.YtkppbflmlpabjaaW.PrintWords Go.Proofs.YtkppbflmlpabjaaW.PrintLast Go.Proofs.YtkppbflmlpabjaaW.PrintMore
attribute [local go_sem] max2_int min2_int max_two min_two max_three min_three max_four min_four   -- for this text's walks alone
set_option linter.unusedVariables false
set_option linter.unusedSimpArgs false

attribute [local go_sem high] eqA41
/-! ### klaxonlaw12_LifeParts: function 9 -/
mutual
def klaxonlaw12_LifeParts.l0 : Nat → Int → List Bool → Int → Int → Int → Int → List Int → Int → Int → Int → Int → Option (Bool)
  | 0, _, _, _, _, _, _, _, _, _, _, _ => none
  | k + 1, x5, x13, x14, x15, x16, x17, x18, x20, x148000, x148001, x148002 => if x20 < x17 then (if 0 ≤ x20 then (if x20 < (x13.length : Int) then ((life_Life_Next.f k x148000 x148001 x148002 x20 x14 x15 x16 (rdOf false x13 x20)).bind fun bt149 => (klaxonlaw12_LifeParts.l0 k x5 x13 x14 x15 x16 x17 x18 (wrap64 (x20 + 1)) bt149.1 bt149.2.1 bt149.2.2)) else (none)) else (none)) else (klaxonlaw12_LifeParts.l1 k x5 x13 x14 x15 x16 x17 x18 x17 x148000 x148001 x148002 x148000 x148001 x148002)
def klaxonlaw12_LifeParts.l1 : Nat → Int → List Bool → Int → Int → Int → Int → List Int → Int → Int → Int → Int → Int → Int → Int → Option (Bool)
  | 0, _, _, _, _, _, _, _, _, _, _, _, _, _, _ => none
  | k + 1, x5, x13, x14, x15, x16, x17, x18, x22, x148000, x148001, x148002, x153000, x153001, x153002 => if x22 < (x13.length : Int) then (if 0 ≤ x22 then ((life_Life_Next.f k x153000 x153001 x153002 x22 x14 x15 x16 (rdOf false x13 x22)).bind fun bt154 => (if x22 ≥ (x18.length : Int) then (some false) else (if x22 < (x18.length : Int) then (if bt154.1 = (rd x18 x22) then (klaxonlaw12_LifeParts.l1 k x5 x13 x14 x15 x16 x17 x18 (wrap64 (x22 + 1)) x148000 x148001 x148002 bt154.1 bt154.2.1 bt154.2.2) else (some false)) else (none)))) else (none)) else ((klaxonbook_Within.f x5 0 60).bind fun t158 => ((life_Life_Next.f k x148000 x148001 x148002 (wrap64 ((wrap64 (x17 + 1)) + t158)) x14 x15 x16 true).bind fun bt159 => ((life_Life_Next.f k x148000 x148001 x148002 (wrap64 ((wrap64 (x17 + 1)) + t158)) x14 x15 x16 false).bind fun bt163 => (if bt159.1 = 0 then (klaxonlaw12_LifeParts.j2 k x14 x15 x16 true) else (if x148000 = 2 then (if bt159.1 = 2 then (if bt163.1 = 1 then (klaxonlaw12_LifeParts.j2 k x14 x15 x16 true) else (klaxonlaw12_LifeParts.j2 k x14 x15 x16 false)) else (klaxonlaw12_LifeParts.j2 k x14 x15 x16 true)) else (if bt163.1 = 1 then (klaxonlaw12_LifeParts.j2 k x14 x15 x16 true) else (klaxonlaw12_LifeParts.j2 k x14 x15 x16 (!(bt163.1 == 0) || (!(bt163.2.1 == 0) || (!(bt163.2.2 == 0)))))))))))
def klaxonlaw12_LifeParts.j2 : Nat → Int → Int → Int → Bool → Option (Bool)
  | 0, _, _, _, _ => none
  | k + 1, x14, x15, x16, x138 => if x138 = true then (some false) else ((life_Run.f k x14 x15 x16 ([] : List Bool)).bind fun t167 => (if (t167.length : Int) = 0 then ((klaxonlaw12_LifeRuns.f k).bind fun t170 => (some t170)) else (some false)))
end
def klaxonlaw12_LifeParts.f (k : Nat) (l0 : List Bool) (a1 : Int) (a2 : Int) (a3 : Int) (a4 : Int) (a5 : Int) : Option (Bool) := (some (([] : List Bool) : List Bool)).bind fun y133 => (if 0 ≤ (mn (l0.length : Int) 30) then (if (mn (l0.length : Int) 30) ≤ (l0.length : Int) then (if y133.length + (l0.take ((mn (l0.length : Int) 30) : Int).toNat).length < 140737488355328 then ((some (y133 ++ (l0.take ((mn (l0.length : Int) 30) : Int).toNat) : List Bool)).bind fun y137 => ((klaxonbook_Within.f a1 1 9).bind fun t140 => ((klaxonbook_Within.f a2 0 40).bind fun t141 => ((klaxonbook_Within.f a3 0 40).bind fun t142 => ((klaxonbook_Within.f a4 0 (y137.length : Int)).bind fun t143 => ((life_Run.f k t140 t141 t142 y137).bind fun t144 => (klaxonlaw12_LifeParts.l0 k a5 y137 t140 t141 t142 t143 t144 0 0 0 0))))))) else (none)) else (none)) else (none))
theorem klaxonlaw12_LifeParts.mono_l : ∀ k, (∀ y0 y1 y2 y3 y4 y5 y6 y7 y8 y9 y10, LeO (klaxonlaw12_LifeParts.l0 k y0 y1 y2 y3 y4 y5 y6 y7 y8 y9 y10) (klaxonlaw12_LifeParts.l0 (k + 1) y0 y1 y2 y3 y4 y5 y6 y7 y8 y9 y10)) ∧ (∀ y0 y1 y2 y3 y4 y5 y6 y7 y8 y9 y10 y11 y12 y13, LeO (klaxonlaw12_LifeParts.l1 k y0 y1 y2 y3 y4 y5 y6 y7 y8 y9 y10 y11 y12 y13) (klaxonlaw12_LifeParts.l1 (k + 1) y0 y1 y2 y3 y4 y5 y6 y7 y8 y9 y10 y11 y12 y13)) ∧ (∀ y0 y1 y2 y3, LeO (klaxonlaw12_LifeParts.j2 k y0 y1 y2 y3) (klaxonlaw12_LifeParts.j2 (k + 1) y0 y1 y2 y3))
  | 0 => ⟨fun _ _ _ _ _ _ _ _ _ _ _ r h => by simp [klaxonlaw12_LifeParts.l0] at h, fun _ _ _ _ _ _ _ _ _ _ _ _ _ _ r h => by simp [klaxonlaw12_LifeParts.l1] at h, fun _ _ _ _ r h => by simp [klaxonlaw12_LifeParts.j2] at h⟩
  | k + 1 => by
    obtain ⟨ih0, ih1, ih2⟩ := klaxonlaw12_LifeParts.mono_l k
    refine ⟨?_, ?_, ?_⟩
    · intro y0 y1 y2 y3 y4 y5 y6 y7 y8 y9 y10
      unfold klaxonlaw12_LifeParts.l0
      repeat' first
      | (with_reducible exact ih0 _ _ _ _ _ _ _ _ _ _ _)
      | (with_reducible exact ih1 _ _ _ _ _ _ _ _ _ _ _ _ _ _)
      | (with_reducible exact ih2 _ _ _ _)
      | (with_reducible exact klaxonlaw12_LifeRuns.mono _)
      | (with_reducible exact life_Life_Next.mono _ _ _ _ _ _ _ _ _)
      | (with_reducible exact life_Run.mono _ _ _ _ _)
      | (with_reducible exact LeO.refl _)
      | (with_reducible exact LeO.none _)
      | (with_reducible refine LeO.ite ?_ ?_)
      | (with_reducible refine LeO.bind ?_ (fun _ => ?_))
      | exact ih0 _ _ _ _ _ _ _ _ _ _ _
      | exact ih1 _ _ _ _ _ _ _ _ _ _ _ _ _ _
      | exact ih2 _ _ _ _
      | exact klaxonlaw12_LifeRuns.mono _
      | exact life_Life_Next.mono _ _ _ _ _ _ _ _ _
      | exact life_Run.mono _ _ _ _ _
      | exact LeO.none _
      | refine LeO.ite ?_ ?_
      | refine LeO.bind ?_ (fun _ => ?_)
    · intro y0 y1 y2 y3 y4 y5 y6 y7 y8 y9 y10 y11 y12 y13
      unfold klaxonlaw12_LifeParts.l1
      repeat' first
      | (with_reducible exact ih0 _ _ _ _ _ _ _ _ _ _ _)
      | (with_reducible exact ih1 _ _ _ _ _ _ _ _ _ _ _ _ _ _)
      | (with_reducible exact ih2 _ _ _ _)
      | (with_reducible exact klaxonlaw12_LifeRuns.mono _)
      | (with_reducible exact life_Life_Next.mono _ _ _ _ _ _ _ _ _)
      | (with_reducible exact life_Run.mono _ _ _ _ _)
      | (with_reducible exact LeO.refl _)
      | (with_reducible exact LeO.none _)
      | (with_reducible refine LeO.ite ?_ ?_)
      | (with_reducible refine LeO.bind ?_ (fun _ => ?_))
      | exact ih0 _ _ _ _ _ _ _ _ _ _ _
      | exact ih1 _ _ _ _ _ _ _ _ _ _ _ _ _ _
      | exact ih2 _ _ _ _
      | exact klaxonlaw12_LifeRuns.mono _
      | exact life_Life_Next.mono _ _ _ _ _ _ _ _ _
      | exact life_Run.mono _ _ _ _ _
      | exact LeO.none _
      | refine LeO.ite ?_ ?_
      | refine LeO.bind ?_ (fun _ => ?_)
    · intro y0 y1 y2 y3
      unfold klaxonlaw12_LifeParts.j2
      repeat' first
      | (with_reducible exact ih0 _ _ _ _ _ _ _ _ _ _ _)
      | (with_reducible exact ih1 _ _ _ _ _ _ _ _ _ _ _ _ _ _)
      | (with_reducible exact ih2 _ _ _ _)
      | (with_reducible exact klaxonlaw12_LifeRuns.mono _)
      | (with_reducible exact life_Life_Next.mono _ _ _ _ _ _ _ _ _)
      | (with_reducible exact life_Run.mono _ _ _ _ _)
      | (with_reducible exact LeO.refl _)
      | (with_reducible exact LeO.none _)
      | (with_reducible refine LeO.ite ?_ ?_)
      | (with_reducible refine LeO.bind ?_ (fun _ => ?_))
      | exact ih0 _ _ _ _ _ _ _ _ _ _ _
      | exact ih1 _ _ _ _ _ _ _ _ _ _ _ _ _ _
      | exact ih2 _ _ _ _
      | exact klaxonlaw12_LifeRuns.mono _
      | exact life_Life_Next.mono _ _ _ _ _ _ _ _ _
      | exact life_Run.mono _ _ _ _ _
      | exact LeO.none _
      | refine LeO.ite ?_ ?_
      | refine LeO.bind ?_ (fun _ => ?_)
theorem klaxonlaw12_LifeParts.mono : ∀ a0 a1 a2 a3 a4 a5 k, LeO (klaxonlaw12_LifeParts.f k a0 a1 a2 a3 a4 a5) (klaxonlaw12_LifeParts.f (k + 1) a0 a1 a2 a3 a4 a5) := by
  intro a0 a1 a2 a3 a4 a5 k
  obtain ⟨ih0, ih1, ih2⟩ := klaxonlaw12_LifeParts.mono_l k
  unfold klaxonlaw12_LifeParts.f
  repeat' first
      | (with_reducible exact ih0 _ _ _ _ _ _ _ _ _ _ _)
      | (with_reducible exact ih1 _ _ _ _ _ _ _ _ _ _ _ _ _ _)
      | (with_reducible exact ih2 _ _ _ _)
      | (with_reducible exact klaxonlaw12_LifeRuns.mono _)
      | (with_reducible exact life_Life_Next.mono _ _ _ _ _ _ _ _ _)
      | (with_reducible exact life_Run.mono _ _ _ _ _)
      | (with_reducible exact LeO.refl _)
      | (with_reducible exact LeO.none _)
      | (with_reducible refine LeO.ite ?_ ?_)
      | (with_reducible refine LeO.bind ?_ (fun _ => ?_))
      | exact ih0 _ _ _ _ _ _ _ _ _ _ _
      | exact ih1 _ _ _ _ _ _ _ _ _ _ _ _ _ _
      | exact ih2 _ _ _ _
      | exact klaxonlaw12_LifeRuns.mono _
      | exact life_Life_Next.mono _ _ _ _ _ _ _ _ _
      | exact life_Run.mono _ _ _ _ _
      | exact LeO.none _
      | refine LeO.ite ?_ ?_
      | refine LeO.bind ?_ (fun _ => ?_)
def klaxonlaw12_LifeParts.T9 : Bool × List (List Nat × List Nat) := (true, [([], []), ([], []), ([], []), ([], []), ([], []), ([], []), ([], []), ([5, 6], [5, 6]), ([7], [7]), ([0, 1, 2, 3, 4, 8], [0, 1, 2, 3, 4, 8]), ([9, 9, 0, 1, 2, 3, 4, 5, 6, 7, 8, 9], [9])])
def klaxonlaw12_LifeParts.B9 : List Nat := [0, 0, 0, 0, 0, 0, 0, 96, 224, 511, 1023]
theorem klaxonlaw12_LifeParts.tab9 : rtab .any (opsOf Try.f9 9) = klaxonlaw12_LifeParts.T9 := by kernel_rfl
theorem klaxonlaw12_LifeParts.bits9 : waitsOk klaxonlaw12_LifeParts.T9.2 klaxonlaw12_LifeParts.B9 = true := by kernel_rfl
def klaxonlaw12_LifeParts.T14 : Bool × List (List Nat × List Nat) := (true, [([], []), ([], []), ([], []), ([], []), ([], []), ([], []), ([], []), ([5, 6], [5, 6]), ([7], [7]), ([0, 1, 2, 3, 4, 8], [0, 1, 2, 3, 4, 8]), ([9, 9, 0, 1, 2, 3, 4, 5, 6, 7, 8, 9], [9])])
def klaxonlaw12_LifeParts.B14 : List Nat := [0, 0, 0, 0, 0, 0, 0, 96, 224, 511, 1023]
theorem klaxonlaw12_LifeParts.tab14 : rtab .any (opsOf Try.f9 14) = klaxonlaw12_LifeParts.T14 := by kernel_rfl
theorem klaxonlaw12_LifeParts.bits14 : waitsOk klaxonlaw12_LifeParts.T14.2 klaxonlaw12_LifeParts.B14 = true := by kernel_rfl
def klaxonlaw12_LifeParts.T15 : Bool × List (List Nat × List Nat) := (true, [([], []), ([], []), ([1], [1]), ([0, 2], [0, 2]), ([3], [3]), ([4], [4]), ([5, 4], [4, 5]), ([4], [4]), ([4], [4]), ([7, 8, 4], [4, 7, 8]), ([9, 4], [4, 9]), ([6, 10, 4], [4, 6, 10]), ([4, 11], [4, 11])])
def klaxonlaw12_LifeParts.B15 : List Nat := [0, 0, 2, 7, 15, 31, 63, 31, 31, 415, 927, 2047, 4095]
theorem klaxonlaw12_LifeParts.tab15 : rtab .any (opsOf Try.f9 15) = klaxonlaw12_LifeParts.T15 := by kernel_rfl
theorem klaxonlaw12_LifeParts.bits15 : waitsOk klaxonlaw12_LifeParts.T15.2 klaxonlaw12_LifeParts.B15 = true := by kernel_rfl
set_option maxHeartbeats 8000000 in
set_option maxRecDepth 100000 in
theorem klaxonlaw12_LifeParts.calls (k : Nat) (A0 : Option Addr) (c0 : Nat) (l0 : List Bool) (a1 : Int) (a2 : Int) (a3 : Int) (a4 : Int) (a5 : Int) (r : Bool) (w : World) (hr0 : Kd.C Kd.bool w A0 l0.length l0) (hc0 : l0.length ≤ c0) (h : klaxonlaw12_LifeParts.f k l0 a1 a2 a3 a4 a5 = some r) :
    Calls Try.prog 9 #[.slice A0 l0.length c0, .int .i64 a1, .int .i64 a2, .int .i64 a3, .int .i64 a4, .int .i64 a5] w fun e w' => e = .returned (.bool r) ∧ Below w.heap.size w w' := by
  have hu41 := Try.underlying41
  have HR0 := Aside0.mk hr0
  have HC0 := Aside0.mk hc0
  clear hr0 hc0
  have HB := Aside0.mk (Below.refl w.heap.size w)
  have H : ((some (([] : List Bool) : List Bool)).bind fun y133 => (if 0 ≤ (mn (l0.length : Int) 30) then (if (mn (l0.length : Int) 30) ≤ (l0.length : Int) then (if y133.length + (l0.take ((mn (l0.length : Int) 30) : Int).toNat).length < 140737488355328 then ((some (y133 ++ (l0.take ((mn (l0.length : Int) 30) : Int).toNat) : List Bool)).bind fun y137 => ((klaxonbook_Within.f a1 1 9).bind fun t140 => ((klaxonbook_Within.f a2 0 40).bind fun t141 => ((klaxonbook_Within.f a3 0 40).bind fun t142 => ((klaxonbook_Within.f a4 0 (y137.length : Int)).bind fun t143 => ((life_Run.f k t140 t141 t142 y137).bind fun t144 => (klaxonlaw12_LifeParts.l0 k a5 y137 t140 t141 t142 t143 t144 0 0 0 0))))))) else (none)) else (none)) else (none))) = some r := h
  clear h
  obtain ⟨y133, hy133⟩ : ∃ y_ : List Bool, y_ = (([] : List Bool)) := ⟨_, rfl⟩
  replace H : (if 0 ≤ (mn (l0.length : Int) 30) then (if (mn (l0.length : Int) 30) ≤ (l0.length : Int) then (if y133.length + (l0.take ((mn (l0.length : Int) 30) : Int).toNat).length < 140737488355328 then ((some (y133 ++ (l0.take ((mn (l0.length : Int) 30) : Int).toNat) : List Bool)).bind fun y137 => ((klaxonbook_Within.f a1 1 9).bind fun t140 => ((klaxonbook_Within.f a2 0 40).bind fun t141 => ((klaxonbook_Within.f a3 0 40).bind fun t142 => ((klaxonbook_Within.f a4 0 (y137.length : Int)).bind fun t143 => ((life_Run.f k t140 t141 t142 y137).bind fun t144 => (klaxonlaw12_LifeParts.l0 k a5 y137 t140 t141 t142 t143 t144 0 0 0 0))))))) else (none)) else (none)) else (none)) = some r := by first | (rw [hy133]; with_reducible exact H) | (have H2_ := (Option.bind_some _ _).symm.trans H; rw [hy133]; with_reducible exact H2_) | (have H2_ := (Option.bind_some _ _).symm.trans H; with_reducible exact H2_) | with_reducible exact H | (rw [hy133]; exact H) | exact H
  have Ny133 := Aside0.mk hy133
  clear hy133
  obtain ⟨ji7, hji7⟩ : ∃ j_ : Int, (mn (l0.length : Int) 30) = j_ := ⟨_, rfl⟩
  replace H : (if 0 ≤ (ji7) then (if (ji7) ≤ (l0.length : Int) then (if y133.length + (l0.take ((ji7) : Int).toNat).length < 140737488355328 then ((some (y133 ++ (l0.take ((ji7) : Int).toNat) : List Bool)).bind fun y137 => ((klaxonbook_Within.f a1 1 9).bind fun t140 => ((klaxonbook_Within.f a2 0 40).bind fun t141 => ((klaxonbook_Within.f a3 0 40).bind fun t142 => ((klaxonbook_Within.f a4 0 (y137.length : Int)).bind fun t143 => ((life_Run.f k t140 t141 t142 y137).bind fun t144 => (klaxonlaw12_LifeParts.l0 k a5 y137 t140 t141 t142 t143 t144 0 0 0 0))))))) else (none)) else (none)) else (none)) = some r := by first | (rw [hji7] at H; exact H) | (simp only [hji7] at H ⊢; exact H)
  (try (have hji7h : ji7 ≤ 30 := by (rw [← hji7]; unfold mn; (repeat' split) <;> omega)))
  (try (have hji7g : ji7 ≤ 64 := by omega))
  (try (have hji7l : 0 ≤ ji7 := by (rw [← hji7]; unfold mn; (repeat' split) <;> omega)))
  (try (have hji7m : 0 ≤ ji7 := by omega))
  have hji7_ : (if 30 < (l0.length : Int) then 30 else (l0.length : Int)) = ji7 := hji7
  by_cases c8 : 0 ≤ (ji7)
  · rw [if_pos c8] at H
    have c8b0 := eq_true c8
    have c8b1 : decide (0 ≤ (ji7)) = true := decide_eq_true c8
    clear c8
    by_cases c9 : (ji7) ≤ (l0.length : Int)
    · rw [if_pos c9] at H
      have c9b0 := eq_true c9
      have c9b1 : decide ((ji7) ≤ (l0.length : Int)) = true := decide_eq_true c9
      clear c9
      by_cases c10 : y133.length + (l0.take ((ji7) : Int).toNat).length < 140737488355328
      · rw [if_pos c10] at H
        have LMc10 := Aside0.mk c10
        clear c10
        obtain ⟨y137, hy137⟩ : ∃ y_ : List Bool, y_ = (y133 ++ (l0.take ((ji7) : Int).toNat)) := ⟨_, rfl⟩
        replace H : ((klaxonbook_Within.f a1 1 9).bind fun t140 => ((klaxonbook_Within.f a2 0 40).bind fun t141 => ((klaxonbook_Within.f a3 0 40).bind fun t142 => ((klaxonbook_Within.f a4 0 (y137.length : Int)).bind fun t143 => ((life_Run.f k t140 t141 t142 y137).bind fun t144 => (klaxonlaw12_LifeParts.l0 k a5 y137 t140 t141 t142 t143 t144 0 0 0 0)))))) = some r := by first | (rw [hy137]; with_reducible exact H) | (have H2_ := (Option.bind_some _ _).symm.trans H; rw [hy137]; with_reducible exact H2_) | (have H2_ := (Option.bind_some _ _).symm.trans H; with_reducible exact H2_) | with_reducible exact H | (rw [hy137]; exact H) | exact H
        have Ny137 := Aside0.mk hy137
        clear hy137
        replace H := Option.bind_eq_some_iff.mp H
        obtain ⟨t140, A110, H⟩ := H
        replace H : ((klaxonbook_Within.f a2 0 40).bind fun t141 => ((klaxonbook_Within.f a3 0 40).bind fun t142 => ((klaxonbook_Within.f a4 0 (y137.length : Int)).bind fun t143 => ((life_Run.f k t140 t141 t142 y137).bind fun t144 => (klaxonlaw12_LifeParts.l0 k a5 y137 t140 t141 t142 t143 t144 0 0 0 0))))) = some r := H
        have A11 := Aside0.mk A110
        clear A110
        replace H := Option.bind_eq_some_iff.mp H
        obtain ⟨t141, A120, H⟩ := H
        replace H : ((klaxonbook_Within.f a3 0 40).bind fun t142 => ((klaxonbook_Within.f a4 0 (y137.length : Int)).bind fun t143 => ((life_Run.f k t140 t141 t142 y137).bind fun t144 => (klaxonlaw12_LifeParts.l0 k a5 y137 t140 t141 t142 t143 t144 0 0 0 0)))) = some r := H
        have A12 := Aside0.mk A120
        clear A120
        replace H := Option.bind_eq_some_iff.mp H
        obtain ⟨t142, A130, H⟩ := H
        replace H : ((klaxonbook_Within.f a4 0 (y137.length : Int)).bind fun t143 => ((life_Run.f k t140 t141 t142 y137).bind fun t144 => (klaxonlaw12_LifeParts.l0 k a5 y137 t140 t141 t142 t143 t144 0 0 0 0))) = some r := H
        have A13 := Aside0.mk A130
        clear A130
        replace H := Option.bind_eq_some_iff.mp H
        obtain ⟨t143, A140, H⟩ := H
        replace H : ((life_Run.f k t140 t141 t142 y137).bind fun t144 => (klaxonlaw12_LifeParts.l0 k a5 y137 t140 t141 t142 t143 t144 0 0 0 0)) = some r := H
        have A14 := Aside0.mk A140
        clear A140
        replace H := Option.bind_eq_some_iff.mp H
        obtain ⟨t144, A150, H⟩ := H
        replace H : (klaxonlaw12_LifeParts.l0 k a5 y137 t140 t141 t142 t143 t144 0 0 0 0) = some r := H
        have A15 := Aside0.mk A150
        clear A150
        have H' := Aside0.mk H
        clear H
        go_enter Try.func9, Try.ntmps9
        go_wp2_with (first | ((with_reducible refine gate_dst (N := 26) rfl ?_); refine Kd.R_lit Kd.bool _ 4 ?hg (N := 26) ?hd (xs := ([] : List Bool)) (inner := []) (ok := fun _ => True) (okp := fun _ => True) ?hr ?hp (fun _ hk => hk) trivial (Below.refl _ _) (Nat.le_refl _) (by simp) ?_; (case hd => rfl); (case hg => rfl); (case hr => first | (go_simp; done) | (go_simp; rfl)); (case hp => exact (Reps.none _ _)); intro v134 w16 ho17 hb hg_ hnew_; clear hg_ hnew_; (first | rw [← Ny133.out] at ho17 | (simp only [Int.reduceToNat] at ho17; rw [← Ny133.out] at ho17)); have n0_ := Aside0.mk (Kd.R_lower ho17 (below_size (by repeat (first | (with_reducible first | exact HB.out | apply below_alloc | apply pw_below_drewN | apply below_drew1) | exact HB.out)))); have n1_ := Aside0.mk (below_step (by repeat (first | (with_reducible first | exact HB.out | apply below_alloc | apply pw_below_drewN | apply below_drew1) | exact HB.out)) hb); clear HB; have HO135 := n0_; have HB := n1_; clear n0_ n1_; clear hb ho17; obtain ⟨i018, hi018, _, hsz18, _⟩ := info_parts info4; obtain ⟨hcut18, hA18, hC18⟩ := print_take_of (P := Try.prog) Value.bool false 44 4 .i64 Try.underlying44 hi018 hsz18 A0 c0 l0 (ji7) (of_decide_eq_true (by first | (with_reducible assumption) | assumption)) (of_decide_eq_true (by first | (with_reducible assumption) | assumption)) HC0.out; have HR136 := Aside0.mk (Kd.C_of_reads (h1 := fun _ => rfl) (hA18 _ (Kd.reads_of_C HR0.out))); have HC136 := Aside0.mk hC18; clear hA18 hC18 hi018 hsz18) | ((with_reducible refine gate_builtin (b := .append) (xs := #[.tmp 26, .tmp 31]) rfl ?_); at_builtin; refine Kd.R_append_rows Kd.bool (w0 := w) w.heap.size rfl (.tmp 26) (.tmp 31) 44 4 (.bool false) 1 rfl Try.underlying44 info4 rfl (by decide) (by omega) v134 y133 (l0.take ((ji7) : Int).toNat) _ _ _ (fun _ => True) (fun _ => False) rfl rfl ?aO ?aR (fun _ _ h => h) (fun _ h => h.elim) ?aF ?aB ?aS ?aL ?_; (case aR => first | (have z_ := (Kd.C_below HR136.out HB.out); rw [show (l0.take ((ji7) : Int).toNat).length = (ji7).toNat from (by rw [List.length_take]; have h_ : ((ji7) : Int) ≤ (l0.length : Int) := of_decide_eq_true (by first | (with_reducible assumption) | assumption); omega)] at z_; exact z_) | (rw [← show (l0.take ((ji7) : Int).toNat).length = (ji7).toNat from (by rw [List.length_take]; have h_ : ((ji7) : Int) ≤ (l0.length : Int) := of_decide_eq_true (by first | (with_reducible assumption) | assumption); omega)]; repeat (first | exact (Kd.C_below HR136.out HB.out) | (with_reducible refine Kd.C_alloc ?_ _) | (with_reducible refine Kd.C_drewN ?_ _) | (with_reducible refine Kd.C_drew ?_))) | (repeat (first | exact (Kd.C_below HR136.out HB.out) | (with_reducible refine Kd.C_alloc ?_ _) | (with_reducible refine Kd.C_drewN ?_ _) | (with_reducible refine Kd.C_drew ?_)))); (case aB => exact (by repeat (first | (with_reducible first | exact HB.out | apply below_alloc | apply pw_below_drewN | apply below_drew1) | exact HB.out))); (case aF => exact (fun _ _ => trivial)); (case aO => exact (by (with_reducible repeat (first | apply Kd.R_alloc | apply Kd.R_drewN | apply Kd.R_drew)); exact HO135.out)); (case aS => exact (below_size (by repeat (first | (with_reducible first | exact HB.out | apply below_alloc | apply pw_below_drewN | apply below_drew1) | exact HB.out)))); (case aL => have := LMc10.out; have hlx_ := (show (l0.take ((ji7) : Int).toNat).length = (ji7).toNat from (by rw [List.length_take]; have h_ : ((ji7) : Int) ≤ (l0.length : Int) := of_decide_eq_true (by first | (with_reducible assumption) | assumption); omega)); omega); intro v138 w19 ho hb hg hat; rw [← Ny137.out] at ho; have n0_ := Aside0.mk (hb); have n1_ := Aside0.mk (ho); clear HB; clear HO135; have HB := n0_; have HO139 := n1_; clear n0_ n1_; clear ho hb hg hat) | ((with_reducible refine gate_callee (f := 22) rfl ?_); refine goesL_ (some 34) rfl rfl Try.func22 (by kernel_rfl) rfl #[.int .i64 a1, .int .i64 1, .int .i64 9] rfl (by (try simp only [List.map_toArray, List.map_cons, List.map_nil]); first | done | rfl | (simp only [List.length_drop, List.length_take]; rfl)) ?_; (with_reducible refine (klaxonbook_Within.calls a1 1 9 t140 _ A11.out).mono ?_); rintro e w' ⟨rfl, ⟨nd, rfl⟩⟩; refine ⟨_, rfl, ?_⟩) | ((with_reducible refine gate_callee (f := 22) rfl ?_); refine goesL_ (some 36) rfl rfl Try.func22 (by kernel_rfl) rfl #[.int .i64 a2, .int .i64 0, .int .i64 40] rfl (by (try simp only [List.map_toArray, List.map_cons, List.map_nil]); first | done | rfl | (simp only [List.length_drop, List.length_take]; rfl)) ?_; (with_reducible refine (klaxonbook_Within.calls a2 0 40 t141 _ A12.out).mono ?_); rintro e w' ⟨rfl, ⟨nd, rfl⟩⟩; refine ⟨_, rfl, ?_⟩) | ((with_reducible refine gate_callee (f := 22) rfl ?_); refine goesL_ (some 38) rfl rfl Try.func22 (by kernel_rfl) rfl #[.int .i64 a3, .int .i64 0, .int .i64 40] rfl (by (try simp only [List.map_toArray, List.map_cons, List.map_nil]); first | done | rfl | (simp only [List.length_drop, List.length_take]; rfl)) ?_; (with_reducible refine (klaxonbook_Within.calls a3 0 40 t142 _ A13.out).mono ?_); rintro e w' ⟨rfl, ⟨nd, rfl⟩⟩; refine ⟨_, rfl, ?_⟩; obtain ⟨Ao20, co20, eo20⟩ := Kd.R_slice HO139.out; subst eo20) | ((with_reducible refine gate_callee (f := 22) rfl ?_); refine goesL_ (some 42) rfl rfl Try.func22 (by kernel_rfl) rfl #[.int .i64 a4, .int .i64 0, .int .i64 (y137.length : Int)] rfl (by (try simp only [List.map_toArray, List.map_cons, List.map_nil]); first | done | rfl | (simp only [List.length_drop, List.length_take]; rfl)) ?_; (with_reducible refine (klaxonbook_Within.calls a4 0 (y137.length : Int) t143 _ A14.out).mono ?_); rintro e w' ⟨rfl, ⟨nd, rfl⟩⟩; refine ⟨_, rfl, ?_⟩) | ((with_reducible refine gate_callee (f := 24) rfl ?_); refine goesL_ (some 47) rfl rfl Try.func24 (by kernel_rfl) rfl #[.int .i64 t140, .int .i64 t141, .int .i64 t142, .slice Ao20 y137.length co20] rfl (by (try simp only [List.map_toArray, List.map_cons, List.map_nil]); first | done | rfl | (simp only [List.length_drop, List.length_take]; rfl)) ?_; (with_reducible refine (life_Run.calls k t140 t141 t142 _ _ y137 t144 _ ?side1 ?side2 A15.out).mono ?_); (case side1 => repeat (first | exact (Kd.R_reads' HO139.out).2.2 | (with_reducible refine Kd.C_alloc ?_ _) | (with_reducible refine Kd.C_drewN ?_ _) | (with_reducible refine Kd.C_drew ?_))); (case side2 => exact (Kd.R_reads' HO139.out).2.1); rintro e w21 ⟨v145, rfl, ho0, hb⟩; refine ⟨_, rfl, ?_⟩; have n0_ := Aside0.mk (Kd.R_below (by (with_reducible repeat (first | apply Kd.R_alloc | apply Kd.R_drewN | apply Kd.R_drew)); exact HO139.out) hb); have n1_ := Aside0.mk (Kd.R_lower ho0 (below_size (by repeat (first | (with_reducible first | exact HB.out | apply below_alloc | apply pw_below_drewN | apply below_drew1) | exact HB.out)))); have n2_ := Aside0.mk (below_step (by repeat (first | (with_reducible first | exact HB.out | apply below_alloc | apply pw_below_drewN | apply below_drew1) | exact HB.out)) hb); clear HO139; clear HB; have HO139 := n0_; have HO146 := n1_; have HB := n2_; clear n0_ n1_ n2_; (try clear hb); (try clear hb2); (try clear hk); (try clear hi); (try clear ho0)) | ((with_reducible refine gate_dst (N := 19) rfl ?_); refine box_event ?hg (N := 19) ?hd (cs := #[.int .i64 0, .int .i64 0, .int .i64 0]) (t := 41) ?hr ?_; (case hd => rfl); (case hg => rfl); (case hr => first | (go_simp; done) | (go_simp; rfl)); intro gb147 hg w22 hbox hb; have n0_ := Aside0.mk (Kd.R_below (by (with_reducible repeat (first | apply Kd.R_alloc | apply Kd.R_drewN | apply Kd.R_drew)); exact HO139.out) hb); have n1_ := Aside0.mk (Kd.R_below (by (with_reducible repeat (first | apply Kd.R_alloc | apply Kd.R_drewN | apply Kd.R_drew)); exact HO146.out) hb); have n2_ := Aside0.mk (below_step (by repeat (first | (with_reducible first | exact HB.out | apply below_alloc | apply pw_below_drewN | apply below_drew1) | exact HB.out)) hb); have n3_ := Aside0.mk (hbox); have n4_ := Aside0.mk ((by rw [hg]; exact (below_size (by repeat (first | (with_reducible first | exact HB.out | apply below_alloc | apply pw_below_drewN | apply below_drew1) | exact HB.out))) : w.heap.size ≤ gb147)); have n5_ := Aside0.mk ((by rw [hg]; exact (below_size (by repeat (first | (with_reducible first | exact HB.out | apply below_alloc | apply pw_below_drewN | apply below_drew1) | exact HB.out))) : w.heap.size ≤ gb147)); clear HO139; clear HO146; clear HB; have HO139 := n0_; have HO146 := n1_; have HB := n2_; have BK147 := n3_; have GW147 := n4_; have GE147 := n5_; clear n0_ n1_ n2_ n3_ n4_ n5_; clear hb hbox hg))
        go_loopg [20] k (fun kq v20 w' => ∃ (x20_1 : Int) (x148000_1 : Int) (x148001_1 : Int) (x148002_1 : Int), v20 = .int .i64 x20_1 ∧ Aside0 (klaxonlaw12_LifeParts.l0 kq a5 y137 t140 t141 t142 t143 t144 x20_1 x148000_1 x148001_1 x148002_1 = some r) ∧ Aside0 (kq ≤ k) ∧ Aside0 (Kd.R Kd.bool 4 w' w.heap.size (fun _ => True) (.slice Ao20 y137.length co20) y137) ∧ Aside0 (Kd.R (Kd.int .i64) 3 w' w.heap.size (fun _ => True) v145 t144) ∧ Aside0 (w'.heap[gb147]? = some (.cells #[.int .i64 x148000_1, .int .i64 x148001_1, .int .i64 x148002_1] 41 (0, 0))) ∧ Aside0 (Below w.heap.size w w'))
        case atStart => exact ⟨(0), (0), (0), (0), (by first | rfl | (simp; done) | (simp [*]; done)), H', ⟨Nat.le_refl _⟩, ⟨by (with_reducible repeat (first | apply Kd.R_alloc | apply Kd.R_drewN | apply Kd.R_drew)); exact HO139.out⟩, ⟨by (with_reducible repeat (first | apply Kd.R_alloc | apply Kd.R_drewN | apply Kd.R_drew)); exact HO146.out⟩, ⟨by (with_reducible repeat (first | refine blk_drewN ?_ _ | refine blk_drew ?_ | refine blk_alloc ?_ _)); exact BK147.out⟩, ⟨by repeat (first | (with_reducible first | exact HB.out | apply below_alloc | apply pw_below_drewN | apply below_drew1 | refine below_set ?_ GE147.out) | exact HB.out)⟩⟩
        case round =>
          clear H'
          try clear c1
          try clear c2
          try clear p2
          try clear c8
          try clear c8b0
          try clear c8b1
          try clear c9
          try clear c9b0
          try clear c9b1
          try clear c10
          try clear c22
          obtain ⟨x20_1, x148000_1, x148001_1, x148002_1, rfl, HA, HK1, HO_13, HO_18, BK147, HB⟩ := hrel
          cases gk with
          | zero => exact absurd HA.out (by simp [klaxonlaw12_LifeParts.l0])
          | succ k1 =>
            have H := HA.out
            clear HA
            simp only [klaxonlaw12_LifeParts.l0] at H
            by_cases c23 : x20_1 < t143
            · rw [if_pos c23] at H
              have c23b0 : decide (x20_1 < t143) = true := decide_eq_true c23
              clear c23
              by_cases c24 : 0 ≤ x20_1
              · rw [if_pos c24] at H
                have c24b0 : decide (0 ≤ x20_1) = true := decide_eq_true c24
                clear c24
                by_cases c25 : x20_1 < (y137.length : Int)
                · rw [if_pos c25] at H
                  have c25b0 : decide (x20_1 < (y137.length : Int)) = true := decide_eq_true c25
                  clear c25
                  replace H := Option.bind_eq_some_iff.mp H
                  obtain ⟨⟨t149, t150, t151⟩, A260, H⟩ := H
                  replace H : (klaxonlaw12_LifeParts.l0 k1 a5 y137 t140 t141 t142 t143 t144 (wrap64 (x20_1 + 1)) t149 t150 t151) = some r := H
                  have A26 := Aside0.mk A260
                  clear A260
                  have H' := Aside0.mk H
                  clear H
                  try go_wp2
                  have n0_ := Aside0.mk (Kd.R_drew HO_13.out)
                  have n1_ := Aside0.mk (Kd.R_drew HO_18.out)
                  have n2_ := Aside0.mk (blk_drew BK147.out)
                  have n3_ := Aside0.mk (below_drew1 HB.out)
                  clear HO_13
                  clear HO_18
                  clear BK147
                  clear HB
                  have HO_13 := n0_
                  have HO_18 := n1_
                  have BK147 := n2_
                  have HB := n3_
                  clear n0_ n1_ n2_ n3_
                  have p148 : 0 ≤ (x20_1 : Int) := of_decide_eq_true (by first | (with_reducible assumption) | assumption)
                  have q148 : x20_1 < (y137.length : Int) := of_decide_eq_true (by first | (with_reducible assumption) | assumption)
                  obtain ⟨ad148, e148, hx148_0⟩ := Kd.at_bool (Kd.R_reads' HO_13.out).2.2 x20_1 p148 q148
                  cases e148
                  replace p148 := eq_true p148
                  replace q148 := eq_true q148
                  refine start_ (n := 11) (S := fun w' => w'.cell? ⟨gb147, 0, none⟩ = some (.int .i64 x148000_1) ∧ w'.cell? ⟨gb147, 1, none⟩ = some (.int .i64 x148001_1) ∧ w'.cell? ⟨gb147, 2, none⟩ = some (.int .i64 x148002_1) ∧ w'.cell? (ad148.add (x20_1).toNat) = some (.bool (rdOf false y137 x20_1))) (ds := [10]) #[false, false, false, false, false, false, false, false, false, false, false] (by kernel_rfl) rfl rfl ⟨(blk_cell BK147.out 0).trans rfl, (blk_cell BK147.out 1).trans rfl, (blk_cell BK147.out 2).trans rfl, hx148_0⟩ (fun hHeld => ?_); refine with_tabW klaxonlaw12_LifeParts.tab9 klaxonlaw12_LifeParts.bits9 (fun HT_ HW_ => ?_)
                  generalize wr.drew = w27 at HO_13 HO_18 BK147 HB hx148_0 hHeld ⊢
                  refine pure_ (i := 1) (N := some 54) (v := ?_) (a' := ?_) #[false, true, false, false, false, false, false, false, false, false, false] rfl rfl (any_of HT_.out (by kernel_rfl)) (fun _ _ _ h => h) (Or.inl ⟨by rfl, ?_⟩) ?_ ?_
                  rotate_left
                  · intro w'
                    go_simp
                    with_reducible rfl
                  rotate_left
                  · simp only [Act.put, List.setIfInBounds_toArray, List.set_cons_zero, List.set_cons_succ, i64_w, i32_w]
                    rfl
                  refine pure_ (i := 2) (N := some 55) (v := ?_) (a' := ?_) #[false, true, true, false, false, false, false, false, false, false, false] rfl rfl (any_of HT_.out (by kernel_rfl)) (fun _ _ _ h => h) (Or.inl ⟨by rfl, ?_⟩) ?_ ?_
                  rotate_left
                  · intro w'
                    go_simp
                    with_reducible rfl
                  rotate_left
                  · simp only [Act.put, List.setIfInBounds_toArray, List.set_cons_zero, List.set_cons_succ, i64_w, i32_w]
                    rfl
                  refine pure_ (i := 3) (N := some 56) (v := ?_) (a' := ?_) #[false, true, true, true, false, false, false, false, false, false, false] rfl rfl (any_of HT_.out (by kernel_rfl)) (fun _ _ _ h => h) (Or.inl ⟨by rfl, ?_⟩) ?_ ?_
                  rotate_left
                  · intro w'
                    go_simp
                    with_reducible rfl
                  rotate_left
                  · simp only [Act.put, List.setIfInBounds_toArray, List.set_cons_zero, List.set_cons_succ, i64_w, i32_w]
                    rfl
                  refine pure_ (i := 4) (N := some 57) (v := ?_) (a' := ?_) #[false, true, true, true, true, false, false, false, false, false, false] rfl rfl (any_of HT_.out (by kernel_rfl)) (fun _ _ _ h => h) (Or.inl ⟨by rfl, ?_⟩) ?_ ?_
                  rotate_left
                  · intro w'
                    go_simp
                    with_reducible rfl
                  rotate_left
                  · simp only [Act.put, List.setIfInBounds_toArray, List.set_cons_zero, List.set_cons_succ, i64_w, i32_w]
                    rfl
                  refine pure_ (i := 5) (N := some 58) (v := ?_) (a' := ?_) #[false, true, true, true, true, true, false, false, false, false, false] rfl rfl (any_of HT_.out (by kernel_rfl)) (fun _ _ _ h => h) (Or.inl ⟨by rfl, ?_⟩) ?_ ?_
                  rotate_left
                  · intro w'
                    go_simp
                    with_reducible rfl
                  rotate_left
                  · simp only [Act.put, List.setIfInBounds_toArray, List.set_cons_zero, List.set_cons_succ, i64_w, i32_w]
                    rfl
                  refine pure_ (i := 6) (N := some 59) (v := ?_) (a' := ?_) #[false, true, true, true, true, true, true, false, false, false, false] rfl rfl (any_of HT_.out (by kernel_rfl)) (fun _ _ _ h => h) (Or.inl ⟨by rfl, ?_⟩) ?_ ?_
                  rotate_left
                  · intro w'
                    go_simp
                    with_reducible rfl
                  rotate_left
                  · simp only [Act.put, List.setIfInBounds_toArray, List.set_cons_zero, List.set_cons_succ, i64_w, i32_w]
                    rfl
                  refine pure_ (i := 7) (N := some 60) (v := ?_) (a' := ?_) #[false, true, true, true, true, true, true, true, false, false, false] rfl rfl (any_of HT_.out (by kernel_rfl)) (fun _ _ _ h => h) (Or.inl ⟨by rfl, ?_⟩) ?_ ?_
                  rotate_left
                  · intro w'
                    go_simp
                    with_reducible rfl
                  rotate_left
                  · simp only [Act.put, List.setIfInBounds_toArray, List.set_cons_zero, List.set_cons_succ, i64_w, i32_w]
                    rfl
                  refine take_ (i := 0) (N := some 53) (v := ?_) (a' := ?_) #[true, true, true, true, true, true, true, true, false, false, false] rfl rfl (take_ofW HT_.out HW_.out (by kernel_rfl)) (fun _ _ _ h => h) (Or.inl ⟨by rfl, ?_⟩) hHeld ?_ ?_
                  rotate_left
                  · rintro w' ⟨s0, s1, s2, s3⟩
                    go_simp
                    with_reducible rfl
                  rotate_left
                  · simp only [Act.put, List.setIfInBounds_toArray, List.set_cons_zero, List.set_cons_succ, i64_w, i32_w]
                    rfl
                  refine take_ (i := 8) (N := some 61) (v := ?_) (a' := ?_) #[true, true, true, true, true, true, true, true, true, false, false] rfl rfl (take_ofW HT_.out HW_.out (by kernel_rfl)) (fun _ _ _ h => h) (Or.inl ⟨by rfl, ?_⟩) hHeld ?_ ?_
                  rotate_left
                  · rintro w' ⟨s0, s1, s2, s3⟩
                    go_simp
                    with_reducible rfl
                  rotate_left
                  · simp only [Act.put, List.setIfInBounds_toArray, List.set_cons_zero, List.set_cons_succ, i64_w, i32_w]
                    rfl
                  refine one_ (i := 9) (N := some 62) #[true, true, true, true, true, true, true, true, true, true, false] rfl rfl (one_of HT_.out (by kernel_rfl)) (by decide) (fun K hK => ?_)
                  refine goes_ Try.func27 (by kernel_rfl) rfl #[.agg #[.int .i64 x148000_1, .int .i64 x148001_1, .int .i64 x148002_1], .int .i64 x20_1, .int .i64 t140, .int .i64 t141, .int .i64 t142, .bool (rdOf false y137 x20_1)] (by rfl) rfl rfl (by (try simp only [List.map_toArray, List.map_cons, List.map_nil]); first | done | rfl | (simp only [List.length_drop, List.length_take]; rfl)) ?_
                  with_reducible refine (life_Life_Next.calls k1 x148000_1 x148001_1 x148002_1 x20_1 t140 t141 t142 (rdOf false y137 x20_1) t149 t150 t151 _ A26.out).mono ?_
                  rintro e w28 ⟨rfl, hb⟩
                  have HS3_ := (hb.cell (World.block_lt_of_cell? _ _ (hHeld.2.2.2))).trans (hHeld.2.2.2)
                  refine ⟨_, rfl, ?_⟩
                  have n0_ := Aside0.mk (Kd.R_below (by (with_reducible repeat (first | apply Kd.R_alloc | apply Kd.R_drewN | apply Kd.R_drew)); exact HO_13.out) hb)
                  have n1_ := Aside0.mk (Kd.R_below (by (with_reducible repeat (first | apply Kd.R_alloc | apply Kd.R_drewN | apply Kd.R_drew)); exact HO_18.out) hb)
                  have n2_ := Aside0.mk (blk_below (g := gb147) (o := .cells #[.int .i64 x148000_1, .int .i64 x148001_1, .int .i64 x148002_1] 41 (0, 0)) (by (with_reducible repeat (first | refine blk_drewN ?_ _ | refine blk_drew ?_ | refine blk_alloc ?_ _)); exact BK147.out) hb)
                  have n3_ := Aside0.mk (below_step (by repeat (first | (with_reducible first | exact HB.out | apply below_alloc | apply pw_below_drewN | apply below_drew1 | refine below_set ?_ GE147.out) | exact HB.out)) hb)
                  clear HO_13
                  clear HO_18
                  clear BK147
                  clear HB
                  have HO_13 := n0_
                  have HO_18 := n1_
                  have BK147 := n2_
                  have HB := n3_
                  clear n0_ n1_ n2_ n3_
                  (try clear hb)
                  (try clear hb2)
                  (try clear hk)
                  (try clear hi)
                  refine hK.out _ _ ⟨(blk_cell BK147.out 0).trans rfl, (blk_cell BK147.out 1).trans rfl, (blk_cell BK147.out 2).trans rfl, HS3_⟩ (fun hHeld => ?_)
                  clear hK K
                  refine norm_ (a' := ?_) ?_ ?_
                  rotate_left
                  · show Act.put _ (some 62) _ = _
                    simp only [Act.put, List.setIfInBounds_toArray, List.set_cons_zero, List.set_cons_succ, i64_w, i32_w]
                    rfl
                  refine last_ (i := 10) (N := none) #[true, true, true, true, true, true, true, true, true, true, true] rfl rfl (one_of HT_.out (by kernel_rfl)) (by decide) (fun K hK => ?_)
                  have hs29 : w28.cell? ⟨gb147, 0, none⟩ = some (.int .i64 x148000_1) := (blk_cell BK147.out 0).trans rfl
                  have hfs29 := blk_frozen BK147.out 0
                  have hs30 : w28.cell? ⟨gb147, 1, none⟩ = some (.int .i64 x148001_1) := (blk_cell BK147.out 1).trans rfl
                  have hfs30 := blk_frozen BK147.out 1
                  have hs31 : w28.cell? ⟨gb147, 2, none⟩ = some (.int .i64 x148002_1) := (blk_cell BK147.out 2).trans rfl
                  have hfs31 := blk_frozen BK147.out 2
                  refine skip_ (w1 := ?_) (by rfl) rfl ?_ ?_
                  rotate_left
                  · go_simp
                    rfl
                  refine hK.out _ _ ?_
                  clear hK K
                  refine done_ (done_of HT_.out (by kernel_rfl)) ?_
                  try go_wp2
                  go_roundg k1
                  case measure => have := HK1.out; omega
                  case rel => exact ⟨(wrap64 (x20_1 + 1)), (t149), (t150), (t151), (by first | rfl | (simp; done) | (simp [*]; done)), H', ⟨by have := HK1.out; omega⟩, ⟨by (with_reducible repeat (first | apply Kd.R_alloc | apply Kd.R_drewN | apply Kd.R_drew)); exact Kd.R_mono (Kd.R_far (p := ⟨gb147, 2, none⟩) (Kd.R_far (p := ⟨gb147, 1, none⟩) (Kd.R_far (p := ⟨gb147, 0, none⟩) (Kd.R_types HO_13.out BK147.out (by decide)) (fun _ hk => hk.2) (.int .i64 t149)) (fun _ hk => hk.2) (.int .i64 t150)) (fun _ hk => hk.2) (.int .i64 t151)) (fun _ hk => trivial)⟩, ⟨by (with_reducible repeat (first | apply Kd.R_alloc | apply Kd.R_drewN | apply Kd.R_drew)); exact Kd.R_mono (Kd.R_far (p := ⟨gb147, 2, none⟩) (Kd.R_far (p := ⟨gb147, 1, none⟩) (Kd.R_far (p := ⟨gb147, 0, none⟩) (Kd.R_types HO_18.out BK147.out (by decide)) (fun _ hk => hk.2) (.int .i64 t149)) (fun _ hk => hk.2) (.int .i64 t150)) (fun _ hk => hk.2) (.int .i64 t151)) (fun _ hk => trivial)⟩, ⟨by (with_reducible repeat (first | refine blk_drewN ?_ _ | refine blk_drew ?_ | refine blk_alloc ?_ _)); refine blk_put (cs := #[.int .i64 t149, .int .i64 t150, .int .i64 x148002_1]) ?_ 2 _ rfl; (with_reducible repeat (first | refine blk_drewN ?_ _ | refine blk_drew ?_ | refine blk_alloc ?_ _)); refine blk_put (cs := #[.int .i64 t149, .int .i64 x148001_1, .int .i64 x148002_1]) ?_ 1 _ rfl; (with_reducible repeat (first | refine blk_drewN ?_ _ | refine blk_drew ?_ | refine blk_alloc ?_ _)); refine blk_put (cs := #[.int .i64 x148000_1, .int .i64 x148001_1, .int .i64 x148002_1]) ?_ 0 _ rfl; (with_reducible repeat (first | refine blk_drewN ?_ _ | refine blk_drew ?_ | refine blk_alloc ?_ _)); exact BK147.out⟩, ⟨by repeat (first | (with_reducible first | exact HB.out | apply below_alloc | apply pw_below_drewN | apply below_drew1 | refine below_set ?_ GE147.out) | exact HB.out)⟩⟩
                · rw [if_neg c25] at H
                  exact absurd H (by simp)
              · rw [if_neg c24] at H
                exact absurd H (by simp)
            · rw [if_neg c23] at H
              have c23b0 : decide (x20_1 < t143) = false := decide_eq_false c23
              clear c23
              have H' := Aside0.mk H
              clear H
              have hcz32_0 : wr.cell? ⟨gb147, 0, none⟩ = some (.int .i64 x148000_1) := (blk_cell BK147.out 0).trans rfl
              have hcz32_1 : wr.cell? ⟨gb147, 1, none⟩ = some (.int .i64 x148001_1) := (blk_cell BK147.out 1).trans rfl
              have hcz32_2 : wr.cell? ⟨gb147, 2, none⟩ = some (.int .i64 x148002_1) := (blk_cell BK147.out 2).trans rfl
              have hfz32_0 := blk_frozen BK147.out 0
              have hfz32_1 := blk_frozen BK147.out 1
              have hfz32_2 := blk_frozen BK147.out 2
              go_wp2_with (first | ((with_reducible refine gate_dst (N := 21) rfl ?_); refine box_event ?hg (N := 21) ?hd (cs := #[.int .i64 0, .int .i64 0, .int .i64 0]) (t := 41) ?hr ?_; (case hd => rfl); (case hg => rfl); (case hr => first | (go_simp; done) | (go_simp; rfl)); intro gb152 hg w33 hbox hb; have n0_ := Aside0.mk (Kd.R_below (by (with_reducible repeat (first | apply Kd.R_alloc | apply Kd.R_drewN | apply Kd.R_drew)); exact HO_13.out) hb); have n1_ := Aside0.mk (Kd.R_below (by (with_reducible repeat (first | apply Kd.R_alloc | apply Kd.R_drewN | apply Kd.R_drew)); exact HO_18.out) hb); have n2_ := Aside0.mk (blk_below (g := gb147) (o := .cells #[.int .i64 x148000_1, .int .i64 x148001_1, .int .i64 x148002_1] 41 (0, 0)) (by (with_reducible repeat (first | refine blk_drewN ?_ _ | refine blk_drew ?_ | refine blk_alloc ?_ _)); exact BK147.out) hb); have n3_ := Aside0.mk (below_step (by repeat (first | (with_reducible first | exact HB.out | apply below_alloc | apply pw_below_drewN | apply below_drew1 | refine below_set ?_ GE147.out) | exact HB.out)) hb); have n4_ := Aside0.mk (hbox); have n5_ := Aside0.mk ((by rw [hg]; exact (below_size (by repeat (first | (with_reducible first | exact HB.out | apply below_alloc | apply pw_below_drewN | apply below_drew1 | refine below_set ?_ GE147.out) | exact HB.out))) : w.heap.size ≤ gb152)); have n6_ := Aside0.mk ((by rw [hg]; exact (below_size (by repeat (first | (with_reducible first | exact HB.out | apply below_alloc | apply pw_below_drewN | apply below_drew1 | refine below_set ?_ GE147.out) | exact HB.out))) : w.heap.size ≤ gb152)); have n7_ := Aside0.mk ((by rw [hg]; exact Nat.ne_of_lt (blk_lt (g := gb147) (o := .cells #[.int .i64 x148000_1, .int .i64 x148001_1, .int .i64 x148002_1] 41 (0, 0)) (by (with_reducible repeat (first | refine blk_drewN ?_ _ | refine blk_drew ?_ | refine blk_alloc ?_ _)); exact BK147.out)) : gb147 ≠ gb152)); have n8_ := Aside0.mk ((by rw [hg]; exact Nat.ne_of_gt (blk_lt (g := gb147) (o := .cells #[.int .i64 x148000_1, .int .i64 x148001_1, .int .i64 x148002_1] 41 (0, 0)) (by (with_reducible repeat (first | refine blk_drewN ?_ _ | refine blk_drew ?_ | refine blk_alloc ?_ _)); exact BK147.out)) : gb152 ≠ gb147)); clear HO_13; clear HO_18; clear BK147; clear HB; have HO_13 := n0_; have HO_18 := n1_; have BK147 := n2_; have HB := n3_; have BK152 := n4_; have GW152 := n5_; have GE152 := n6_; have NB147_152 := n7_; have NB152_147 := n8_; clear n0_ n1_ n2_ n3_ n4_ n5_ n6_ n7_ n8_; clear hb hbox hg; have hnb34 := NB152_147.out; have hnc34 := NB147_152.out; have hcz35_0 : w33.cell? ⟨gb152, 0, none⟩ = some (.int .i64 0) := (blk_cell BK152.out 0).trans rfl; have hcz35_1 : w33.cell? ⟨gb152, 1, none⟩ = some (.int .i64 0) := (blk_cell BK152.out 1).trans rfl; have hcz35_2 : w33.cell? ⟨gb152, 2, none⟩ = some (.int .i64 0) := (blk_cell BK152.out 2).trans rfl; have hfz35_0 := blk_frozen BK152.out 0; have hfz35_1 := blk_frozen BK152.out 1; have hfz35_2 := blk_frozen BK152.out 2))
              go_loopg [22] k1 (fun kq v22 w' => ∃ (x22_2 : Int) (x153000_2 : Int) (x153001_2 : Int) (x153002_2 : Int), v22 = .int .i64 x22_2 ∧ Aside0 (klaxonlaw12_LifeParts.l1 kq a5 y137 t140 t141 t142 t143 t144 x22_2 x148000_1 x148001_1 x148002_1 x153000_2 x153001_2 x153002_2 = some r) ∧ Aside0 (kq ≤ k1) ∧ Aside0 (Kd.R Kd.bool 4 w' w.heap.size (fun _ => True) (.slice Ao20 y137.length co20) y137) ∧ Aside0 (Kd.R (Kd.int .i64) 3 w' w.heap.size (fun _ => True) v145 t144) ∧ Aside0 (w'.heap[gb147]? = some (.cells #[.int .i64 x148000_1, .int .i64 x148001_1, .int .i64 x148002_1] 41 (0, 0))) ∧ Aside0 (w'.heap[gb152]? = some (.cells #[.int .i64 x153000_2, .int .i64 x153001_2, .int .i64 x153002_2] 41 (0, 0))) ∧ Aside0 (Below w.heap.size w w'))
              case atStart => exact ⟨(t143), (x148000_1), (x148001_1), (x148002_1), (by first | rfl | (simp; done) | (simp [*]; done)), H', ⟨Nat.le_refl _⟩, ⟨by (with_reducible repeat (first | apply Kd.R_alloc | apply Kd.R_drewN | apply Kd.R_drew)); exact Kd.R_mono (Kd.R_far (p := ⟨gb152, 2, none⟩) (Kd.R_far (p := ⟨gb152, 1, none⟩) (Kd.R_far (p := ⟨gb152, 0, none⟩) (Kd.R_types HO_13.out BK152.out (by decide)) (fun _ hk => hk.2) (.int .i64 x148000_1)) (fun _ hk => hk.2) (.int .i64 x148001_1)) (fun _ hk => hk.2) (.int .i64 x148002_1)) (fun _ hk => trivial)⟩, ⟨by (with_reducible repeat (first | apply Kd.R_alloc | apply Kd.R_drewN | apply Kd.R_drew)); exact Kd.R_mono (Kd.R_far (p := ⟨gb152, 2, none⟩) (Kd.R_far (p := ⟨gb152, 1, none⟩) (Kd.R_far (p := ⟨gb152, 0, none⟩) (Kd.R_types HO_18.out BK152.out (by decide)) (fun _ hk => hk.2) (.int .i64 x148000_1)) (fun _ hk => hk.2) (.int .i64 x148001_1)) (fun _ hk => hk.2) (.int .i64 x148002_1)) (fun _ hk => trivial)⟩, ⟨by (with_reducible repeat (first | refine blk_drewN ?_ _ | refine blk_drew ?_ | refine blk_alloc ?_ _)); refine blk_far ?_ NB147_152.out _; (with_reducible repeat (first | refine blk_drewN ?_ _ | refine blk_drew ?_ | refine blk_alloc ?_ _)); refine blk_far ?_ NB147_152.out _; (with_reducible repeat (first | refine blk_drewN ?_ _ | refine blk_drew ?_ | refine blk_alloc ?_ _)); refine blk_far ?_ NB147_152.out _; (with_reducible repeat (first | refine blk_drewN ?_ _ | refine blk_drew ?_ | refine blk_alloc ?_ _)); exact BK147.out⟩, ⟨by (with_reducible repeat (first | refine blk_drewN ?_ _ | refine blk_drew ?_ | refine blk_alloc ?_ _)); refine blk_put (cs := #[.int .i64 x148000_1, .int .i64 x148001_1, .int .i64 0]) ?_ 2 _ rfl; (with_reducible repeat (first | refine blk_drewN ?_ _ | refine blk_drew ?_ | refine blk_alloc ?_ _)); refine blk_put (cs := #[.int .i64 x148000_1, .int .i64 0, .int .i64 0]) ?_ 1 _ rfl; (with_reducible repeat (first | refine blk_drewN ?_ _ | refine blk_drew ?_ | refine blk_alloc ?_ _)); refine blk_put (cs := #[.int .i64 0, .int .i64 0, .int .i64 0]) ?_ 0 _ rfl; (with_reducible repeat (first | refine blk_drewN ?_ _ | refine blk_drew ?_ | refine blk_alloc ?_ _)); exact BK152.out⟩, ⟨by repeat (first | (with_reducible first | exact HB.out | apply below_alloc | apply pw_below_drewN | apply below_drew1 | refine below_set ?_ GE147.out | refine below_set ?_ GE152.out) | exact HB.out)⟩⟩
              case round =>
                clear H'
                try clear c1
                try clear p1
                try clear q1
                try clear hx1
                try clear c2
                try clear p2
                try clear c3
                try clear p6
                try clear c8
                try clear c8b0
                try clear c8b1
                try clear c9
                try clear c9b0
                try clear c9b1
                try clear c10
                try clear p14
                try clear q14
                try clear hx14
                try clear c22
                try clear c23
                try clear c23b0
                try clear c24
                try clear c24b0
                try clear c25
                try clear c25b0
                try clear c27
                try clear c34
                try clear hcz32_0
                try clear hcz32_1
                try clear hcz32_2
                try clear hcz35_0
                try clear hcz35_1
                try clear hcz35_2
                try clear hfz32_0
                try clear hfz32_1
                try clear hfz32_2
                try clear hfz35_0
                try clear hfz35_1
                try clear hfz35_2
                try clear hx148_0
                try clear p148
                try clear p2
                try clear q148
                obtain ⟨x22_2, x153000_2, x153001_2, x153002_2, rfl, HA, HK2, HO_13, HO_18, BK147, BK152, HB⟩ := hrel
                cases gk with
                | zero => exact absurd HA.out (by simp [klaxonlaw12_LifeParts.l1])
                | succ k2 =>
                  have H := HA.out
                  clear HA
                  simp only [klaxonlaw12_LifeParts.l1] at H
                  by_cases c36 : x22_2 < (y137.length : Int)
                  · rw [if_pos c36] at H
                    have c36b0 : decide (x22_2 < (y137.length : Int)) = true := decide_eq_true c36
                    clear c36
                    by_cases c37 : 0 ≤ x22_2
                    · rw [if_pos c37] at H
                      have c37b0 : decide (0 ≤ x22_2) = true := decide_eq_true c37
                      clear c37
                      replace H := Option.bind_eq_some_iff.mp H
                      obtain ⟨⟨t154, t155, t156⟩, A380, H⟩ := H
                      replace H : (if x22_2 ≥ (t144.length : Int) then (some false) else (if x22_2 < (t144.length : Int) then (if t154 = (rd t144 x22_2) then (klaxonlaw12_LifeParts.l1 k2 a5 y137 t140 t141 t142 t143 t144 (wrap64 (x22_2 + 1)) x148000_1 x148001_1 x148002_1 t154 t155 t156) else (some false)) else (none))) = some r := H
                      have A38 := Aside0.mk A380
                      clear A380
                      by_cases c39 : x22_2 ≥ (t144.length : Int)
                      · rw [if_pos c39] at H
                        have c39b0 : decide ((t144.length : Int) ≤ x22_2) = true := decide_eq_true c39
                        clear c39
                        obtain rfl := Option.some.inj H
                        try go_wp2
                        have n0_ := Aside0.mk (Kd.R_drew HO_13.out)
                        have n1_ := Aside0.mk (Kd.R_drew HO_18.out)
                        have n2_ := Aside0.mk (blk_drew BK147.out)
                        have n3_ := Aside0.mk (blk_drew BK152.out)
                        have n4_ := Aside0.mk (below_drew1 HB.out)
                        clear HO_13
                        clear HO_18
                        clear BK147
                        clear BK152
                        clear HB
                        have HO_13 := n0_
                        have HO_18 := n1_
                        have BK147 := n2_
                        have BK152 := n3_
                        have HB := n4_
                        clear n0_ n1_ n2_ n3_ n4_
                        have p153 : 0 ≤ (x22_2 : Int) := of_decide_eq_true (by first | (with_reducible assumption) | assumption)
                        have q153 : x22_2 < (y137.length : Int) := of_decide_eq_true (by first | (with_reducible assumption) | assumption)
                        obtain ⟨ad153, e153, hx153_0⟩ := Kd.at_bool (Kd.R_reads' HO_13.out).2.2 x22_2 p153 q153
                        cases e153
                        replace p153 := eq_true p153
                        replace q153 := eq_true q153
                        refine start_ (n := 11) (S := fun w' => w'.cell? ⟨gb152, 0, none⟩ = some (.int .i64 x153000_2) ∧ w'.cell? ⟨gb152, 1, none⟩ = some (.int .i64 x153001_2) ∧ w'.cell? ⟨gb152, 2, none⟩ = some (.int .i64 x153002_2) ∧ w'.cell? (ad153.add (x22_2).toNat) = some (.bool (rdOf false y137 x22_2))) (ds := [10]) #[false, false, false, false, false, false, false, false, false, false, false] (by kernel_rfl) rfl rfl ⟨(blk_cell BK152.out 0).trans rfl, (blk_cell BK152.out 1).trans rfl, (blk_cell BK152.out 2).trans rfl, hx153_0⟩ (fun hHeld => ?_); refine with_tabW klaxonlaw12_LifeParts.tab14 klaxonlaw12_LifeParts.bits14 (fun HT_ HW_ => ?_)
                        generalize wr.drew = w40 at HO_13 HO_18 BK147 BK152 HB hx153_0 hHeld ⊢
                        refine pure_ (i := 1) (N := some 72) (v := ?_) (a' := ?_) #[false, true, false, false, false, false, false, false, false, false, false] rfl rfl (any_of HT_.out (by kernel_rfl)) (fun _ _ _ h => h) (Or.inl ⟨by rfl, ?_⟩) ?_ ?_
                        rotate_left
                        · intro w'
                          go_simp
                          with_reducible rfl
                        rotate_left
                        · simp only [Act.put, List.setIfInBounds_toArray, List.set_cons_zero, List.set_cons_succ, i64_w, i32_w]
                          rfl
                        refine pure_ (i := 2) (N := some 73) (v := ?_) (a' := ?_) #[false, true, true, false, false, false, false, false, false, false, false] rfl rfl (any_of HT_.out (by kernel_rfl)) (fun _ _ _ h => h) (Or.inl ⟨by rfl, ?_⟩) ?_ ?_
                        rotate_left
                        · intro w'
                          go_simp
                          with_reducible rfl
                        rotate_left
                        · simp only [Act.put, List.setIfInBounds_toArray, List.set_cons_zero, List.set_cons_succ, i64_w, i32_w]
                          rfl
                        refine pure_ (i := 3) (N := some 74) (v := ?_) (a' := ?_) #[false, true, true, true, false, false, false, false, false, false, false] rfl rfl (any_of HT_.out (by kernel_rfl)) (fun _ _ _ h => h) (Or.inl ⟨by rfl, ?_⟩) ?_ ?_
                        rotate_left
                        · intro w'
                          go_simp
                          with_reducible rfl
                        rotate_left
                        · simp only [Act.put, List.setIfInBounds_toArray, List.set_cons_zero, List.set_cons_succ, i64_w, i32_w]
                          rfl
                        refine pure_ (i := 4) (N := some 75) (v := ?_) (a' := ?_) #[false, true, true, true, true, false, false, false, false, false, false] rfl rfl (any_of HT_.out (by kernel_rfl)) (fun _ _ _ h => h) (Or.inl ⟨by rfl, ?_⟩) ?_ ?_
                        rotate_left
                        · intro w'
                          go_simp
                          with_reducible rfl
                        rotate_left
                        · simp only [Act.put, List.setIfInBounds_toArray, List.set_cons_zero, List.set_cons_succ, i64_w, i32_w]
                          rfl
                        refine pure_ (i := 5) (N := some 76) (v := ?_) (a' := ?_) #[false, true, true, true, true, true, false, false, false, false, false] rfl rfl (any_of HT_.out (by kernel_rfl)) (fun _ _ _ h => h) (Or.inl ⟨by rfl, ?_⟩) ?_ ?_
                        rotate_left
                        · intro w'
                          go_simp
                          with_reducible rfl
                        rotate_left
                        · simp only [Act.put, List.setIfInBounds_toArray, List.set_cons_zero, List.set_cons_succ, i64_w, i32_w]
                          rfl
                        refine pure_ (i := 6) (N := some 77) (v := ?_) (a' := ?_) #[false, true, true, true, true, true, true, false, false, false, false] rfl rfl (any_of HT_.out (by kernel_rfl)) (fun _ _ _ h => h) (Or.inl ⟨by rfl, ?_⟩) ?_ ?_
                        rotate_left
                        · intro w'
                          go_simp
                          with_reducible rfl
                        rotate_left
                        · simp only [Act.put, List.setIfInBounds_toArray, List.set_cons_zero, List.set_cons_succ, i64_w, i32_w]
                          rfl
                        refine pure_ (i := 7) (N := some 78) (v := ?_) (a' := ?_) #[false, true, true, true, true, true, true, true, false, false, false] rfl rfl (any_of HT_.out (by kernel_rfl)) (fun _ _ _ h => h) (Or.inl ⟨by rfl, ?_⟩) ?_ ?_
                        rotate_left
                        · intro w'
                          go_simp
                          with_reducible rfl
                        rotate_left
                        · simp only [Act.put, List.setIfInBounds_toArray, List.set_cons_zero, List.set_cons_succ, i64_w, i32_w]
                          rfl
                        refine take_ (i := 0) (N := some 71) (v := ?_) (a' := ?_) #[true, true, true, true, true, true, true, true, false, false, false] rfl rfl (take_ofW HT_.out HW_.out (by kernel_rfl)) (fun _ _ _ h => h) (Or.inl ⟨by rfl, ?_⟩) hHeld ?_ ?_
                        rotate_left
                        · rintro w' ⟨s0, s1, s2, s3⟩
                          go_simp
                          with_reducible rfl
                        rotate_left
                        · simp only [Act.put, List.setIfInBounds_toArray, List.set_cons_zero, List.set_cons_succ, i64_w, i32_w]
                          rfl
                        refine take_ (i := 8) (N := some 79) (v := ?_) (a' := ?_) #[true, true, true, true, true, true, true, true, true, false, false] rfl rfl (take_ofW HT_.out HW_.out (by kernel_rfl)) (fun _ _ _ h => h) (Or.inl ⟨by rfl, ?_⟩) hHeld ?_ ?_
                        rotate_left
                        · rintro w' ⟨s0, s1, s2, s3⟩
                          go_simp
                          with_reducible rfl
                        rotate_left
                        · simp only [Act.put, List.setIfInBounds_toArray, List.set_cons_zero, List.set_cons_succ, i64_w, i32_w]
                          rfl
                        refine one_ (i := 9) (N := some 80) #[true, true, true, true, true, true, true, true, true, true, false] rfl rfl (one_of HT_.out (by kernel_rfl)) (by decide) (fun K hK => ?_)
                        refine goes_ Try.func27 (by kernel_rfl) rfl #[.agg #[.int .i64 x153000_2, .int .i64 x153001_2, .int .i64 x153002_2], .int .i64 x22_2, .int .i64 t140, .int .i64 t141, .int .i64 t142, .bool (rdOf false y137 x22_2)] (by rfl) rfl rfl (by (try simp only [List.map_toArray, List.map_cons, List.map_nil]); first | done | rfl | (simp only [List.length_drop, List.length_take]; rfl)) ?_
                        with_reducible refine (life_Life_Next.calls k2 x153000_2 x153001_2 x153002_2 x22_2 t140 t141 t142 (rdOf false y137 x22_2) t154 t155 t156 _ A38.out).mono ?_
                        rintro e w41 ⟨rfl, hb⟩
                        have HS3_ := (hb.cell (World.block_lt_of_cell? _ _ (hHeld.2.2.2))).trans (hHeld.2.2.2)
                        refine ⟨_, rfl, ?_⟩
                        have n0_ := Aside0.mk (Kd.R_below (by (with_reducible repeat (first | apply Kd.R_alloc | apply Kd.R_drewN | apply Kd.R_drew)); exact HO_13.out) hb)
                        have n1_ := Aside0.mk (Kd.R_below (by (with_reducible repeat (first | apply Kd.R_alloc | apply Kd.R_drewN | apply Kd.R_drew)); exact HO_18.out) hb)
                        have n2_ := Aside0.mk (blk_below (g := gb147) (o := .cells #[.int .i64 x148000_1, .int .i64 x148001_1, .int .i64 x148002_1] 41 (0, 0)) (by (with_reducible repeat (first | refine blk_drewN ?_ _ | refine blk_drew ?_ | refine blk_alloc ?_ _)); exact BK147.out) hb)
                        have n3_ := Aside0.mk (blk_below (g := gb152) (o := .cells #[.int .i64 x153000_2, .int .i64 x153001_2, .int .i64 x153002_2] 41 (0, 0)) (by (with_reducible repeat (first | refine blk_drewN ?_ _ | refine blk_drew ?_ | refine blk_alloc ?_ _)); exact BK152.out) hb)
                        have n4_ := Aside0.mk (below_step (by repeat (first | (with_reducible first | exact HB.out | apply below_alloc | apply pw_below_drewN | apply below_drew1 | refine below_set ?_ GE147.out | refine below_set ?_ GE152.out) | exact HB.out)) hb)
                        clear HO_13
                        clear HO_18
                        clear BK147
                        clear BK152
                        clear HB
                        have HO_13 := n0_
                        have HO_18 := n1_
                        have BK147 := n2_
                        have BK152 := n3_
                        have HB := n4_
                        clear n0_ n1_ n2_ n3_ n4_
                        (try clear hb)
                        (try clear hb2)
                        (try clear hk)
                        (try clear hi)
                        refine hK.out _ _ ⟨(blk_cell BK152.out 0).trans rfl, (blk_cell BK152.out 1).trans rfl, (blk_cell BK152.out 2).trans rfl, HS3_⟩ (fun hHeld => ?_)
                        clear hK K
                        refine norm_ (a' := ?_) ?_ ?_
                        rotate_left
                        · show Act.put _ (some 80) _ = _
                          simp only [Act.put, List.setIfInBounds_toArray, List.set_cons_zero, List.set_cons_succ, i64_w, i32_w]
                          rfl
                        refine last_ (i := 10) (N := none) #[true, true, true, true, true, true, true, true, true, true, true] rfl rfl (one_of HT_.out (by kernel_rfl)) (by decide) (fun K hK => ?_)
                        have hs42 : w41.cell? ⟨gb152, 0, none⟩ = some (.int .i64 x153000_2) := (blk_cell BK152.out 0).trans rfl
                        have hfs42 := blk_frozen BK152.out 0
                        have hns42_0 := NB147_152.out
                        have hms42_0 := NB152_147.out
                        have hs43 : w41.cell? ⟨gb152, 1, none⟩ = some (.int .i64 x153001_2) := (blk_cell BK152.out 1).trans rfl
                        have hfs43 := blk_frozen BK152.out 1
                        have hns43_0 := NB147_152.out
                        have hms43_0 := NB152_147.out
                        have hs44 : w41.cell? ⟨gb152, 2, none⟩ = some (.int .i64 x153002_2) := (blk_cell BK152.out 2).trans rfl
                        have hfs44 := blk_frozen BK152.out 2
                        have hns44_0 := NB147_152.out
                        have hms44_0 := NB152_147.out
                        refine skip_ (w1 := ?_) (by rfl) rfl ?_ ?_
                        rotate_left
                        · go_simp
                          rfl
                        refine hK.out _ _ ?_
                        clear hK K
                        refine done_ (done_of HT_.out (by kernel_rfl)) ?_
                        try go_wp2
                        have n0_ : Aside0 (Kd.R Kd.bool 4 (((w41.setCell ⟨gb152, 0, none⟩ (.int .i64 t154)).setCell ⟨gb152, 1, none⟩ (.int .i64 t155)).setCell ⟨gb152, 2, none⟩ (.int .i64 t156)) w.heap.size (fun _ => True) (.slice (some ad153) y137.length co20) y137) := ⟨by (with_reducible repeat (first | apply Kd.R_alloc | apply Kd.R_drewN | apply Kd.R_drew)); exact Kd.R_mono (Kd.R_far (p := ⟨gb152, 2, none⟩) (Kd.R_far (p := ⟨gb152, 1, none⟩) (Kd.R_far (p := ⟨gb152, 0, none⟩) (Kd.R_types HO_13.out BK152.out (by decide)) (fun _ hk => hk.2) (.int .i64 t154)) (fun _ hk => hk.2) (.int .i64 t155)) (fun _ hk => hk.2) (.int .i64 t156)) (fun _ hk => trivial)⟩
                        have n1_ : Aside0 (Kd.R (Kd.int .i64) 3 (((w41.setCell ⟨gb152, 0, none⟩ (.int .i64 t154)).setCell ⟨gb152, 1, none⟩ (.int .i64 t155)).setCell ⟨gb152, 2, none⟩ (.int .i64 t156)) w.heap.size (fun _ => True) v145 t144) := ⟨by (with_reducible repeat (first | apply Kd.R_alloc | apply Kd.R_drewN | apply Kd.R_drew)); exact Kd.R_mono (Kd.R_far (p := ⟨gb152, 2, none⟩) (Kd.R_far (p := ⟨gb152, 1, none⟩) (Kd.R_far (p := ⟨gb152, 0, none⟩) (Kd.R_types HO_18.out BK152.out (by decide)) (fun _ hk => hk.2) (.int .i64 t154)) (fun _ hk => hk.2) (.int .i64 t155)) (fun _ hk => hk.2) (.int .i64 t156)) (fun _ hk => trivial)⟩
                        have n2_ : Aside0 ((((w41.setCell ⟨gb152, 0, none⟩ (.int .i64 t154)).setCell ⟨gb152, 1, none⟩ (.int .i64 t155)).setCell ⟨gb152, 2, none⟩ (.int .i64 t156)).heap[gb147]? = some (.cells #[.int .i64 x148000_1, .int .i64 x148001_1, .int .i64 x148002_1] 41 (0, 0))) := ⟨by (with_reducible repeat (first | refine blk_drewN ?_ _ | refine blk_drew ?_ | refine blk_alloc ?_ _)); refine blk_far ?_ NB147_152.out _; (with_reducible repeat (first | refine blk_drewN ?_ _ | refine blk_drew ?_ | refine blk_alloc ?_ _)); refine blk_far ?_ NB147_152.out _; (with_reducible repeat (first | refine blk_drewN ?_ _ | refine blk_drew ?_ | refine blk_alloc ?_ _)); refine blk_far ?_ NB147_152.out _; (with_reducible repeat (first | refine blk_drewN ?_ _ | refine blk_drew ?_ | refine blk_alloc ?_ _)); exact BK147.out⟩
                        have n3_ : Aside0 ((((w41.setCell ⟨gb152, 0, none⟩ (.int .i64 t154)).setCell ⟨gb152, 1, none⟩ (.int .i64 t155)).setCell ⟨gb152, 2, none⟩ (.int .i64 t156)).heap[gb152]? = some (.cells #[.int .i64 t154, .int .i64 t155, .int .i64 t156] 41 (0, 0))) := ⟨by (with_reducible repeat (first | refine blk_drewN ?_ _ | refine blk_drew ?_ | refine blk_alloc ?_ _)); refine blk_put (cs := #[.int .i64 t154, .int .i64 t155, .int .i64 x153002_2]) ?_ 2 _ rfl; (with_reducible repeat (first | refine blk_drewN ?_ _ | refine blk_drew ?_ | refine blk_alloc ?_ _)); refine blk_put (cs := #[.int .i64 t154, .int .i64 x153001_2, .int .i64 x153002_2]) ?_ 1 _ rfl; (with_reducible repeat (first | refine blk_drewN ?_ _ | refine blk_drew ?_ | refine blk_alloc ?_ _)); refine blk_put (cs := #[.int .i64 x153000_2, .int .i64 x153001_2, .int .i64 x153002_2]) ?_ 0 _ rfl; (with_reducible repeat (first | refine blk_drewN ?_ _ | refine blk_drew ?_ | refine blk_alloc ?_ _)); exact BK152.out⟩
                        have n4_ : Aside0 (Below w.heap.size w (((w41.setCell ⟨gb152, 0, none⟩ (.int .i64 t154)).setCell ⟨gb152, 1, none⟩ (.int .i64 t155)).setCell ⟨gb152, 2, none⟩ (.int .i64 t156))) := ⟨by repeat (first | (with_reducible first | exact HB.out | apply below_alloc | apply pw_below_drewN | apply below_drew1 | refine below_set ?_ GE147.out | refine below_set ?_ GE152.out) | exact HB.out)⟩
                        (try clear HO_13)
                        (try clear HO_18)
                        (try clear BK147)
                        (try clear BK152)
                        (try clear HB)
                        generalize (((w41.setCell ⟨gb152, 0, none⟩ (.int .i64 t154)).setCell ⟨gb152, 1, none⟩ (.int .i64 t155)).setCell ⟨gb152, 2, none⟩ (.int .i64 t156)) = w45 at n0_ n1_ n2_ n3_ n4_ ⊢
                        have HO_13 := n0_
                        have HO_18 := n1_
                        have BK147 := n2_
                        have BK152 := n3_
                        have HB := n4_
                        clear n0_ n1_ n2_ n3_ n4_
                        have n0_ := Aside0.mk (Kd.R_drew HO_13.out)
                        have n1_ := Aside0.mk (Kd.R_drew HO_18.out)
                        have n2_ := Aside0.mk (blk_drew BK147.out)
                        have n3_ := Aside0.mk (blk_drew BK152.out)
                        have n4_ := Aside0.mk (below_drew1 HB.out)
                        clear HO_13
                        clear HO_18
                        clear BK147
                        clear BK152
                        clear HB
                        have HO_13 := n0_
                        have HO_18 := n1_
                        have BK147 := n2_
                        have BK152 := n3_
                        have HB := n4_
                        clear n0_ n1_ n2_ n3_ n4_
                        obtain ⟨Ao47, co47, eo47⟩ := Kd.R_slice HO_18.out
                        (first | subst eo47 | (injection eo47 with f1_ f2_ f3_; have f4_ := f1_.symm; have f5_ := f3_.symm; clear f1_ f2_ f3_; subst f4_; subst f5_))
                        refine start_ (n := 13) (S := fun w' => True) (ds := []) #[false, false, false, false, false, false, false, false, false, false, false, false, false] (by kernel_rfl) rfl rfl trivial (fun hHeld => ?_); refine with_tabW klaxonlaw12_LifeParts.tab15 klaxonlaw12_LifeParts.bits15 (fun HT_ HW_ => ?_)
                        generalize w45.drew = w46 at HO_13 HO_18 BK147 BK152 HB hHeld ⊢
                        refine pure_ (i := 0) (N := some 81) (v := ?_) (a' := ?_) #[true, false, false, false, false, false, false, false, false, false, false, false, false] rfl rfl (any_of HT_.out (by kernel_rfl)) (fun _ _ _ h => h) (Or.inl ⟨by rfl, ?_⟩) ?_ ?_
                        rotate_left
                        · intro w'
                          go_simp
                          with_reducible rfl
                        rotate_left
                        · simp only [Act.put, List.setIfInBounds_toArray, List.set_cons_zero, List.set_cons_succ, i64_w, i32_w]
                          rfl
                        refine pure_ (i := 1) (N := some 82) (v := ?_) (a' := ?_) #[true, true, false, false, false, false, false, false, false, false, false, false, false] rfl rfl (any_of HT_.out (by kernel_rfl)) (fun _ _ _ h => h) (Or.inl ⟨by rfl, ?_⟩) ?_ ?_
                        rotate_left
                        · intro w'
                          go_simp
                          with_reducible rfl
                        rotate_left
                        · simp only [Act.put, List.setIfInBounds_toArray, List.set_cons_zero, List.set_cons_succ, i64_w, i32_w]
                          rfl
                        refine pure_ (i := 2) (N := some 83) (v := ?_) (a' := ?_) #[true, true, true, false, false, false, false, false, false, false, false, false, false] rfl rfl (any_of HT_.out (by kernel_rfl)) (fun _ _ _ h => h) (Or.inl ⟨by rfl, ?_⟩) ?_ ?_
                        rotate_left
                        · intro w'
                          go_simp
                          with_reducible rfl
                        rotate_left
                        · simp only [Act.put, List.setIfInBounds_toArray, List.set_cons_zero, List.set_cons_succ, i64_w, i32_w]
                          rfl
                        refine pure_ (i := 3) (N := some 84) (v := ?_) (a' := ?_) #[true, true, true, true, false, false, false, false, false, false, false, false, false] rfl rfl (any_of HT_.out (by kernel_rfl)) (fun _ _ _ h => h) (Or.inl ⟨by rfl, ?_⟩) ?_ ?_
                        rotate_left
                        · intro w'
                          go_simp
                          with_reducible rfl
                        rotate_left
                        · simp only [Act.put, List.setIfInBounds_toArray, List.set_cons_zero, List.set_cons_succ, i64_w, i32_w]
                          rfl
                        refine pure_ (i := 4) (N := some 85) (v := ?_) (a' := ?_) #[true, true, true, true, true, false, false, false, false, false, false, false, false] rfl rfl (any_of HT_.out (by kernel_rfl)) (fun _ _ _ h => h) (Or.inl ⟨by rfl, ?_⟩) ?_ ?_
                        rotate_left
                        · intro w'
                          go_simp
                          with_reducible rfl
                        rotate_left
                        · simp only [Act.put, List.setIfInBounds_toArray, List.set_cons_zero, List.set_cons_succ, i64_w, i32_w]
                          rfl
                        refine pure_ (i := 5) (N := some 86) (v := undef) (a' := ?_) #[true, true, true, true, true, true, false, false, false, false, false, false, false] rfl rfl (any_of HT_.out (by kernel_rfl)) (fun _ _ _ h => h) (Or.inr ⟨by rfl, rfl⟩) ?_ ?_
                        rotate_left
                        · simp only [Act.put, List.setIfInBounds_toArray, List.set_cons_zero, List.set_cons_succ, i64_w, i32_w]
                          rfl
                        refine pure_ (i := 6) (N := some 87) (v := undef) (a' := ?_) #[true, true, true, true, true, true, true, false, false, false, false, false, false] rfl rfl (any_of HT_.out (by kernel_rfl)) (fun _ _ _ h => h) (Or.inr ⟨by rfl, rfl⟩) ?_ ?_
                        rotate_left
                        · simp only [Act.put, List.setIfInBounds_toArray, List.set_cons_zero, List.set_cons_succ, i64_w, i32_w]
                          rfl
                        refine pure_ (i := 7) (N := some 88) (v := undef) (a' := ?_) #[true, true, true, true, true, true, true, true, false, false, false, false, false] rfl rfl (any_of HT_.out (by kernel_rfl)) (fun _ _ _ h => h) (Or.inr ⟨by rfl, rfl⟩) ?_ ?_
                        rotate_left
                        · simp only [Act.put, List.setIfInBounds_toArray, List.set_cons_zero, List.set_cons_succ, i64_w, i32_w]
                          rfl
                        refine pure_ (i := 8) (N := some 89) (v := undef) (a' := ?_) #[true, true, true, true, true, true, true, true, true, false, false, false, false] rfl rfl (any_of HT_.out (by kernel_rfl)) (fun _ _ _ h => h) (Or.inr ⟨by rfl, rfl⟩) ?_ ?_
                        rotate_left
                        · simp only [Act.put, List.setIfInBounds_toArray, List.set_cons_zero, List.set_cons_succ, i64_w, i32_w]
                          rfl
                        refine pure_ (i := 9) (N := some 90) (v := undef) (a' := ?_) #[true, true, true, true, true, true, true, true, true, true, false, false, false] rfl rfl (any_of HT_.out (by kernel_rfl)) (fun _ _ _ h => h) (Or.inr ⟨by rfl, rfl⟩) ?_ ?_
                        rotate_left
                        · simp only [Act.put, List.setIfInBounds_toArray, List.set_cons_zero, List.set_cons_succ, i64_w, i32_w]
                          rfl
                        refine pure_ (i := 10) (N := some 91) (v := undef) (a' := ?_) #[true, true, true, true, true, true, true, true, true, true, true, false, false] rfl rfl (any_of HT_.out (by kernel_rfl)) (fun _ _ _ h => h) (Or.inr ⟨by rfl, rfl⟩) ?_ ?_
                        rotate_left
                        · simp only [Act.put, List.setIfInBounds_toArray, List.set_cons_zero, List.set_cons_succ, i64_w, i32_w]
                          rfl
                        refine pure_ (i := 11) (N := some 92) (v := undef) (a' := ?_) #[true, true, true, true, true, true, true, true, true, true, true, true, false] rfl rfl (any_of HT_.out (by kernel_rfl)) (fun _ _ _ h => h) (Or.inr ⟨by rfl, rfl⟩) ?_ ?_
                        rotate_left
                        · simp only [Act.put, List.setIfInBounds_toArray, List.set_cons_zero, List.set_cons_succ, i64_w, i32_w]
                          rfl
                        refine pure_ (i := 12) (N := some 93) (v := ?_) (a' := ?_) #[true, true, true, true, true, true, true, true, true, true, true, true, true] rfl rfl (any_of HT_.out (by kernel_rfl)) (fun _ _ _ h => h) (Or.inl ⟨by rfl, ?_⟩) ?_ ?_
                        rotate_left
                        · intro w'
                          go_simp
                          with_reducible rfl
                        rotate_left
                        · simp only [Act.put, List.setIfInBounds_toArray, List.set_cons_zero, List.set_cons_succ, i64_w, i32_w]
                          rfl
                        refine done_ (done_of HT_.out (by kernel_rfl)) ?_
                        try go_wp2
                        go_ret
                        exact ⟨by first | rfl | (simp [errW_none, errW_some] <;> rfl) | (simp only [← hji7]; first | rfl | (simp [errW_none, errW_some] <;> rfl)) | (simp [*, errW_none, errW_some] <;> rfl), by repeat (first | (with_reducible first | exact HB.out | apply below_alloc | apply pw_below_drewN | apply below_drew1 | refine below_set ?_ GE147.out | refine below_set ?_ GE152.out) | exact HB.out)⟩
                      · rw [if_neg c39] at H
                        have c39b0 : decide ((t144.length : Int) ≤ x22_2) = false := decide_eq_false c39
                        clear c39
                        by_cases c48 : x22_2 < (t144.length : Int)
                        · rw [if_pos c48] at H
                          have c48b0 : decide (x22_2 < (t144.length : Int)) = true := decide_eq_true c48
                          clear c48
                          by_cases c49 : t154 = (rd t144 x22_2)
                          · rw [if_pos c49] at H
                            have c49b0 : (t154 == (rd t144 x22_2)) = true := beq_iff_eq.mpr c49
                            have c49b1 : (t154 != (rd t144 x22_2)) = false := bne_eq_false_iff_eq.mpr c49
                            clear c49
                            have H' := Aside0.mk H
                            clear H
                            try go_wp2
                            have n0_ := Aside0.mk (Kd.R_drew HO_13.out)
                            have n1_ := Aside0.mk (Kd.R_drew HO_18.out)
                            have n2_ := Aside0.mk (blk_drew BK147.out)
                            have n3_ := Aside0.mk (blk_drew BK152.out)
                            have n4_ := Aside0.mk (below_drew1 HB.out)
                            clear HO_13
                            clear HO_18
                            clear BK147
                            clear BK152
                            clear HB
                            have HO_13 := n0_
                            have HO_18 := n1_
                            have BK147 := n2_
                            have BK152 := n3_
                            have HB := n4_
                            clear n0_ n1_ n2_ n3_ n4_
                            have p153 : 0 ≤ (x22_2 : Int) := of_decide_eq_true (by first | (with_reducible assumption) | assumption)
                            have q153 : x22_2 < (y137.length : Int) := of_decide_eq_true (by first | (with_reducible assumption) | assumption)
                            obtain ⟨ad153, e153, hx153_0⟩ := Kd.at_bool (Kd.R_reads' HO_13.out).2.2 x22_2 p153 q153
                            cases e153
                            replace p153 := eq_true p153
                            replace q153 := eq_true q153
                            refine start_ (n := 11) (S := fun w' => w'.cell? ⟨gb152, 0, none⟩ = some (.int .i64 x153000_2) ∧ w'.cell? ⟨gb152, 1, none⟩ = some (.int .i64 x153001_2) ∧ w'.cell? ⟨gb152, 2, none⟩ = some (.int .i64 x153002_2) ∧ w'.cell? (ad153.add (x22_2).toNat) = some (.bool (rdOf false y137 x22_2))) (ds := [10]) #[false, false, false, false, false, false, false, false, false, false, false] (by kernel_rfl) rfl rfl ⟨(blk_cell BK152.out 0).trans rfl, (blk_cell BK152.out 1).trans rfl, (blk_cell BK152.out 2).trans rfl, hx153_0⟩ (fun hHeld => ?_); refine with_tabW klaxonlaw12_LifeParts.tab14 klaxonlaw12_LifeParts.bits14 (fun HT_ HW_ => ?_)
                            generalize wr.drew = w50 at HO_13 HO_18 BK147 BK152 HB hx153_0 hHeld ⊢
                            refine pure_ (i := 1) (N := some 72) (v := ?_) (a' := ?_) #[false, true, false, false, false, false, false, false, false, false, false] rfl rfl (any_of HT_.out (by kernel_rfl)) (fun _ _ _ h => h) (Or.inl ⟨by rfl, ?_⟩) ?_ ?_
                            rotate_left
                            · intro w'
                              go_simp
                              with_reducible rfl
                            rotate_left
                            · simp only [Act.put, List.setIfInBounds_toArray, List.set_cons_zero, List.set_cons_succ, i64_w, i32_w]
                              rfl
                            refine pure_ (i := 2) (N := some 73) (v := ?_) (a' := ?_) #[false, true, true, false, false, false, false, false, false, false, false] rfl rfl (any_of HT_.out (by kernel_rfl)) (fun _ _ _ h => h) (Or.inl ⟨by rfl, ?_⟩) ?_ ?_
                            rotate_left
                            · intro w'
                              go_simp
                              with_reducible rfl
                            rotate_left
                            · simp only [Act.put, List.setIfInBounds_toArray, List.set_cons_zero, List.set_cons_succ, i64_w, i32_w]
                              rfl
                            refine pure_ (i := 3) (N := some 74) (v := ?_) (a' := ?_) #[false, true, true, true, false, false, false, false, false, false, false] rfl rfl (any_of HT_.out (by kernel_rfl)) (fun _ _ _ h => h) (Or.inl ⟨by rfl, ?_⟩) ?_ ?_
                            rotate_left
                            · intro w'
                              go_simp
                              with_reducible rfl
                            rotate_left
                            · simp only [Act.put, List.setIfInBounds_toArray, List.set_cons_zero, List.set_cons_succ, i64_w, i32_w]
                              rfl
                            refine pure_ (i := 4) (N := some 75) (v := ?_) (a' := ?_) #[false, true, true, true, true, false, false, false, false, false, false] rfl rfl (any_of HT_.out (by kernel_rfl)) (fun _ _ _ h => h) (Or.inl ⟨by rfl, ?_⟩) ?_ ?_
                            rotate_left
                            · intro w'
                              go_simp
                              with_reducible rfl
                            rotate_left
                            · simp only [Act.put, List.setIfInBounds_toArray, List.set_cons_zero, List.set_cons_succ, i64_w, i32_w]
                              rfl
                            refine pure_ (i := 5) (N := some 76) (v := ?_) (a' := ?_) #[false, true, true, true, true, true, false, false, false, false, false] rfl rfl (any_of HT_.out (by kernel_rfl)) (fun _ _ _ h => h) (Or.inl ⟨by rfl, ?_⟩) ?_ ?_
                            rotate_left
                            · intro w'
                              go_simp
                              with_reducible rfl
                            rotate_left
                            · simp only [Act.put, List.setIfInBounds_toArray, List.set_cons_zero, List.set_cons_succ, i64_w, i32_w]
                              rfl
                            refine pure_ (i := 6) (N := some 77) (v := ?_) (a' := ?_) #[false, true, true, true, true, true, true, false, false, false, false] rfl rfl (any_of HT_.out (by kernel_rfl)) (fun _ _ _ h => h) (Or.inl ⟨by rfl, ?_⟩) ?_ ?_
                            rotate_left
                            · intro w'
                              go_simp
                              with_reducible rfl
                            rotate_left
                            · simp only [Act.put, List.setIfInBounds_toArray, List.set_cons_zero, List.set_cons_succ, i64_w, i32_w]
                              rfl
                            refine pure_ (i := 7) (N := some 78) (v := ?_) (a' := ?_) #[false, true, true, true, true, true, true, true, false, false, false] rfl rfl (any_of HT_.out (by kernel_rfl)) (fun _ _ _ h => h) (Or.inl ⟨by rfl, ?_⟩) ?_ ?_
                            rotate_left
                            · intro w'
                              go_simp
                              with_reducible rfl
                            rotate_left
                            · simp only [Act.put, List.setIfInBounds_toArray, List.set_cons_zero, List.set_cons_succ, i64_w, i32_w]
                              rfl
                            refine take_ (i := 0) (N := some 71) (v := ?_) (a' := ?_) #[true, true, true, true, true, true, true, true, false, false, false] rfl rfl (take_ofW HT_.out HW_.out (by kernel_rfl)) (fun _ _ _ h => h) (Or.inl ⟨by rfl, ?_⟩) hHeld ?_ ?_
                            rotate_left
                            · rintro w' ⟨s0, s1, s2, s3⟩
                              go_simp
                              with_reducible rfl
                            rotate_left
                            · simp only [Act.put, List.setIfInBounds_toArray, List.set_cons_zero, List.set_cons_succ, i64_w, i32_w]
                              rfl
                            refine take_ (i := 8) (N := some 79) (v := ?_) (a' := ?_) #[true, true, true, true, true, true, true, true, true, false, false] rfl rfl (take_ofW HT_.out HW_.out (by kernel_rfl)) (fun _ _ _ h => h) (Or.inl ⟨by rfl, ?_⟩) hHeld ?_ ?_
                            rotate_left
                            · rintro w' ⟨s0, s1, s2, s3⟩
                              go_simp
                              with_reducible rfl
                            rotate_left
                            · simp only [Act.put, List.setIfInBounds_toArray, List.set_cons_zero, List.set_cons_succ, i64_w, i32_w]
                              rfl
                            refine one_ (i := 9) (N := some 80) #[true, true, true, true, true, true, true, true, true, true, false] rfl rfl (one_of HT_.out (by kernel_rfl)) (by decide) (fun K hK => ?_)
                            refine goes_ Try.func27 (by kernel_rfl) rfl #[.agg #[.int .i64 x153000_2, .int .i64 x153001_2, .int .i64 x153002_2], .int .i64 x22_2, .int .i64 t140, .int .i64 t141, .int .i64 t142, .bool (rdOf false y137 x22_2)] (by rfl) rfl rfl (by (try simp only [List.map_toArray, List.map_cons, List.map_nil]); first | done | rfl | (simp only [List.length_drop, List.length_take]; rfl)) ?_
                            with_reducible refine (life_Life_Next.calls k2 x153000_2 x153001_2 x153002_2 x22_2 t140 t141 t142 (rdOf false y137 x22_2) t154 t155 t156 _ A38.out).mono ?_
                            rintro e w51 ⟨rfl, hb⟩
                            have HS3_ := (hb.cell (World.block_lt_of_cell? _ _ (hHeld.2.2.2))).trans (hHeld.2.2.2)
                            refine ⟨_, rfl, ?_⟩
                            have n0_ := Aside0.mk (Kd.R_below (by (with_reducible repeat (first | apply Kd.R_alloc | apply Kd.R_drewN | apply Kd.R_drew)); exact HO_13.out) hb)
                            have n1_ := Aside0.mk (Kd.R_below (by (with_reducible repeat (first | apply Kd.R_alloc | apply Kd.R_drewN | apply Kd.R_drew)); exact HO_18.out) hb)
                            have n2_ := Aside0.mk (blk_below (g := gb147) (o := .cells #[.int .i64 x148000_1, .int .i64 x148001_1, .int .i64 x148002_1] 41 (0, 0)) (by (with_reducible repeat (first | refine blk_drewN ?_ _ | refine blk_drew ?_ | refine blk_alloc ?_ _)); exact BK147.out) hb)
                            have n3_ := Aside0.mk (blk_below (g := gb152) (o := .cells #[.int .i64 x153000_2, .int .i64 x153001_2, .int .i64 x153002_2] 41 (0, 0)) (by (with_reducible repeat (first | refine blk_drewN ?_ _ | refine blk_drew ?_ | refine blk_alloc ?_ _)); exact BK152.out) hb)
                            have n4_ := Aside0.mk (below_step (by repeat (first | (with_reducible first | exact HB.out | apply below_alloc | apply pw_below_drewN | apply below_drew1 | refine below_set ?_ GE147.out | refine below_set ?_ GE152.out) | exact HB.out)) hb)
                            clear HO_13
                            clear HO_18
                            clear BK147
                            clear BK152
                            clear HB
                            have HO_13 := n0_
                            have HO_18 := n1_
                            have BK147 := n2_
                            have BK152 := n3_
                            have HB := n4_
                            clear n0_ n1_ n2_ n3_ n4_
                            (try clear hb)
                            (try clear hb2)
                            (try clear hk)
                            (try clear hi)
                            refine hK.out _ _ ⟨(blk_cell BK152.out 0).trans rfl, (blk_cell BK152.out 1).trans rfl, (blk_cell BK152.out 2).trans rfl, HS3_⟩ (fun hHeld => ?_)
                            clear hK K
                            refine norm_ (a' := ?_) ?_ ?_
                            rotate_left
                            · show Act.put _ (some 80) _ = _
                              simp only [Act.put, List.setIfInBounds_toArray, List.set_cons_zero, List.set_cons_succ, i64_w, i32_w]
                              rfl
                            refine last_ (i := 10) (N := none) #[true, true, true, true, true, true, true, true, true, true, true] rfl rfl (one_of HT_.out (by kernel_rfl)) (by decide) (fun K hK => ?_)
                            have hs52 : w51.cell? ⟨gb152, 0, none⟩ = some (.int .i64 x153000_2) := (blk_cell BK152.out 0).trans rfl
                            have hfs52 := blk_frozen BK152.out 0
                            have hns52_0 := NB147_152.out
                            have hms52_0 := NB152_147.out
                            have hs53 : w51.cell? ⟨gb152, 1, none⟩ = some (.int .i64 x153001_2) := (blk_cell BK152.out 1).trans rfl
                            have hfs53 := blk_frozen BK152.out 1
                            have hns53_0 := NB147_152.out
                            have hms53_0 := NB152_147.out
                            have hs54 : w51.cell? ⟨gb152, 2, none⟩ = some (.int .i64 x153002_2) := (blk_cell BK152.out 2).trans rfl
                            have hfs54 := blk_frozen BK152.out 2
                            have hns54_0 := NB147_152.out
                            have hms54_0 := NB152_147.out
                            refine skip_ (w1 := ?_) (by rfl) rfl ?_ ?_
                            rotate_left
                            · go_simp
                              rfl
                            refine hK.out _ _ ?_
                            clear hK K
                            refine done_ (done_of HT_.out (by kernel_rfl)) ?_
                            try go_wp2
                            have n0_ : Aside0 (Kd.R Kd.bool 4 (((w51.setCell ⟨gb152, 0, none⟩ (.int .i64 t154)).setCell ⟨gb152, 1, none⟩ (.int .i64 t155)).setCell ⟨gb152, 2, none⟩ (.int .i64 t156)) w.heap.size (fun _ => True) (.slice (some ad153) y137.length co20) y137) := ⟨by (with_reducible repeat (first | apply Kd.R_alloc | apply Kd.R_drewN | apply Kd.R_drew)); exact Kd.R_mono (Kd.R_far (p := ⟨gb152, 2, none⟩) (Kd.R_far (p := ⟨gb152, 1, none⟩) (Kd.R_far (p := ⟨gb152, 0, none⟩) (Kd.R_types HO_13.out BK152.out (by decide)) (fun _ hk => hk.2) (.int .i64 t154)) (fun _ hk => hk.2) (.int .i64 t155)) (fun _ hk => hk.2) (.int .i64 t156)) (fun _ hk => trivial)⟩
                            have n1_ : Aside0 (Kd.R (Kd.int .i64) 3 (((w51.setCell ⟨gb152, 0, none⟩ (.int .i64 t154)).setCell ⟨gb152, 1, none⟩ (.int .i64 t155)).setCell ⟨gb152, 2, none⟩ (.int .i64 t156)) w.heap.size (fun _ => True) v145 t144) := ⟨by (with_reducible repeat (first | apply Kd.R_alloc | apply Kd.R_drewN | apply Kd.R_drew)); exact Kd.R_mono (Kd.R_far (p := ⟨gb152, 2, none⟩) (Kd.R_far (p := ⟨gb152, 1, none⟩) (Kd.R_far (p := ⟨gb152, 0, none⟩) (Kd.R_types HO_18.out BK152.out (by decide)) (fun _ hk => hk.2) (.int .i64 t154)) (fun _ hk => hk.2) (.int .i64 t155)) (fun _ hk => hk.2) (.int .i64 t156)) (fun _ hk => trivial)⟩
                            have n2_ : Aside0 ((((w51.setCell ⟨gb152, 0, none⟩ (.int .i64 t154)).setCell ⟨gb152, 1, none⟩ (.int .i64 t155)).setCell ⟨gb152, 2, none⟩ (.int .i64 t156)).heap[gb147]? = some (.cells #[.int .i64 x148000_1, .int .i64 x148001_1, .int .i64 x148002_1] 41 (0, 0))) := ⟨by (with_reducible repeat (first | refine blk_drewN ?_ _ | refine blk_drew ?_ | refine blk_alloc ?_ _)); refine blk_far ?_ NB147_152.out _; (with_reducible repeat (first | refine blk_drewN ?_ _ | refine blk_drew ?_ | refine blk_alloc ?_ _)); refine blk_far ?_ NB147_152.out _; (with_reducible repeat (first | refine blk_drewN ?_ _ | refine blk_drew ?_ | refine blk_alloc ?_ _)); refine blk_far ?_ NB147_152.out _; (with_reducible repeat (first | refine blk_drewN ?_ _ | refine blk_drew ?_ | refine blk_alloc ?_ _)); exact BK147.out⟩
                            have n3_ : Aside0 ((((w51.setCell ⟨gb152, 0, none⟩ (.int .i64 t154)).setCell ⟨gb152, 1, none⟩ (.int .i64 t155)).setCell ⟨gb152, 2, none⟩ (.int .i64 t156)).heap[gb152]? = some (.cells #[.int .i64 t154, .int .i64 t155, .int .i64 t156] 41 (0, 0))) := ⟨by (with_reducible repeat (first | refine blk_drewN ?_ _ | refine blk_drew ?_ | refine blk_alloc ?_ _)); refine blk_put (cs := #[.int .i64 t154, .int .i64 t155, .int .i64 x153002_2]) ?_ 2 _ rfl; (with_reducible repeat (first | refine blk_drewN ?_ _ | refine blk_drew ?_ | refine blk_alloc ?_ _)); refine blk_put (cs := #[.int .i64 t154, .int .i64 x153001_2, .int .i64 x153002_2]) ?_ 1 _ rfl; (with_reducible repeat (first | refine blk_drewN ?_ _ | refine blk_drew ?_ | refine blk_alloc ?_ _)); refine blk_put (cs := #[.int .i64 x153000_2, .int .i64 x153001_2, .int .i64 x153002_2]) ?_ 0 _ rfl; (with_reducible repeat (first | refine blk_drewN ?_ _ | refine blk_drew ?_ | refine blk_alloc ?_ _)); exact BK152.out⟩
                            have n4_ : Aside0 (Below w.heap.size w (((w51.setCell ⟨gb152, 0, none⟩ (.int .i64 t154)).setCell ⟨gb152, 1, none⟩ (.int .i64 t155)).setCell ⟨gb152, 2, none⟩ (.int .i64 t156))) := ⟨by repeat (first | (with_reducible first | exact HB.out | apply below_alloc | apply pw_below_drewN | apply below_drew1 | refine below_set ?_ GE147.out | refine below_set ?_ GE152.out) | exact HB.out)⟩
                            (try clear HO_13)
                            (try clear HO_18)
                            (try clear BK147)
                            (try clear BK152)
                            (try clear HB)
                            generalize (((w51.setCell ⟨gb152, 0, none⟩ (.int .i64 t154)).setCell ⟨gb152, 1, none⟩ (.int .i64 t155)).setCell ⟨gb152, 2, none⟩ (.int .i64 t156)) = w55 at n0_ n1_ n2_ n3_ n4_ ⊢
                            have HO_13 := n0_
                            have HO_18 := n1_
                            have BK147 := n2_
                            have BK152 := n3_
                            have HB := n4_
                            clear n0_ n1_ n2_ n3_ n4_
                            have n0_ := Aside0.mk (Kd.R_drew HO_13.out)
                            have n1_ := Aside0.mk (Kd.R_drew HO_18.out)
                            have n2_ := Aside0.mk (blk_drew BK147.out)
                            have n3_ := Aside0.mk (blk_drew BK152.out)
                            have n4_ := Aside0.mk (below_drew1 HB.out)
                            clear HO_13
                            clear HO_18
                            clear BK147
                            clear BK152
                            clear HB
                            have HO_13 := n0_
                            have HO_18 := n1_
                            have BK147 := n2_
                            have BK152 := n3_
                            have HB := n4_
                            clear n0_ n1_ n2_ n3_ n4_
                            obtain ⟨Ao57, co57, eo57⟩ := Kd.R_slice HO_18.out
                            (first | subst eo57 | (injection eo57 with f1_ f2_ f3_; have f4_ := f1_.symm; have f5_ := f3_.symm; clear f1_ f2_ f3_; subst f4_; subst f5_))
                            have p157 : 0 ≤ (x22_2 : Int) := of_decide_eq_true (by first | (with_reducible assumption) | assumption)
                            have q157 : x22_2 < (t144.length : Int) := of_decide_eq_true (by first | (with_reducible assumption) | assumption)
                            obtain ⟨ad157, e157, hx157_0⟩ := Kd.at_int (Kd.R_reads' HO_18.out).2.2 x22_2 p157 q157
                            cases e157
                            replace p157 := eq_true p157
                            replace q157 := eq_true q157
                            refine start_ (n := 13) (S := fun w' => w'.cell? ⟨gb152, 0, none⟩ = some (.int .i64 t154) ∧ w'.cell? ⟨gb152, 1, none⟩ = some (.int .i64 t155) ∧ w'.cell? ⟨gb152, 2, none⟩ = some (.int .i64 t156) ∧ w'.cell? (ad157.add (x22_2).toNat) = some (.int .i64 (rd t144 x22_2))) (ds := []) #[false, false, false, false, false, false, false, false, false, false, false, false, false] (by kernel_rfl) rfl rfl ⟨(blk_cell BK152.out 0).trans rfl, (blk_cell BK152.out 1).trans rfl, (blk_cell BK152.out 2).trans rfl, hx157_0⟩ (fun hHeld => ?_); refine with_tabW klaxonlaw12_LifeParts.tab15 klaxonlaw12_LifeParts.bits15 (fun HT_ HW_ => ?_)
                            generalize w55.drew = w56 at HO_13 HO_18 BK147 BK152 HB hx157_0 hHeld ⊢
                            refine pure_ (i := 0) (N := some 81) (v := ?_) (a' := ?_) #[true, false, false, false, false, false, false, false, false, false, false, false, false] rfl rfl (any_of HT_.out (by kernel_rfl)) (fun _ _ _ h => h) (Or.inl ⟨by rfl, ?_⟩) ?_ ?_
                            rotate_left
                            · intro w'
                              go_simp
                              with_reducible rfl
                            rotate_left
                            · simp only [Act.put, List.setIfInBounds_toArray, List.set_cons_zero, List.set_cons_succ, i64_w, i32_w]
                              rfl
                            refine pure_ (i := 1) (N := some 82) (v := ?_) (a' := ?_) #[true, true, false, false, false, false, false, false, false, false, false, false, false] rfl rfl (any_of HT_.out (by kernel_rfl)) (fun _ _ _ h => h) (Or.inl ⟨by rfl, ?_⟩) ?_ ?_
                            rotate_left
                            · intro w'
                              go_simp
                              with_reducible rfl
                            rotate_left
                            · simp only [Act.put, List.setIfInBounds_toArray, List.set_cons_zero, List.set_cons_succ, i64_w, i32_w]
                              rfl
                            refine pure_ (i := 2) (N := some 83) (v := ?_) (a' := ?_) #[true, true, true, false, false, false, false, false, false, false, false, false, false] rfl rfl (any_of HT_.out (by kernel_rfl)) (fun _ _ _ h => h) (Or.inl ⟨by rfl, ?_⟩) ?_ ?_
                            rotate_left
                            · intro w'
                              go_simp
                              with_reducible rfl
                            rotate_left
                            · simp only [Act.put, List.setIfInBounds_toArray, List.set_cons_zero, List.set_cons_succ, i64_w, i32_w]
                              rfl
                            refine pure_ (i := 3) (N := some 84) (v := ?_) (a' := ?_) #[true, true, true, true, false, false, false, false, false, false, false, false, false] rfl rfl (any_of HT_.out (by kernel_rfl)) (fun _ _ _ h => h) (Or.inl ⟨by rfl, ?_⟩) ?_ ?_
                            rotate_left
                            · intro w'
                              go_simp
                              with_reducible rfl
                            rotate_left
                            · simp only [Act.put, List.setIfInBounds_toArray, List.set_cons_zero, List.set_cons_succ, i64_w, i32_w]
                              rfl
                            refine pure_ (i := 4) (N := some 85) (v := ?_) (a' := ?_) #[true, true, true, true, true, false, false, false, false, false, false, false, false] rfl rfl (any_of HT_.out (by kernel_rfl)) (fun _ _ _ h => h) (Or.inl ⟨by rfl, ?_⟩) ?_ ?_
                            rotate_left
                            · intro w'
                              go_simp
                              with_reducible rfl
                            rotate_left
                            · simp only [Act.put, List.setIfInBounds_toArray, List.set_cons_zero, List.set_cons_succ, i64_w, i32_w]
                              rfl
                            refine pure_ (i := 5) (N := some 86) (v := ?_) (a' := ?_) #[true, true, true, true, true, true, false, false, false, false, false, false, false] rfl rfl (any_of HT_.out (by kernel_rfl)) (fun _ _ _ h => h) (Or.inl ⟨by rfl, ?_⟩) ?_ ?_
                            rotate_left
                            · intro w'
                              go_simp
                              with_reducible rfl
                            rotate_left
                            · simp only [Act.put, List.setIfInBounds_toArray, List.set_cons_zero, List.set_cons_succ, i64_w, i32_w]
                              rfl
                            refine pure_ (i := 7) (N := some 88) (v := ?_) (a' := ?_) #[true, true, true, true, true, true, false, true, false, false, false, false, false] rfl rfl (any_of HT_.out (by kernel_rfl)) (fun _ _ _ h => h) (Or.inl ⟨by rfl, ?_⟩) ?_ ?_
                            rotate_left
                            · intro w'
                              go_simp
                              with_reducible rfl
                            rotate_left
                            · simp only [Act.put, List.setIfInBounds_toArray, List.set_cons_zero, List.set_cons_succ, i64_w, i32_w]
                              rfl
                            refine pure_ (i := 8) (N := some 89) (v := ?_) (a' := ?_) #[true, true, true, true, true, true, false, true, true, false, false, false, false] rfl rfl (any_of HT_.out (by kernel_rfl)) (fun _ _ _ h => h) (Or.inl ⟨by rfl, ?_⟩) ?_ ?_
                            rotate_left
                            · intro w'
                              go_simp
                              with_reducible rfl
                            rotate_left
                            · simp only [Act.put, List.setIfInBounds_toArray, List.set_cons_zero, List.set_cons_succ, i64_w, i32_w]
                              rfl
                            refine pure_ (i := 9) (N := some 90) (v := ?_) (a' := ?_) #[true, true, true, true, true, true, false, true, true, true, false, false, false] rfl rfl (any_of HT_.out (by kernel_rfl)) (fun _ _ _ h => h) (Or.inl ⟨by rfl, ?_⟩) ?_ ?_
                            rotate_left
                            · intro w'
                              go_simp
                              with_reducible rfl
                            rotate_left
                            · simp only [Act.put, List.setIfInBounds_toArray, List.set_cons_zero, List.set_cons_succ, i64_w, i32_w]
                              rfl
                            refine take_ (i := 6) (N := some 87) (v := ?_) (a' := ?_) #[true, true, true, true, true, true, true, true, true, true, false, false, false] rfl rfl (take_ofW HT_.out HW_.out (by kernel_rfl)) (fun _ _ _ h => h) (Or.inl ⟨by rfl, ?_⟩) hHeld ?_ ?_
                            rotate_left
                            · rintro w' ⟨s0, s1, s2, s3⟩
                              go_simp
                              with_reducible rfl
                            rotate_left
                            · simp only [Act.put, List.setIfInBounds_toArray, List.set_cons_zero, List.set_cons_succ, i64_w, i32_w]
                              rfl
                            refine take_ (i := 10) (N := some 91) (v := ?_) (a' := ?_) #[true, true, true, true, true, true, true, true, true, true, true, false, false] rfl rfl (take_ofW HT_.out HW_.out (by kernel_rfl)) (fun _ _ _ h => h) (Or.inl ⟨by rfl, ?_⟩) hHeld ?_ ?_
                            rotate_left
                            · rintro w' ⟨s0, s1, s2, s3⟩
                              go_simp
                              with_reducible rfl
                            rotate_left
                            · simp only [Act.put, List.setIfInBounds_toArray, List.set_cons_zero, List.set_cons_succ, i64_w, i32_w]
                              rfl
                            refine pure_ (i := 11) (N := some 92) (v := ?_) (a' := ?_) #[true, true, true, true, true, true, true, true, true, true, true, true, false] rfl rfl (any_of HT_.out (by kernel_rfl)) (fun _ _ _ h => h) (Or.inl ⟨by rfl, ?_⟩) ?_ ?_
                            rotate_left
                            · intro w'
                              go_simp
                              with_reducible rfl
                            rotate_left
                            · simp only [Act.put, List.setIfInBounds_toArray, List.set_cons_zero, List.set_cons_succ, i64_w, i32_w]
                              rfl
                            refine pure_ (i := 12) (N := some 93) (v := ?_) (a' := ?_) #[true, true, true, true, true, true, true, true, true, true, true, true, true] rfl rfl (any_of HT_.out (by kernel_rfl)) (fun _ _ _ h => h) (Or.inl ⟨by rfl, ?_⟩) ?_ ?_
                            rotate_left
                            · intro w'
                              go_simp
                              with_reducible rfl
                            rotate_left
                            · simp only [Act.put, List.setIfInBounds_toArray, List.set_cons_zero, List.set_cons_succ, i64_w, i32_w]
                              rfl
                            refine done_ (done_of HT_.out (by kernel_rfl)) ?_
                            try go_wp2
                            go_roundg k2
                            case measure => have := HK1.out; have := HK2.out; omega
                            case rel => exact ⟨(wrap64 (x22_2 + 1)), (t154), (t155), (t156), (by first | rfl | (simp; done) | (simp [*]; done)), H', ⟨by have := HK1.out; have := HK2.out; omega⟩, ⟨by (with_reducible repeat (first | apply Kd.R_alloc | apply Kd.R_drewN | apply Kd.R_drew)); exact HO_13.out⟩, ⟨by (with_reducible repeat (first | apply Kd.R_alloc | apply Kd.R_drewN | apply Kd.R_drew)); exact HO_18.out⟩, ⟨by (with_reducible repeat (first | refine blk_drewN ?_ _ | refine blk_drew ?_ | refine blk_alloc ?_ _)); exact BK147.out⟩, ⟨by (with_reducible repeat (first | refine blk_drewN ?_ _ | refine blk_drew ?_ | refine blk_alloc ?_ _)); exact BK152.out⟩, ⟨by repeat (first | (with_reducible first | exact HB.out | apply below_alloc | apply pw_below_drewN | apply below_drew1 | refine below_set ?_ GE147.out | refine below_set ?_ GE152.out) | exact HB.out)⟩⟩
                          · rw [if_neg c49] at H
                            have c49b0 : (t154 == (rd t144 x22_2)) = false := beq_eq_false_iff_ne.mpr c49
                            have c49b1 : (t154 != (rd t144 x22_2)) = true := bne_iff_ne.mpr c49
                            obtain rfl := Option.some.inj H
                            try go_wp2
                            have n0_ := Aside0.mk (Kd.R_drew HO_13.out)
                            have n1_ := Aside0.mk (Kd.R_drew HO_18.out)
                            have n2_ := Aside0.mk (blk_drew BK147.out)
                            have n3_ := Aside0.mk (blk_drew BK152.out)
                            have n4_ := Aside0.mk (below_drew1 HB.out)
                            clear HO_13
                            clear HO_18
                            clear BK147
                            clear BK152
                            clear HB
                            have HO_13 := n0_
                            have HO_18 := n1_
                            have BK147 := n2_
                            have BK152 := n3_
                            have HB := n4_
                            clear n0_ n1_ n2_ n3_ n4_
                            have p153 : 0 ≤ (x22_2 : Int) := of_decide_eq_true (by first | (with_reducible assumption) | assumption)
                            have q153 : x22_2 < (y137.length : Int) := of_decide_eq_true (by first | (with_reducible assumption) | assumption)
                            obtain ⟨ad153, e153, hx153_0⟩ := Kd.at_bool (Kd.R_reads' HO_13.out).2.2 x22_2 p153 q153
                            cases e153
                            replace p153 := eq_true p153
                            replace q153 := eq_true q153
                            refine start_ (n := 11) (S := fun w' => w'.cell? ⟨gb152, 0, none⟩ = some (.int .i64 x153000_2) ∧ w'.cell? ⟨gb152, 1, none⟩ = some (.int .i64 x153001_2) ∧ w'.cell? ⟨gb152, 2, none⟩ = some (.int .i64 x153002_2) ∧ w'.cell? (ad153.add (x22_2).toNat) = some (.bool (rdOf false y137 x22_2))) (ds := [10]) #[false, false, false, false, false, false, false, false, false, false, false] (by kernel_rfl) rfl rfl ⟨(blk_cell BK152.out 0).trans rfl, (blk_cell BK152.out 1).trans rfl, (blk_cell BK152.out 2).trans rfl, hx153_0⟩ (fun hHeld => ?_); refine with_tabW klaxonlaw12_LifeParts.tab14 klaxonlaw12_LifeParts.bits14 (fun HT_ HW_ => ?_)
                            generalize wr.drew = w58 at HO_13 HO_18 BK147 BK152 HB hx153_0 hHeld ⊢
                            refine pure_ (i := 1) (N := some 72) (v := ?_) (a' := ?_) #[false, true, false, false, false, false, false, false, false, false, false] rfl rfl (any_of HT_.out (by kernel_rfl)) (fun _ _ _ h => h) (Or.inl ⟨by rfl, ?_⟩) ?_ ?_
                            rotate_left
                            · intro w'
                              go_simp
                              with_reducible rfl
                            rotate_left
                            · simp only [Act.put, List.setIfInBounds_toArray, List.set_cons_zero, List.set_cons_succ, i64_w, i32_w]
                              rfl
                            refine pure_ (i := 2) (N := some 73) (v := ?_) (a' := ?_) #[false, true, true, false, false, false, false, false, false, false, false] rfl rfl (any_of HT_.out (by kernel_rfl)) (fun _ _ _ h => h) (Or.inl ⟨by rfl, ?_⟩) ?_ ?_
                            rotate_left
                            · intro w'
                              go_simp
                              with_reducible rfl
                            rotate_left
                            · simp only [Act.put, List.setIfInBounds_toArray, List.set_cons_zero, List.set_cons_succ, i64_w, i32_w]
                              rfl
                            refine pure_ (i := 3) (N := some 74) (v := ?_) (a' := ?_) #[false, true, true, true, false, false, false, false, false, false, false] rfl rfl (any_of HT_.out (by kernel_rfl)) (fun _ _ _ h => h) (Or.inl ⟨by rfl, ?_⟩) ?_ ?_
                            rotate_left
                            · intro w'
                              go_simp
                              with_reducible rfl
                            rotate_left
                            · simp only [Act.put, List.setIfInBounds_toArray, List.set_cons_zero, List.set_cons_succ, i64_w, i32_w]
                              rfl
                            refine pure_ (i := 4) (N := some 75) (v := ?_) (a' := ?_) #[false, true, true, true, true, false, false, false, false, false, false] rfl rfl (any_of HT_.out (by kernel_rfl)) (fun _ _ _ h => h) (Or.inl ⟨by rfl, ?_⟩) ?_ ?_
                            rotate_left
                            · intro w'
                              go_simp
                              with_reducible rfl
                            rotate_left
                            · simp only [Act.put, List.setIfInBounds_toArray, List.set_cons_zero, List.set_cons_succ, i64_w, i32_w]
                              rfl
                            refine pure_ (i := 5) (N := some 76) (v := ?_) (a' := ?_) #[false, true, true, true, true, true, false, false, false, false, false] rfl rfl (any_of HT_.out (by kernel_rfl)) (fun _ _ _ h => h) (Or.inl ⟨by rfl, ?_⟩) ?_ ?_
                            rotate_left
                            · intro w'
                              go_simp
                              with_reducible rfl
                            rotate_left
                            · simp only [Act.put, List.setIfInBounds_toArray, List.set_cons_zero, List.set_cons_succ, i64_w, i32_w]
                              rfl
                            refine pure_ (i := 6) (N := some 77) (v := ?_) (a' := ?_) #[false, true, true, true, true, true, true, false, false, false, false] rfl rfl (any_of HT_.out (by kernel_rfl)) (fun _ _ _ h => h) (Or.inl ⟨by rfl, ?_⟩) ?_ ?_
                            rotate_left
                            · intro w'
                              go_simp
                              with_reducible rfl
                            rotate_left
                            · simp only [Act.put, List.setIfInBounds_toArray, List.set_cons_zero, List.set_cons_succ, i64_w, i32_w]
                              rfl
                            refine pure_ (i := 7) (N := some 78) (v := ?_) (a' := ?_) #[false, true, true, true, true, true, true, true, false, false, false] rfl rfl (any_of HT_.out (by kernel_rfl)) (fun _ _ _ h => h) (Or.inl ⟨by rfl, ?_⟩) ?_ ?_
                            rotate_left
                            · intro w'
                              go_simp
                              with_reducible rfl
                            rotate_left
                            · simp only [Act.put, List.setIfInBounds_toArray, List.set_cons_zero, List.set_cons_succ, i64_w, i32_w]
                              rfl
                            refine take_ (i := 0) (N := some 71) (v := ?_) (a' := ?_) #[true, true, true, true, true, true, true, true, false, false, false] rfl rfl (take_ofW HT_.out HW_.out (by kernel_rfl)) (fun _ _ _ h => h) (Or.inl ⟨by rfl, ?_⟩) hHeld ?_ ?_
                            rotate_left
                            · rintro w' ⟨s0, s1, s2, s3⟩
                              go_simp
                              with_reducible rfl
                            rotate_left
                            · simp only [Act.put, List.setIfInBounds_toArray, List.set_cons_zero, List.set_cons_succ, i64_w, i32_w]
                              rfl
                            refine take_ (i := 8) (N := some 79) (v := ?_) (a' := ?_) #[true, true, true, true, true, true, true, true, true, false, false] rfl rfl (take_ofW HT_.out HW_.out (by kernel_rfl)) (fun _ _ _ h => h) (Or.inl ⟨by rfl, ?_⟩) hHeld ?_ ?_
                            rotate_left
                            · rintro w' ⟨s0, s1, s2, s3⟩
                              go_simp
                              with_reducible rfl
                            rotate_left
                            · simp only [Act.put, List.setIfInBounds_toArray, List.set_cons_zero, List.set_cons_succ, i64_w, i32_w]
                              rfl
                            refine one_ (i := 9) (N := some 80) #[true, true, true, true, true, true, true, true, true, true, false] rfl rfl (one_of HT_.out (by kernel_rfl)) (by decide) (fun K hK => ?_)
                            refine goes_ Try.func27 (by kernel_rfl) rfl #[.agg #[.int .i64 x153000_2, .int .i64 x153001_2, .int .i64 x153002_2], .int .i64 x22_2, .int .i64 t140, .int .i64 t141, .int .i64 t142, .bool (rdOf false y137 x22_2)] (by rfl) rfl rfl (by (try simp only [List.map_toArray, List.map_cons, List.map_nil]); first | done | rfl | (simp only [List.length_drop, List.length_take]; rfl)) ?_
                            with_reducible refine (life_Life_Next.calls k2 x153000_2 x153001_2 x153002_2 x22_2 t140 t141 t142 (rdOf false y137 x22_2) t154 t155 t156 _ A38.out).mono ?_
                            rintro e w59 ⟨rfl, hb⟩
                            have HS3_ := (hb.cell (World.block_lt_of_cell? _ _ (hHeld.2.2.2))).trans (hHeld.2.2.2)
                            refine ⟨_, rfl, ?_⟩
                            have n0_ := Aside0.mk (Kd.R_below (by (with_reducible repeat (first | apply Kd.R_alloc | apply Kd.R_drewN | apply Kd.R_drew)); exact HO_13.out) hb)
                            have n1_ := Aside0.mk (Kd.R_below (by (with_reducible repeat (first | apply Kd.R_alloc | apply Kd.R_drewN | apply Kd.R_drew)); exact HO_18.out) hb)
                            have n2_ := Aside0.mk (blk_below (g := gb147) (o := .cells #[.int .i64 x148000_1, .int .i64 x148001_1, .int .i64 x148002_1] 41 (0, 0)) (by (with_reducible repeat (first | refine blk_drewN ?_ _ | refine blk_drew ?_ | refine blk_alloc ?_ _)); exact BK147.out) hb)
                            have n3_ := Aside0.mk (blk_below (g := gb152) (o := .cells #[.int .i64 x153000_2, .int .i64 x153001_2, .int .i64 x153002_2] 41 (0, 0)) (by (with_reducible repeat (first | refine blk_drewN ?_ _ | refine blk_drew ?_ | refine blk_alloc ?_ _)); exact BK152.out) hb)
                            have n4_ := Aside0.mk (below_step (by repeat (first | (with_reducible first | exact HB.out | apply below_alloc | apply pw_below_drewN | apply below_drew1 | refine below_set ?_ GE147.out | refine below_set ?_ GE152.out) | exact HB.out)) hb)
                            clear HO_13
                            clear HO_18
                            clear BK147
                            clear BK152
                            clear HB
                            have HO_13 := n0_
                            have HO_18 := n1_
                            have BK147 := n2_
                            have BK152 := n3_
                            have HB := n4_
                            clear n0_ n1_ n2_ n3_ n4_
                            (try clear hb)
                            (try clear hb2)
                            (try clear hk)
                            (try clear hi)
                            refine hK.out _ _ ⟨(blk_cell BK152.out 0).trans rfl, (blk_cell BK152.out 1).trans rfl, (blk_cell BK152.out 2).trans rfl, HS3_⟩ (fun hHeld => ?_)
                            clear hK K
                            refine norm_ (a' := ?_) ?_ ?_
                            rotate_left
                            · show Act.put _ (some 80) _ = _
                              simp only [Act.put, List.setIfInBounds_toArray, List.set_cons_zero, List.set_cons_succ, i64_w, i32_w]
                              rfl
                            refine last_ (i := 10) (N := none) #[true, true, true, true, true, true, true, true, true, true, true] rfl rfl (one_of HT_.out (by kernel_rfl)) (by decide) (fun K hK => ?_)
                            have hs60 : w59.cell? ⟨gb152, 0, none⟩ = some (.int .i64 x153000_2) := (blk_cell BK152.out 0).trans rfl
                            have hfs60 := blk_frozen BK152.out 0
                            have hns60_0 := NB147_152.out
                            have hms60_0 := NB152_147.out
                            have hs61 : w59.cell? ⟨gb152, 1, none⟩ = some (.int .i64 x153001_2) := (blk_cell BK152.out 1).trans rfl
                            have hfs61 := blk_frozen BK152.out 1
                            have hns61_0 := NB147_152.out
                            have hms61_0 := NB152_147.out
                            have hs62 : w59.cell? ⟨gb152, 2, none⟩ = some (.int .i64 x153002_2) := (blk_cell BK152.out 2).trans rfl
                            have hfs62 := blk_frozen BK152.out 2
                            have hns62_0 := NB147_152.out
                            have hms62_0 := NB152_147.out
                            refine skip_ (w1 := ?_) (by rfl) rfl ?_ ?_
                            rotate_left
                            · go_simp
                              rfl
                            refine hK.out _ _ ?_
                            clear hK K
                            refine done_ (done_of HT_.out (by kernel_rfl)) ?_
                            try go_wp2
                            have n0_ : Aside0 (Kd.R Kd.bool 4 (((w59.setCell ⟨gb152, 0, none⟩ (.int .i64 t154)).setCell ⟨gb152, 1, none⟩ (.int .i64 t155)).setCell ⟨gb152, 2, none⟩ (.int .i64 t156)) w.heap.size (fun _ => True) (.slice (some ad153) y137.length co20) y137) := ⟨by (with_reducible repeat (first | apply Kd.R_alloc | apply Kd.R_drewN | apply Kd.R_drew)); exact Kd.R_mono (Kd.R_far (p := ⟨gb152, 2, none⟩) (Kd.R_far (p := ⟨gb152, 1, none⟩) (Kd.R_far (p := ⟨gb152, 0, none⟩) (Kd.R_types HO_13.out BK152.out (by decide)) (fun _ hk => hk.2) (.int .i64 t154)) (fun _ hk => hk.2) (.int .i64 t155)) (fun _ hk => hk.2) (.int .i64 t156)) (fun _ hk => trivial)⟩
                            have n1_ : Aside0 (Kd.R (Kd.int .i64) 3 (((w59.setCell ⟨gb152, 0, none⟩ (.int .i64 t154)).setCell ⟨gb152, 1, none⟩ (.int .i64 t155)).setCell ⟨gb152, 2, none⟩ (.int .i64 t156)) w.heap.size (fun _ => True) v145 t144) := ⟨by (with_reducible repeat (first | apply Kd.R_alloc | apply Kd.R_drewN | apply Kd.R_drew)); exact Kd.R_mono (Kd.R_far (p := ⟨gb152, 2, none⟩) (Kd.R_far (p := ⟨gb152, 1, none⟩) (Kd.R_far (p := ⟨gb152, 0, none⟩) (Kd.R_types HO_18.out BK152.out (by decide)) (fun _ hk => hk.2) (.int .i64 t154)) (fun _ hk => hk.2) (.int .i64 t155)) (fun _ hk => hk.2) (.int .i64 t156)) (fun _ hk => trivial)⟩
                            have n2_ : Aside0 ((((w59.setCell ⟨gb152, 0, none⟩ (.int .i64 t154)).setCell ⟨gb152, 1, none⟩ (.int .i64 t155)).setCell ⟨gb152, 2, none⟩ (.int .i64 t156)).heap[gb147]? = some (.cells #[.int .i64 x148000_1, .int .i64 x148001_1, .int .i64 x148002_1] 41 (0, 0))) := ⟨by (with_reducible repeat (first | refine blk_drewN ?_ _ | refine blk_drew ?_ | refine blk_alloc ?_ _)); refine blk_far ?_ NB147_152.out _; (with_reducible repeat (first | refine blk_drewN ?_ _ | refine blk_drew ?_ | refine blk_alloc ?_ _)); refine blk_far ?_ NB147_152.out _; (with_reducible repeat (first | refine blk_drewN ?_ _ | refine blk_drew ?_ | refine blk_alloc ?_ _)); refine blk_far ?_ NB147_152.out _; (with_reducible repeat (first | refine blk_drewN ?_ _ | refine blk_drew ?_ | refine blk_alloc ?_ _)); exact BK147.out⟩
                            have n3_ : Aside0 ((((w59.setCell ⟨gb152, 0, none⟩ (.int .i64 t154)).setCell ⟨gb152, 1, none⟩ (.int .i64 t155)).setCell ⟨gb152, 2, none⟩ (.int .i64 t156)).heap[gb152]? = some (.cells #[.int .i64 t154, .int .i64 t155, .int .i64 t156] 41 (0, 0))) := ⟨by (with_reducible repeat (first | refine blk_drewN ?_ _ | refine blk_drew ?_ | refine blk_alloc ?_ _)); refine blk_put (cs := #[.int .i64 t154, .int .i64 t155, .int .i64 x153002_2]) ?_ 2 _ rfl; (with_reducible repeat (first | refine blk_drewN ?_ _ | refine blk_drew ?_ | refine blk_alloc ?_ _)); refine blk_put (cs := #[.int .i64 t154, .int .i64 x153001_2, .int .i64 x153002_2]) ?_ 1 _ rfl; (with_reducible repeat (first | refine blk_drewN ?_ _ | refine blk_drew ?_ | refine blk_alloc ?_ _)); refine blk_put (cs := #[.int .i64 x153000_2, .int .i64 x153001_2, .int .i64 x153002_2]) ?_ 0 _ rfl; (with_reducible repeat (first | refine blk_drewN ?_ _ | refine blk_drew ?_ | refine blk_alloc ?_ _)); exact BK152.out⟩
                            have n4_ : Aside0 (Below w.heap.size w (((w59.setCell ⟨gb152, 0, none⟩ (.int .i64 t154)).setCell ⟨gb152, 1, none⟩ (.int .i64 t155)).setCell ⟨gb152, 2, none⟩ (.int .i64 t156))) := ⟨by repeat (first | (with_reducible first | exact HB.out | apply below_alloc | apply pw_below_drewN | apply below_drew1 | refine below_set ?_ GE147.out | refine below_set ?_ GE152.out) | exact HB.out)⟩
                            (try clear HO_13)
                            (try clear HO_18)
                            (try clear BK147)
                            (try clear BK152)
                            (try clear HB)
                            generalize (((w59.setCell ⟨gb152, 0, none⟩ (.int .i64 t154)).setCell ⟨gb152, 1, none⟩ (.int .i64 t155)).setCell ⟨gb152, 2, none⟩ (.int .i64 t156)) = w63 at n0_ n1_ n2_ n3_ n4_ ⊢
                            have HO_13 := n0_
                            have HO_18 := n1_
                            have BK147 := n2_
                            have BK152 := n3_
                            have HB := n4_
                            clear n0_ n1_ n2_ n3_ n4_
                            have n0_ := Aside0.mk (Kd.R_drew HO_13.out)
                            have n1_ := Aside0.mk (Kd.R_drew HO_18.out)
                            have n2_ := Aside0.mk (blk_drew BK147.out)
                            have n3_ := Aside0.mk (blk_drew BK152.out)
                            have n4_ := Aside0.mk (below_drew1 HB.out)
                            clear HO_13
                            clear HO_18
                            clear BK147
                            clear BK152
                            clear HB
                            have HO_13 := n0_
                            have HO_18 := n1_
                            have BK147 := n2_
                            have BK152 := n3_
                            have HB := n4_
                            clear n0_ n1_ n2_ n3_ n4_
                            obtain ⟨Ao65, co65, eo65⟩ := Kd.R_slice HO_18.out
                            (first | subst eo65 | (injection eo65 with f1_ f2_ f3_; have f4_ := f1_.symm; have f5_ := f3_.symm; clear f1_ f2_ f3_; subst f4_; subst f5_))
                            have p157 : 0 ≤ (x22_2 : Int) := of_decide_eq_true (by first | (with_reducible assumption) | assumption)
                            have q157 : x22_2 < (t144.length : Int) := of_decide_eq_true (by first | (with_reducible assumption) | assumption)
                            obtain ⟨ad157, e157, hx157_0⟩ := Kd.at_int (Kd.R_reads' HO_18.out).2.2 x22_2 p157 q157
                            cases e157
                            replace p157 := eq_true p157
                            replace q157 := eq_true q157
                            refine start_ (n := 13) (S := fun w' => w'.cell? ⟨gb152, 0, none⟩ = some (.int .i64 t154) ∧ w'.cell? ⟨gb152, 1, none⟩ = some (.int .i64 t155) ∧ w'.cell? ⟨gb152, 2, none⟩ = some (.int .i64 t156) ∧ w'.cell? (ad157.add (x22_2).toNat) = some (.int .i64 (rd t144 x22_2))) (ds := []) #[false, false, false, false, false, false, false, false, false, false, false, false, false] (by kernel_rfl) rfl rfl ⟨(blk_cell BK152.out 0).trans rfl, (blk_cell BK152.out 1).trans rfl, (blk_cell BK152.out 2).trans rfl, hx157_0⟩ (fun hHeld => ?_); refine with_tabW klaxonlaw12_LifeParts.tab15 klaxonlaw12_LifeParts.bits15 (fun HT_ HW_ => ?_)
                            generalize w63.drew = w64 at HO_13 HO_18 BK147 BK152 HB hx157_0 hHeld ⊢
                            refine pure_ (i := 0) (N := some 81) (v := ?_) (a' := ?_) #[true, false, false, false, false, false, false, false, false, false, false, false, false] rfl rfl (any_of HT_.out (by kernel_rfl)) (fun _ _ _ h => h) (Or.inl ⟨by rfl, ?_⟩) ?_ ?_
                            rotate_left
                            · intro w'
                              go_simp
                              with_reducible rfl
                            rotate_left
                            · simp only [Act.put, List.setIfInBounds_toArray, List.set_cons_zero, List.set_cons_succ, i64_w, i32_w]
                              rfl
                            refine pure_ (i := 1) (N := some 82) (v := ?_) (a' := ?_) #[true, true, false, false, false, false, false, false, false, false, false, false, false] rfl rfl (any_of HT_.out (by kernel_rfl)) (fun _ _ _ h => h) (Or.inl ⟨by rfl, ?_⟩) ?_ ?_
                            rotate_left
                            · intro w'
                              go_simp
                              with_reducible rfl
                            rotate_left
                            · simp only [Act.put, List.setIfInBounds_toArray, List.set_cons_zero, List.set_cons_succ, i64_w, i32_w]
                              rfl
                            refine pure_ (i := 2) (N := some 83) (v := ?_) (a' := ?_) #[true, true, true, false, false, false, false, false, false, false, false, false, false] rfl rfl (any_of HT_.out (by kernel_rfl)) (fun _ _ _ h => h) (Or.inl ⟨by rfl, ?_⟩) ?_ ?_
                            rotate_left
                            · intro w'
                              go_simp
                              with_reducible rfl
                            rotate_left
                            · simp only [Act.put, List.setIfInBounds_toArray, List.set_cons_zero, List.set_cons_succ, i64_w, i32_w]
                              rfl
                            refine pure_ (i := 3) (N := some 84) (v := ?_) (a' := ?_) #[true, true, true, true, false, false, false, false, false, false, false, false, false] rfl rfl (any_of HT_.out (by kernel_rfl)) (fun _ _ _ h => h) (Or.inl ⟨by rfl, ?_⟩) ?_ ?_
                            rotate_left
                            · intro w'
                              go_simp
                              with_reducible rfl
                            rotate_left
                            · simp only [Act.put, List.setIfInBounds_toArray, List.set_cons_zero, List.set_cons_succ, i64_w, i32_w]
                              rfl
                            refine pure_ (i := 4) (N := some 85) (v := ?_) (a' := ?_) #[true, true, true, true, true, false, false, false, false, false, false, false, false] rfl rfl (any_of HT_.out (by kernel_rfl)) (fun _ _ _ h => h) (Or.inl ⟨by rfl, ?_⟩) ?_ ?_
                            rotate_left
                            · intro w'
                              go_simp
                              with_reducible rfl
                            rotate_left
                            · simp only [Act.put, List.setIfInBounds_toArray, List.set_cons_zero, List.set_cons_succ, i64_w, i32_w]
                              rfl
                            refine pure_ (i := 5) (N := some 86) (v := ?_) (a' := ?_) #[true, true, true, true, true, true, false, false, false, false, false, false, false] rfl rfl (any_of HT_.out (by kernel_rfl)) (fun _ _ _ h => h) (Or.inl ⟨by rfl, ?_⟩) ?_ ?_
                            rotate_left
                            · intro w'
                              go_simp
                              with_reducible rfl
                            rotate_left
                            · simp only [Act.put, List.setIfInBounds_toArray, List.set_cons_zero, List.set_cons_succ, i64_w, i32_w]
                              rfl
                            refine pure_ (i := 7) (N := some 88) (v := ?_) (a' := ?_) #[true, true, true, true, true, true, false, true, false, false, false, false, false] rfl rfl (any_of HT_.out (by kernel_rfl)) (fun _ _ _ h => h) (Or.inl ⟨by rfl, ?_⟩) ?_ ?_
                            rotate_left
                            · intro w'
                              go_simp
                              with_reducible rfl
                            rotate_left
                            · simp only [Act.put, List.setIfInBounds_toArray, List.set_cons_zero, List.set_cons_succ, i64_w, i32_w]
                              rfl
                            refine pure_ (i := 8) (N := some 89) (v := ?_) (a' := ?_) #[true, true, true, true, true, true, false, true, true, false, false, false, false] rfl rfl (any_of HT_.out (by kernel_rfl)) (fun _ _ _ h => h) (Or.inl ⟨by rfl, ?_⟩) ?_ ?_
                            rotate_left
                            · intro w'
                              go_simp
                              with_reducible rfl
                            rotate_left
                            · simp only [Act.put, List.setIfInBounds_toArray, List.set_cons_zero, List.set_cons_succ, i64_w, i32_w]
                              rfl
                            refine pure_ (i := 9) (N := some 90) (v := ?_) (a' := ?_) #[true, true, true, true, true, true, false, true, true, true, false, false, false] rfl rfl (any_of HT_.out (by kernel_rfl)) (fun _ _ _ h => h) (Or.inl ⟨by rfl, ?_⟩) ?_ ?_
                            rotate_left
                            · intro w'
                              go_simp
                              with_reducible rfl
                            rotate_left
                            · simp only [Act.put, List.setIfInBounds_toArray, List.set_cons_zero, List.set_cons_succ, i64_w, i32_w]
                              rfl
                            refine take_ (i := 6) (N := some 87) (v := ?_) (a' := ?_) #[true, true, true, true, true, true, true, true, true, true, false, false, false] rfl rfl (take_ofW HT_.out HW_.out (by kernel_rfl)) (fun _ _ _ h => h) (Or.inl ⟨by rfl, ?_⟩) hHeld ?_ ?_
                            rotate_left
                            · rintro w' ⟨s0, s1, s2, s3⟩
                              go_simp
                              with_reducible rfl
                            rotate_left
                            · simp only [Act.put, List.setIfInBounds_toArray, List.set_cons_zero, List.set_cons_succ, i64_w, i32_w]
                              rfl
                            refine take_ (i := 10) (N := some 91) (v := ?_) (a' := ?_) #[true, true, true, true, true, true, true, true, true, true, true, false, false] rfl rfl (take_ofW HT_.out HW_.out (by kernel_rfl)) (fun _ _ _ h => h) (Or.inl ⟨by rfl, ?_⟩) hHeld ?_ ?_
                            rotate_left
                            · rintro w' ⟨s0, s1, s2, s3⟩
                              go_simp
                              with_reducible rfl
                            rotate_left
                            · simp only [Act.put, List.setIfInBounds_toArray, List.set_cons_zero, List.set_cons_succ, i64_w, i32_w]
                              rfl
                            refine pure_ (i := 11) (N := some 92) (v := ?_) (a' := ?_) #[true, true, true, true, true, true, true, true, true, true, true, true, false] rfl rfl (any_of HT_.out (by kernel_rfl)) (fun _ _ _ h => h) (Or.inl ⟨by rfl, ?_⟩) ?_ ?_
                            rotate_left
                            · intro w'
                              go_simp
                              with_reducible rfl
                            rotate_left
                            · simp only [Act.put, List.setIfInBounds_toArray, List.set_cons_zero, List.set_cons_succ, i64_w, i32_w]
                              rfl
                            refine pure_ (i := 12) (N := some 93) (v := ?_) (a' := ?_) #[true, true, true, true, true, true, true, true, true, true, true, true, true] rfl rfl (any_of HT_.out (by kernel_rfl)) (fun _ _ _ h => h) (Or.inl ⟨by rfl, ?_⟩) ?_ ?_
                            rotate_left
                            · intro w'
                              go_simp
                              with_reducible rfl
                            rotate_left
                            · simp only [Act.put, List.setIfInBounds_toArray, List.set_cons_zero, List.set_cons_succ, i64_w, i32_w]
                              rfl
                            refine done_ (done_of HT_.out (by kernel_rfl)) ?_
                            try go_wp2
                            go_ret
                            exact ⟨by first | rfl | (simp [errW_none, errW_some] <;> rfl) | (simp only [← hji7]; first | rfl | (simp [errW_none, errW_some] <;> rfl)) | (simp [*, errW_none, errW_some] <;> rfl), by repeat (first | (with_reducible first | exact HB.out | apply below_alloc | apply pw_below_drewN | apply below_drew1 | refine below_set ?_ GE147.out | refine below_set ?_ GE152.out) | exact HB.out)⟩
                        · rw [if_neg c48] at H
                          exact absurd H (by simp)
                    · rw [if_neg c37] at H
                      exact absurd H (by simp)
                  · rw [if_neg c36] at H
                    have c36b0 : decide (x22_2 < (y137.length : Int)) = false := decide_eq_false c36
                    clear c36
                    replace H := Option.bind_eq_some_iff.mp H
                    obtain ⟨t158, A660, H⟩ := H
                    replace H : ((life_Life_Next.f k2 x148000_1 x148001_1 x148002_1 (wrap64 ((wrap64 (t143 + 1)) + t158)) t140 t141 t142 true).bind fun bt159 => ((life_Life_Next.f k2 x148000_1 x148001_1 x148002_1 (wrap64 ((wrap64 (t143 + 1)) + t158)) t140 t141 t142 false).bind fun bt163 => (if bt159.1 = 0 then (klaxonlaw12_LifeParts.j2 k2 t140 t141 t142 true) else (if x148000_1 = 2 then (if bt159.1 = 2 then (if bt163.1 = 1 then (klaxonlaw12_LifeParts.j2 k2 t140 t141 t142 true) else (klaxonlaw12_LifeParts.j2 k2 t140 t141 t142 false)) else (klaxonlaw12_LifeParts.j2 k2 t140 t141 t142 true)) else (if bt163.1 = 1 then (klaxonlaw12_LifeParts.j2 k2 t140 t141 t142 true) else (klaxonlaw12_LifeParts.j2 k2 t140 t141 t142 (!(bt163.1 == 0) || (!(bt163.2.1 == 0) || (!(bt163.2.2 == 0)))))))))) = some r := H
                    have A66 := Aside0.mk A660
                    clear A660
                    replace H := Option.bind_eq_some_iff.mp H
                    obtain ⟨⟨t159, t160, t161⟩, A670, H⟩ := H
                    replace H : ((life_Life_Next.f k2 x148000_1 x148001_1 x148002_1 (wrap64 ((wrap64 (t143 + 1)) + t158)) t140 t141 t142 false).bind fun bt163 => (if t159 = 0 then (klaxonlaw12_LifeParts.j2 k2 t140 t141 t142 true) else (if x148000_1 = 2 then (if t159 = 2 then (if bt163.1 = 1 then (klaxonlaw12_LifeParts.j2 k2 t140 t141 t142 true) else (klaxonlaw12_LifeParts.j2 k2 t140 t141 t142 false)) else (klaxonlaw12_LifeParts.j2 k2 t140 t141 t142 true)) else (if bt163.1 = 1 then (klaxonlaw12_LifeParts.j2 k2 t140 t141 t142 true) else (klaxonlaw12_LifeParts.j2 k2 t140 t141 t142 (!(bt163.1 == 0) || (!(bt163.2.1 == 0) || (!(bt163.2.2 == 0))))))))) = some r := H
                    have A67 := Aside0.mk A670
                    clear A670
                    replace H := Option.bind_eq_some_iff.mp H
                    obtain ⟨⟨t163, t164, t165⟩, A680, H⟩ := H
                    replace H : (if t159 = 0 then (klaxonlaw12_LifeParts.j2 k2 t140 t141 t142 true) else (if x148000_1 = 2 then (if t159 = 2 then (if t163 = 1 then (klaxonlaw12_LifeParts.j2 k2 t140 t141 t142 true) else (klaxonlaw12_LifeParts.j2 k2 t140 t141 t142 false)) else (klaxonlaw12_LifeParts.j2 k2 t140 t141 t142 true)) else (if t163 = 1 then (klaxonlaw12_LifeParts.j2 k2 t140 t141 t142 true) else (klaxonlaw12_LifeParts.j2 k2 t140 t141 t142 (!(t163 == 0) || (!(t164 == 0) || (!(t165 == 0)))))))) = some r := H
                    have A68 := Aside0.mk A680
                    clear A680
                    have HC69 := Aside0.mk H
                    clear H
                    go_upto_region 20 with (first | ((with_reducible refine gate_callee (f := 22) rfl ?_); refine goesL_ (some 97) rfl rfl Try.func22 (by kernel_rfl) rfl #[.int .i64 a5, .int .i64 0, .int .i64 60] rfl (by (try simp only [List.map_toArray, List.map_cons, List.map_nil]); first | done | rfl | (simp only [List.length_drop, List.length_take]; rfl)) ?_; (with_reducible refine (klaxonbook_Within.calls a5 0 60 t158 _ A66.out).mono ?_); rintro e w' ⟨rfl, ⟨nd, rfl⟩⟩; refine ⟨_, rfl, ?_⟩; (try (rw [drewN_self wr]; generalize hq_ : World.drewN wr _ = wr; have n0_ : Aside0 (Kd.R Kd.bool 4 wr w.heap.size (fun _ => True) (.slice Ao20 y137.length co20) y137) := ⟨by rw [← hq_]; exact (by (with_reducible repeat (first | apply Kd.R_alloc | apply Kd.R_drewN | apply Kd.R_drew)); exact HO_13.out)⟩; have n1_ : Aside0 (Kd.R (Kd.int .i64) 3 wr w.heap.size (fun _ => True) v145 t144) := ⟨by rw [← hq_]; exact (by (with_reducible repeat (first | apply Kd.R_alloc | apply Kd.R_drewN | apply Kd.R_drew)); exact HO_18.out)⟩; have n2_ : Aside0 (wr.heap[gb147]? = some (.cells #[.int .i64 x148000_1, .int .i64 x148001_1, .int .i64 x148002_1] 41 (0, 0))) := ⟨by rw [← hq_]; exact (by (with_reducible repeat (first | refine blk_drewN ?_ _ | refine blk_drew ?_ | refine blk_alloc ?_ _)); exact BK147.out)⟩; have n3_ : Aside0 (wr.heap[gb152]? = some (.cells #[.int .i64 x153000_2, .int .i64 x153001_2, .int .i64 x153002_2] 41 (0, 0))) := ⟨by rw [← hq_]; exact (by (with_reducible repeat (first | refine blk_drewN ?_ _ | refine blk_drew ?_ | refine blk_alloc ?_ _)); exact BK152.out)⟩; have n4_ : Aside0 (Below w.heap.size w wr) := ⟨by rw [← hq_]; exact (by repeat (first | (with_reducible first | exact HB.out | apply below_alloc | apply pw_below_drewN | apply below_drew1 | refine below_set ?_ GE147.out | refine below_set ?_ GE152.out) | exact HB.out))⟩; clear HO_13 HO_18 BK147 BK152 HB hq_; have HO_13 := n0_; have HO_18 := n1_; have BK147 := n2_; have BK152 := n3_; have HB := n4_; clear n0_ n1_ n2_ n3_ n4_)); have hnb70 := NB147_152.out; have hnc70 := NB152_147.out; have hcz71_0 : wr.cell? ⟨gb147, 0, none⟩ = some (.int .i64 x148000_1) := (blk_cell BK147.out 0).trans rfl; have hcz71_1 : wr.cell? ⟨gb147, 1, none⟩ = some (.int .i64 x148001_1) := (blk_cell BK147.out 1).trans rfl; have hcz71_2 : wr.cell? ⟨gb147, 2, none⟩ = some (.int .i64 x148002_1) := (blk_cell BK147.out 2).trans rfl; have hfz71_0 := blk_frozen BK147.out 0; have hfz71_1 := blk_frozen BK147.out 1; have hfz71_2 := blk_frozen BK147.out 2) | ((with_reducible refine gate_callee (f := 27) rfl ?_); refine goesL_ (some 104) rfl rfl Try.func27 (by kernel_rfl) rfl #[.agg #[.int .i64 x148000_1, .int .i64 x148001_1, .int .i64 x148002_1], .int .i64 (wrap64 ((wrap64 (t143 + 1)) + t158)), .int .i64 t140, .int .i64 t141, .int .i64 t142, .bool true] rfl (by (try simp only [List.map_toArray, List.map_cons, List.map_nil]); first | done | rfl | (simp only [List.length_drop, List.length_take]; rfl)) ?_; (with_reducible refine (life_Life_Next.calls k2 x148000_1 x148001_1 x148002_1 (wrap64 ((wrap64 (t143 + 1)) + t158)) t140 t141 t142 true t159 t160 t161 _ A67.out).mono ?_); rintro e w72 ⟨rfl, hb⟩; refine ⟨_, rfl, ?_⟩; have n0_ := Aside0.mk (Kd.R_below (by (with_reducible repeat (first | apply Kd.R_alloc | apply Kd.R_drewN | apply Kd.R_drew)); exact HO_13.out) hb); have n1_ := Aside0.mk (Kd.R_below (by (with_reducible repeat (first | apply Kd.R_alloc | apply Kd.R_drewN | apply Kd.R_drew)); exact HO_18.out) hb); have n2_ := Aside0.mk (blk_below (g := gb147) (o := .cells #[.int .i64 x148000_1, .int .i64 x148001_1, .int .i64 x148002_1] 41 (0, 0)) (by (with_reducible repeat (first | refine blk_drewN ?_ _ | refine blk_drew ?_ | refine blk_alloc ?_ _)); exact BK147.out) hb); have n3_ := Aside0.mk (blk_below (g := gb152) (o := .cells #[.int .i64 x153000_2, .int .i64 x153001_2, .int .i64 x153002_2] 41 (0, 0)) (by (with_reducible repeat (first | refine blk_drewN ?_ _ | refine blk_drew ?_ | refine blk_alloc ?_ _)); exact BK152.out) hb); have n4_ := Aside0.mk (below_step (by repeat (first | (with_reducible first | exact HB.out | apply below_alloc | apply pw_below_drewN | apply below_drew1 | refine below_set ?_ GE147.out | refine below_set ?_ GE152.out) | exact HB.out)) hb); clear HO_13; clear HO_18; clear BK147; clear BK152; clear HB; have HO_13 := n0_; have HO_18 := n1_; have BK147 := n2_; have BK152 := n3_; have HB := n4_; clear n0_ n1_ n2_ n3_ n4_; (try clear hb); (try clear hb2); (try clear hk); (try clear hi)) | ((with_reducible refine gate_dst (N := 24) rfl ?_); refine box_event ?hg (N := 24) ?hd (cs := #[.int .i64 0, .int .i64 0, .int .i64 0]) (t := 41) ?hr ?_; (case hd => rfl); (case hg => rfl); (case hr => first | (go_simp; done) | (go_simp; rfl)); intro gb162 hg w73 hbox hb; have n0_ := Aside0.mk (Kd.R_below (by (with_reducible repeat (first | apply Kd.R_alloc | apply Kd.R_drewN | apply Kd.R_drew)); exact HO_13.out) hb); have n1_ := Aside0.mk (Kd.R_below (by (with_reducible repeat (first | apply Kd.R_alloc | apply Kd.R_drewN | apply Kd.R_drew)); exact HO_18.out) hb); have n2_ := Aside0.mk (blk_below (g := gb147) (o := .cells #[.int .i64 x148000_1, .int .i64 x148001_1, .int .i64 x148002_1] 41 (0, 0)) (by (with_reducible repeat (first | refine blk_drewN ?_ _ | refine blk_drew ?_ | refine blk_alloc ?_ _)); exact BK147.out) hb); have n3_ := Aside0.mk (blk_below (g := gb152) (o := .cells #[.int .i64 x153000_2, .int .i64 x153001_2, .int .i64 x153002_2] 41 (0, 0)) (by (with_reducible repeat (first | refine blk_drewN ?_ _ | refine blk_drew ?_ | refine blk_alloc ?_ _)); exact BK152.out) hb); have n4_ := Aside0.mk (below_step (by repeat (first | (with_reducible first | exact HB.out | apply below_alloc | apply pw_below_drewN | apply below_drew1 | refine below_set ?_ GE147.out | refine below_set ?_ GE152.out) | exact HB.out)) hb); have n5_ := Aside0.mk (hbox); have n6_ := Aside0.mk ((by rw [hg]; exact (below_size (by repeat (first | (with_reducible first | exact HB.out | apply below_alloc | apply pw_below_drewN | apply below_drew1 | refine below_set ?_ GE147.out | refine below_set ?_ GE152.out) | exact HB.out))) : w.heap.size ≤ gb162)); have n7_ := Aside0.mk ((by rw [hg]; exact (below_size (by repeat (first | (with_reducible first | exact HB.out | apply below_alloc | apply pw_below_drewN | apply below_drew1 | refine below_set ?_ GE147.out | refine below_set ?_ GE152.out) | exact HB.out))) : w.heap.size ≤ gb162)); have n8_ := Aside0.mk ((by rw [hg]; exact Nat.ne_of_lt (blk_lt (g := gb147) (o := .cells #[.int .i64 x148000_1, .int .i64 x148001_1, .int .i64 x148002_1] 41 (0, 0)) (by (with_reducible repeat (first | refine blk_drewN ?_ _ | refine blk_drew ?_ | refine blk_alloc ?_ _)); exact BK147.out)) : gb147 ≠ gb162)); have n9_ := Aside0.mk ((by rw [hg]; exact Nat.ne_of_gt (blk_lt (g := gb147) (o := .cells #[.int .i64 x148000_1, .int .i64 x148001_1, .int .i64 x148002_1] 41 (0, 0)) (by (with_reducible repeat (first | refine blk_drewN ?_ _ | refine blk_drew ?_ | refine blk_alloc ?_ _)); exact BK147.out)) : gb162 ≠ gb147)); have n10_ := Aside0.mk ((by rw [hg]; exact Nat.ne_of_lt (blk_lt (g := gb152) (o := .cells #[.int .i64 x153000_2, .int .i64 x153001_2, .int .i64 x153002_2] 41 (0, 0)) (by (with_reducible repeat (first | refine blk_drewN ?_ _ | refine blk_drew ?_ | refine blk_alloc ?_ _)); exact BK152.out)) : gb152 ≠ gb162)); have n11_ := Aside0.mk ((by rw [hg]; exact Nat.ne_of_gt (blk_lt (g := gb152) (o := .cells #[.int .i64 x153000_2, .int .i64 x153001_2, .int .i64 x153002_2] 41 (0, 0)) (by (with_reducible repeat (first | refine blk_drewN ?_ _ | refine blk_drew ?_ | refine blk_alloc ?_ _)); exact BK152.out)) : gb162 ≠ gb152)); clear HO_13; clear HO_18; clear BK147; clear BK152; clear HB; have HO_13 := n0_; have HO_18 := n1_; have BK147 := n2_; have BK152 := n3_; have HB := n4_; have BK162 := n5_; have GW162 := n6_; have GE162 := n7_; have NB147_162 := n8_; have NB162_147 := n9_; have NB152_162 := n10_; have NB162_152 := n11_; clear n0_ n1_ n2_ n3_ n4_ n5_ n6_ n7_ n8_ n9_ n10_ n11_; clear hb hbox hg; have hnb74 := NB162_147.out; have hnc74 := NB147_162.out; have hnb75 := NB162_152.out; have hnc75 := NB152_162.out; have hcz76_0 : w73.cell? ⟨gb162, 0, none⟩ = some (.int .i64 0) := (blk_cell BK162.out 0).trans rfl; have hcz76_1 : w73.cell? ⟨gb162, 1, none⟩ = some (.int .i64 0) := (blk_cell BK162.out 1).trans rfl; have hcz76_2 : w73.cell? ⟨gb162, 2, none⟩ = some (.int .i64 0) := (blk_cell BK162.out 2).trans rfl; have hfz76_0 := blk_frozen BK162.out 0; have hfz76_1 := blk_frozen BK162.out 1; have hfz76_2 := blk_frozen BK162.out 2; have hcz77_0 : w73.cell? ⟨gb147, 0, none⟩ = some (.int .i64 x148000_1) := (blk_cell BK147.out 0).trans rfl; have hcz77_1 : w73.cell? ⟨gb147, 1, none⟩ = some (.int .i64 x148001_1) := (blk_cell BK147.out 1).trans rfl; have hcz77_2 : w73.cell? ⟨gb147, 2, none⟩ = some (.int .i64 x148002_1) := (blk_cell BK147.out 2).trans rfl; have hfz77_0 := blk_frozen BK147.out 0; have hfz77_1 := blk_frozen BK147.out 1; have hfz77_2 := blk_frozen BK147.out 2) | ((with_reducible refine gate_callee (f := 27) rfl ?_); refine goesL_ (some 110) rfl rfl Try.func27 (by kernel_rfl) rfl #[.agg #[.int .i64 x148000_1, .int .i64 x148001_1, .int .i64 x148002_1], .int .i64 (wrap64 ((wrap64 (t143 + 1)) + t158)), .int .i64 t140, .int .i64 t141, .int .i64 t142, .bool false] rfl (by (try simp only [List.map_toArray, List.map_cons, List.map_nil]); first | done | rfl | (simp only [List.length_drop, List.length_take]; rfl)) ?_; (with_reducible refine (life_Life_Next.calls k2 x148000_1 x148001_1 x148002_1 (wrap64 ((wrap64 (t143 + 1)) + t158)) t140 t141 t142 false t163 t164 t165 _ A68.out).mono ?_); rintro e w78 ⟨rfl, hb⟩; refine ⟨_, rfl, ?_⟩; have n0_ := Aside0.mk (Kd.R_below (by (with_reducible repeat (first | apply Kd.R_alloc | apply Kd.R_drewN | apply Kd.R_drew)); exact (Kd.R_mono (Kd.R_far (p := ⟨gb162, 2, none⟩) (Kd.R_far (p := ⟨gb162, 1, none⟩) (Kd.R_far (p := ⟨gb162, 0, none⟩) (Kd.R_types HO_13.out BK162.out (by decide)) (fun _ hk => hk.2) (.int .i64 t159)) (fun _ hk => hk.2) (.int .i64 t160)) (fun _ hk => hk.2) (.int .i64 t161)) (fun _ h_ => h_.1))) hb); have n1_ := Aside0.mk (Kd.R_below (by (with_reducible repeat (first | apply Kd.R_alloc | apply Kd.R_drewN | apply Kd.R_drew)); exact (Kd.R_mono (Kd.R_far (p := ⟨gb162, 2, none⟩) (Kd.R_far (p := ⟨gb162, 1, none⟩) (Kd.R_far (p := ⟨gb162, 0, none⟩) (Kd.R_types HO_18.out BK162.out (by decide)) (fun _ hk => hk.2) (.int .i64 t159)) (fun _ hk => hk.2) (.int .i64 t160)) (fun _ hk => hk.2) (.int .i64 t161)) (fun _ h_ => h_.1))) hb); have n2_ := Aside0.mk (blk_below (g := gb147) (o := .cells #[.int .i64 x148000_1, .int .i64 x148001_1, .int .i64 x148002_1] 41 (0, 0)) (by (with_reducible repeat (first | refine blk_drewN ?_ _ | refine blk_drew ?_ | refine blk_alloc ?_ _)); refine blk_far ?_ NB147_162.out _; (with_reducible repeat (first | refine blk_drewN ?_ _ | refine blk_drew ?_ | refine blk_alloc ?_ _)); refine blk_far ?_ NB147_162.out _; (with_reducible repeat (first | refine blk_drewN ?_ _ | refine blk_drew ?_ | refine blk_alloc ?_ _)); refine blk_far ?_ NB147_162.out _; (with_reducible repeat (first | refine blk_drewN ?_ _ | refine blk_drew ?_ | refine blk_alloc ?_ _)); exact BK147.out) hb); have n3_ := Aside0.mk (blk_below (g := gb152) (o := .cells #[.int .i64 x153000_2, .int .i64 x153001_2, .int .i64 x153002_2] 41 (0, 0)) (by (with_reducible repeat (first | refine blk_drewN ?_ _ | refine blk_drew ?_ | refine blk_alloc ?_ _)); refine blk_far ?_ NB152_162.out _; (with_reducible repeat (first | refine blk_drewN ?_ _ | refine blk_drew ?_ | refine blk_alloc ?_ _)); refine blk_far ?_ NB152_162.out _; (with_reducible repeat (first | refine blk_drewN ?_ _ | refine blk_drew ?_ | refine blk_alloc ?_ _)); refine blk_far ?_ NB152_162.out _; (with_reducible repeat (first | refine blk_drewN ?_ _ | refine blk_drew ?_ | refine blk_alloc ?_ _)); exact BK152.out) hb); have n4_ := Aside0.mk (blk_below (g := gb162) (o := .cells #[.int .i64 t159, .int .i64 t160, .int .i64 t161] 41 (0, 0)) (by (with_reducible repeat (first | refine blk_drewN ?_ _ | refine blk_drew ?_ | refine blk_alloc ?_ _)); refine blk_put (cs := #[.int .i64 t159, .int .i64 t160, .int .i64 0]) ?_ 2 _ rfl; (with_reducible repeat (first | refine blk_drewN ?_ _ | refine blk_drew ?_ | refine blk_alloc ?_ _)); refine blk_put (cs := #[.int .i64 t159, .int .i64 0, .int .i64 0]) ?_ 1 _ rfl; (with_reducible repeat (first | refine blk_drewN ?_ _ | refine blk_drew ?_ | refine blk_alloc ?_ _)); refine blk_put (cs := #[.int .i64 0, .int .i64 0, .int .i64 0]) ?_ 0 _ rfl; (with_reducible repeat (first | refine blk_drewN ?_ _ | refine blk_drew ?_ | refine blk_alloc ?_ _)); exact BK162.out) hb); have n5_ := Aside0.mk (below_step (by repeat (first | (with_reducible first | exact HB.out | apply below_alloc | apply pw_below_drewN | apply below_drew1 | refine below_set ?_ GE147.out | refine below_set ?_ GE152.out | refine below_set ?_ GE162.out) | exact HB.out)) hb); clear HO_13; clear HO_18; clear BK147; clear BK152; clear BK162; clear HB; have HO_13 := n0_; have HO_18 := n1_; have BK147 := n2_; have BK152 := n3_; have BK162 := n4_; have HB := n5_; clear n0_ n1_ n2_ n3_ n4_ n5_; (try clear hb); (try clear hb2); (try clear hk); (try clear hi)) | ((with_reducible refine gate_dst (N := 25) rfl ?_); refine box_event ?hg (N := 25) ?hd (cs := #[.int .i64 0, .int .i64 0, .int .i64 0]) (t := 41) ?hr ?_; (case hd => rfl); (case hg => rfl); (case hr => first | (go_simp; done) | (go_simp; rfl)); intro gb166 hg w79 hbox hb; have n0_ := Aside0.mk (Kd.R_below (by (with_reducible repeat (first | apply Kd.R_alloc | apply Kd.R_drewN | apply Kd.R_drew)); exact HO_13.out) hb); have n1_ := Aside0.mk (Kd.R_below (by (with_reducible repeat (first | apply Kd.R_alloc | apply Kd.R_drewN | apply Kd.R_drew)); exact HO_18.out) hb); have n2_ := Aside0.mk (blk_below (g := gb147) (o := .cells #[.int .i64 x148000_1, .int .i64 x148001_1, .int .i64 x148002_1] 41 (0, 0)) (by (with_reducible repeat (first | refine blk_drewN ?_ _ | refine blk_drew ?_ | refine blk_alloc ?_ _)); exact BK147.out) hb); have n3_ := Aside0.mk (blk_below (g := gb152) (o := .cells #[.int .i64 x153000_2, .int .i64 x153001_2, .int .i64 x153002_2] 41 (0, 0)) (by (with_reducible repeat (first | refine blk_drewN ?_ _ | refine blk_drew ?_ | refine blk_alloc ?_ _)); exact BK152.out) hb); have n4_ := Aside0.mk (blk_below (g := gb162) (o := .cells #[.int .i64 t159, .int .i64 t160, .int .i64 t161] 41 (0, 0)) (by (with_reducible repeat (first | refine blk_drewN ?_ _ | refine blk_drew ?_ | refine blk_alloc ?_ _)); exact BK162.out) hb); have n5_ := Aside0.mk (below_step (by repeat (first | (with_reducible first | exact HB.out | apply below_alloc | apply pw_below_drewN | apply below_drew1 | refine below_set ?_ GE147.out | refine below_set ?_ GE152.out | refine below_set ?_ GE162.out) | exact HB.out)) hb); have n6_ := Aside0.mk (hbox); have n7_ := Aside0.mk ((by rw [hg]; exact (below_size (by repeat (first | (with_reducible first | exact HB.out | apply below_alloc | apply pw_below_drewN | apply below_drew1 | refine below_set ?_ GE147.out | refine below_set ?_ GE152.out | refine below_set ?_ GE162.out) | exact HB.out))) : w.heap.size ≤ gb166)); have n8_ := Aside0.mk ((by rw [hg]; exact (below_size (by repeat (first | (with_reducible first | exact HB.out | apply below_alloc | apply pw_below_drewN | apply below_drew1 | refine below_set ?_ GE147.out | refine below_set ?_ GE152.out | refine below_set ?_ GE162.out) | exact HB.out))) : w.heap.size ≤ gb166)); have n9_ := Aside0.mk ((by rw [hg]; exact Nat.ne_of_lt (blk_lt (g := gb147) (o := .cells #[.int .i64 x148000_1, .int .i64 x148001_1, .int .i64 x148002_1] 41 (0, 0)) (by (with_reducible repeat (first | refine blk_drewN ?_ _ | refine blk_drew ?_ | refine blk_alloc ?_ _)); exact BK147.out)) : gb147 ≠ gb166)); have n10_ := Aside0.mk ((by rw [hg]; exact Nat.ne_of_gt (blk_lt (g := gb147) (o := .cells #[.int .i64 x148000_1, .int .i64 x148001_1, .int .i64 x148002_1] 41 (0, 0)) (by (with_reducible repeat (first | refine blk_drewN ?_ _ | refine blk_drew ?_ | refine blk_alloc ?_ _)); exact BK147.out)) : gb166 ≠ gb147)); have n11_ := Aside0.mk ((by rw [hg]; exact Nat.ne_of_lt (blk_lt (g := gb152) (o := .cells #[.int .i64 x153000_2, .int .i64 x153001_2, .int .i64 x153002_2] 41 (0, 0)) (by (with_reducible repeat (first | refine blk_drewN ?_ _ | refine blk_drew ?_ | refine blk_alloc ?_ _)); exact BK152.out)) : gb152 ≠ gb166)); have n12_ := Aside0.mk ((by rw [hg]; exact Nat.ne_of_gt (blk_lt (g := gb152) (o := .cells #[.int .i64 x153000_2, .int .i64 x153001_2, .int .i64 x153002_2] 41 (0, 0)) (by (with_reducible repeat (first | refine blk_drewN ?_ _ | refine blk_drew ?_ | refine blk_alloc ?_ _)); exact BK152.out)) : gb166 ≠ gb152)); have n13_ := Aside0.mk ((by rw [hg]; exact Nat.ne_of_lt (blk_lt (g := gb162) (o := .cells #[.int .i64 t159, .int .i64 t160, .int .i64 t161] 41 (0, 0)) (by (with_reducible repeat (first | refine blk_drewN ?_ _ | refine blk_drew ?_ | refine blk_alloc ?_ _)); exact BK162.out)) : gb162 ≠ gb166)); have n14_ := Aside0.mk ((by rw [hg]; exact Nat.ne_of_gt (blk_lt (g := gb162) (o := .cells #[.int .i64 t159, .int .i64 t160, .int .i64 t161] 41 (0, 0)) (by (with_reducible repeat (first | refine blk_drewN ?_ _ | refine blk_drew ?_ | refine blk_alloc ?_ _)); exact BK162.out)) : gb166 ≠ gb162)); clear HO_13; clear HO_18; clear BK147; clear BK152; clear BK162; clear HB; have HO_13 := n0_; have HO_18 := n1_; have BK147 := n2_; have BK152 := n3_; have BK162 := n4_; have HB := n5_; have BK166 := n6_; have GW166 := n7_; have GE166 := n8_; have NB147_166 := n9_; have NB166_147 := n10_; have NB152_166 := n11_; have NB166_152 := n12_; have NB162_166 := n13_; have NB166_162 := n14_; clear n0_ n1_ n2_ n3_ n4_ n5_ n6_ n7_ n8_ n9_ n10_ n11_ n12_ n13_ n14_; clear hb hbox hg; have hnb80 := NB166_147.out; have hnc80 := NB147_166.out; have hnb81 := NB166_152.out; have hnc81 := NB152_166.out; have hnb82 := NB166_162.out; have hnc82 := NB162_166.out; have hcz83_0 : w79.cell? ⟨gb166, 0, none⟩ = some (.int .i64 0) := (blk_cell BK166.out 0).trans rfl; have hcz83_1 : w79.cell? ⟨gb166, 1, none⟩ = some (.int .i64 0) := (blk_cell BK166.out 1).trans rfl; have hcz83_2 : w79.cell? ⟨gb166, 2, none⟩ = some (.int .i64 0) := (blk_cell BK166.out 2).trans rfl; have hfz83_0 := blk_frozen BK166.out 0; have hfz83_1 := blk_frozen BK166.out 1; have hfz83_2 := blk_frozen BK166.out 2))
                    (try simp only [Act.put, List.setIfInBounds_toArray, List.set_cons_zero, List.set_cons_succ])
                    go_cut [138] (fun v138 wc => ∃ (kq : Nat) (x138_68 : Bool), v138 = .bool x138_68 ∧ Aside0 (klaxonlaw12_LifeParts.j2 kq t140 t141 t142 x138_68 = some r) ∧ Aside0 (kq ≤ k2) ∧ Aside0 (wc.heap[gb147]? = some (.cells #[.int .i64 x148000_1, .int .i64 x148001_1, .int .i64 x148002_1] 41 (0, 0))) ∧ Aside0 (wc.heap[gb152]? = some (.cells #[.int .i64 x153000_2, .int .i64 x153001_2, .int .i64 x153002_2] 41 (0, 0))) ∧ Aside0 (wc.heap[gb162]? = some (.cells #[.int .i64 t159, .int .i64 t160, .int .i64 t161] 41 (0, 0))) ∧ Aside0 (wc.heap[gb166]? = some (.cells #[.int .i64 t163, .int .i64 t164, .int .i64 t165] 41 (0, 0))) ∧ Aside0 (Below w.heap.size w wc))
                    case first =>
                      have H := HC69.out
                      clear HC69
                      by_cases c84 : t159 = 0
                      · rw [if_pos c84] at H
                        have c84b0 : (t159 == 0) = true := beq_iff_eq.mpr c84
                        have c84b1 : (t159 != 0) = false := bne_eq_false_iff_eq.mpr c84
                        clear c84
                        (first | rw [c84b0] | (simp only [i64_w, i32_w]; rw [c84b0]) | skip)
                        have H' := Aside0.mk H
                        clear H
                        have hnb85 := NB162_147.out
                        have hnc85 := NB147_162.out
                        have hnb86 := NB162_152.out
                        have hnc86 := NB152_162.out
                        have hnb87 := NB162_166.out
                        have hnc87 := NB166_162.out
                        have hcz88_0 : w79.cell? ⟨gb162, 0, none⟩ = some (.int .i64 t159) := (blk_cell BK162.out 0).trans rfl
                        have hcz88_1 : w79.cell? ⟨gb162, 1, none⟩ = some (.int .i64 t160) := (blk_cell BK162.out 1).trans rfl
                        have hcz88_2 : w79.cell? ⟨gb162, 2, none⟩ = some (.int .i64 t161) := (blk_cell BK162.out 2).trans rfl
                        have hfz88_0 := blk_frozen BK162.out 0
                        have hfz88_1 := blk_frozen BK162.out 1
                        have hfz88_2 := blk_frozen BK162.out 2
                        go_wp2
                        go_meet
                        case rel => exact ⟨_, (true), (by first | rfl | (simp; done) | (simp [*]; done)), H', ⟨by have := HK1.out; have := HK2.out; first | omega | exact Nat.le_refl _⟩, ⟨by (with_reducible repeat (first | refine blk_drewN ?_ _ | refine blk_drew ?_ | refine blk_alloc ?_ _)); refine blk_far ?_ NB147_166.out _; (with_reducible repeat (first | refine blk_drewN ?_ _ | refine blk_drew ?_ | refine blk_alloc ?_ _)); refine blk_far ?_ NB147_166.out _; (with_reducible repeat (first | refine blk_drewN ?_ _ | refine blk_drew ?_ | refine blk_alloc ?_ _)); refine blk_far ?_ NB147_166.out _; (with_reducible repeat (first | refine blk_drewN ?_ _ | refine blk_drew ?_ | refine blk_alloc ?_ _)); exact BK147.out⟩, ⟨by (with_reducible repeat (first | refine blk_drewN ?_ _ | refine blk_drew ?_ | refine blk_alloc ?_ _)); refine blk_far ?_ NB152_166.out _; (with_reducible repeat (first | refine blk_drewN ?_ _ | refine blk_drew ?_ | refine blk_alloc ?_ _)); refine blk_far ?_ NB152_166.out _; (with_reducible repeat (first | refine blk_drewN ?_ _ | refine blk_drew ?_ | refine blk_alloc ?_ _)); refine blk_far ?_ NB152_166.out _; (with_reducible repeat (first | refine blk_drewN ?_ _ | refine blk_drew ?_ | refine blk_alloc ?_ _)); exact BK152.out⟩, ⟨by (with_reducible repeat (first | refine blk_drewN ?_ _ | refine blk_drew ?_ | refine blk_alloc ?_ _)); refine blk_far ?_ NB162_166.out _; (with_reducible repeat (first | refine blk_drewN ?_ _ | refine blk_drew ?_ | refine blk_alloc ?_ _)); refine blk_far ?_ NB162_166.out _; (with_reducible repeat (first | refine blk_drewN ?_ _ | refine blk_drew ?_ | refine blk_alloc ?_ _)); refine blk_far ?_ NB162_166.out _; (with_reducible repeat (first | refine blk_drewN ?_ _ | refine blk_drew ?_ | refine blk_alloc ?_ _)); exact BK162.out⟩, ⟨by (with_reducible repeat (first | refine blk_drewN ?_ _ | refine blk_drew ?_ | refine blk_alloc ?_ _)); refine blk_put (cs := #[.int .i64 t163, .int .i64 t164, .int .i64 0]) ?_ 2 _ rfl; (with_reducible repeat (first | refine blk_drewN ?_ _ | refine blk_drew ?_ | refine blk_alloc ?_ _)); refine blk_put (cs := #[.int .i64 t163, .int .i64 0, .int .i64 0]) ?_ 1 _ rfl; (with_reducible repeat (first | refine blk_drewN ?_ _ | refine blk_drew ?_ | refine blk_alloc ?_ _)); refine blk_put (cs := #[.int .i64 0, .int .i64 0, .int .i64 0]) ?_ 0 _ rfl; (with_reducible repeat (first | refine blk_drewN ?_ _ | refine blk_drew ?_ | refine blk_alloc ?_ _)); exact BK166.out⟩, ⟨by repeat (first | (with_reducible first | exact HB.out | apply below_alloc | apply pw_below_drewN | apply below_drew1 | refine below_set ?_ GE147.out | refine below_set ?_ GE152.out | refine below_set ?_ GE162.out | refine below_set ?_ GE166.out) | exact HB.out)⟩⟩
                      · rw [if_neg c84] at H
                        have c84b0 : (t159 == 0) = false := beq_eq_false_iff_ne.mpr c84
                        have c84b1 : (t159 != 0) = true := bne_iff_ne.mpr c84
                        (first | rw [c84b0] | (simp only [i64_w, i32_w]; rw [c84b0]) | skip)
                        by_cases c89 : x148000_1 = 2
                        · rw [if_pos c89] at H
                          have c89b0 : (x148000_1 == 2) = true := beq_iff_eq.mpr c89
                          have c89b1 : (x148000_1 != 2) = false := bne_eq_false_iff_eq.mpr c89
                          clear c89
                          by_cases c90 : t159 = 2
                          · rw [if_pos c90] at H
                            have c90b0 : (t159 == 2) = true := beq_iff_eq.mpr c90
                            have c90b1 : (t159 != 2) = false := bne_eq_false_iff_eq.mpr c90
                            clear c90
                            by_cases c91 : t163 = 1
                            · rw [if_pos c91] at H
                              have c91b0 : (t163 == 1) = true := beq_iff_eq.mpr c91
                              have c91b1 : (t163 != 1) = false := bne_eq_false_iff_eq.mpr c91
                              clear c91
                              have H' := Aside0.mk H
                              clear H
                              have hnb92 := NB162_147.out
                              have hnc92 := NB147_162.out
                              have hnb93 := NB162_152.out
                              have hnc93 := NB152_162.out
                              have hnb94 := NB162_166.out
                              have hnc94 := NB166_162.out
                              have hcz95_0 : w79.cell? ⟨gb162, 0, none⟩ = some (.int .i64 t159) := (blk_cell BK162.out 0).trans rfl
                              have hcz95_1 : w79.cell? ⟨gb162, 1, none⟩ = some (.int .i64 t160) := (blk_cell BK162.out 1).trans rfl
                              have hcz95_2 : w79.cell? ⟨gb162, 2, none⟩ = some (.int .i64 t161) := (blk_cell BK162.out 2).trans rfl
                              have hfz95_0 := blk_frozen BK162.out 0
                              have hfz95_1 := blk_frozen BK162.out 1
                              have hfz95_2 := blk_frozen BK162.out 2
                              have hnb96 := NB147_152.out
                              have hnc96 := NB152_147.out
                              have hnb97 := NB147_166.out
                              have hnc97 := NB166_147.out
                              have hcz98_0 : w79.cell? ⟨gb147, 0, none⟩ = some (.int .i64 x148000_1) := (blk_cell BK147.out 0).trans rfl
                              have hcz98_1 : w79.cell? ⟨gb147, 1, none⟩ = some (.int .i64 x148001_1) := (blk_cell BK147.out 1).trans rfl
                              have hcz98_2 : w79.cell? ⟨gb147, 2, none⟩ = some (.int .i64 x148002_1) := (blk_cell BK147.out 2).trans rfl
                              have hfz98_0 := blk_frozen BK147.out 0
                              have hfz98_1 := blk_frozen BK147.out 1
                              have hfz98_2 := blk_frozen BK147.out 2
                              have hnb99 := NB166_152.out
                              have hnc99 := NB152_166.out
                              have hcz100_0 : w79.cell? ⟨gb166, 0, none⟩ = some (.int .i64 0) := (blk_cell BK166.out 0).trans rfl
                              have hcz100_1 : w79.cell? ⟨gb166, 1, none⟩ = some (.int .i64 0) := (blk_cell BK166.out 1).trans rfl
                              have hcz100_2 : w79.cell? ⟨gb166, 2, none⟩ = some (.int .i64 0) := (blk_cell BK166.out 2).trans rfl
                              have hfz100_0 := blk_frozen BK166.out 0
                              have hfz100_1 := blk_frozen BK166.out 1
                              have hfz100_2 := blk_frozen BK166.out 2
                              go_wp2
                              go_meet
                              case rel => exact ⟨_, (true), (by first | rfl | (simp; done) | (simp [*]; done)), H', ⟨by have := HK1.out; have := HK2.out; first | omega | exact Nat.le_refl _⟩, ⟨by (with_reducible repeat (first | refine blk_drewN ?_ _ | refine blk_drew ?_ | refine blk_alloc ?_ _)); refine blk_far ?_ NB147_166.out _; (with_reducible repeat (first | refine blk_drewN ?_ _ | refine blk_drew ?_ | refine blk_alloc ?_ _)); refine blk_far ?_ NB147_166.out _; (with_reducible repeat (first | refine blk_drewN ?_ _ | refine blk_drew ?_ | refine blk_alloc ?_ _)); refine blk_far ?_ NB147_166.out _; (with_reducible repeat (first | refine blk_drewN ?_ _ | refine blk_drew ?_ | refine blk_alloc ?_ _)); exact BK147.out⟩, ⟨by (with_reducible repeat (first | refine blk_drewN ?_ _ | refine blk_drew ?_ | refine blk_alloc ?_ _)); refine blk_far ?_ NB152_166.out _; (with_reducible repeat (first | refine blk_drewN ?_ _ | refine blk_drew ?_ | refine blk_alloc ?_ _)); refine blk_far ?_ NB152_166.out _; (with_reducible repeat (first | refine blk_drewN ?_ _ | refine blk_drew ?_ | refine blk_alloc ?_ _)); refine blk_far ?_ NB152_166.out _; (with_reducible repeat (first | refine blk_drewN ?_ _ | refine blk_drew ?_ | refine blk_alloc ?_ _)); exact BK152.out⟩, ⟨by (with_reducible repeat (first | refine blk_drewN ?_ _ | refine blk_drew ?_ | refine blk_alloc ?_ _)); refine blk_far ?_ NB162_166.out _; (with_reducible repeat (first | refine blk_drewN ?_ _ | refine blk_drew ?_ | refine blk_alloc ?_ _)); refine blk_far ?_ NB162_166.out _; (with_reducible repeat (first | refine blk_drewN ?_ _ | refine blk_drew ?_ | refine blk_alloc ?_ _)); refine blk_far ?_ NB162_166.out _; (with_reducible repeat (first | refine blk_drewN ?_ _ | refine blk_drew ?_ | refine blk_alloc ?_ _)); exact BK162.out⟩, ⟨by (with_reducible repeat (first | refine blk_drewN ?_ _ | refine blk_drew ?_ | refine blk_alloc ?_ _)); refine blk_put (cs := #[.int .i64 t163, .int .i64 t164, .int .i64 0]) ?_ 2 _ rfl; (with_reducible repeat (first | refine blk_drewN ?_ _ | refine blk_drew ?_ | refine blk_alloc ?_ _)); refine blk_put (cs := #[.int .i64 t163, .int .i64 0, .int .i64 0]) ?_ 1 _ rfl; (with_reducible repeat (first | refine blk_drewN ?_ _ | refine blk_drew ?_ | refine blk_alloc ?_ _)); refine blk_put (cs := #[.int .i64 0, .int .i64 0, .int .i64 0]) ?_ 0 _ rfl; (with_reducible repeat (first | refine blk_drewN ?_ _ | refine blk_drew ?_ | refine blk_alloc ?_ _)); exact BK166.out⟩, ⟨by repeat (first | (with_reducible first | exact HB.out | apply below_alloc | apply pw_below_drewN | apply below_drew1 | refine below_set ?_ GE147.out | refine below_set ?_ GE152.out | refine below_set ?_ GE162.out | refine below_set ?_ GE166.out) | exact HB.out)⟩⟩
                            · rw [if_neg c91] at H
                              have c91b0 : (t163 == 1) = false := beq_eq_false_iff_ne.mpr c91
                              have c91b1 : (t163 != 1) = true := bne_iff_ne.mpr c91
                              have H' := Aside0.mk H
                              clear H
                              have hnb101 := NB162_147.out
                              have hnc101 := NB147_162.out
                              have hnb102 := NB162_152.out
                              have hnc102 := NB152_162.out
                              have hnb103 := NB162_166.out
                              have hnc103 := NB166_162.out
                              have hcz104_0 : w79.cell? ⟨gb162, 0, none⟩ = some (.int .i64 t159) := (blk_cell BK162.out 0).trans rfl
                              have hcz104_1 : w79.cell? ⟨gb162, 1, none⟩ = some (.int .i64 t160) := (blk_cell BK162.out 1).trans rfl
                              have hcz104_2 : w79.cell? ⟨gb162, 2, none⟩ = some (.int .i64 t161) := (blk_cell BK162.out 2).trans rfl
                              have hfz104_0 := blk_frozen BK162.out 0
                              have hfz104_1 := blk_frozen BK162.out 1
                              have hfz104_2 := blk_frozen BK162.out 2
                              have hnb105 := NB147_152.out
                              have hnc105 := NB152_147.out
                              have hnb106 := NB147_166.out
                              have hnc106 := NB166_147.out
                              have hcz107_0 : w79.cell? ⟨gb147, 0, none⟩ = some (.int .i64 x148000_1) := (blk_cell BK147.out 0).trans rfl
                              have hcz107_1 : w79.cell? ⟨gb147, 1, none⟩ = some (.int .i64 x148001_1) := (blk_cell BK147.out 1).trans rfl
                              have hcz107_2 : w79.cell? ⟨gb147, 2, none⟩ = some (.int .i64 x148002_1) := (blk_cell BK147.out 2).trans rfl
                              have hfz107_0 := blk_frozen BK147.out 0
                              have hfz107_1 := blk_frozen BK147.out 1
                              have hfz107_2 := blk_frozen BK147.out 2
                              have hnb108 := NB166_152.out
                              have hnc108 := NB152_166.out
                              have hcz109_0 : w79.cell? ⟨gb166, 0, none⟩ = some (.int .i64 0) := (blk_cell BK166.out 0).trans rfl
                              have hcz109_1 : w79.cell? ⟨gb166, 1, none⟩ = some (.int .i64 0) := (blk_cell BK166.out 1).trans rfl
                              have hcz109_2 : w79.cell? ⟨gb166, 2, none⟩ = some (.int .i64 0) := (blk_cell BK166.out 2).trans rfl
                              have hfz109_0 := blk_frozen BK166.out 0
                              have hfz109_1 := blk_frozen BK166.out 1
                              have hfz109_2 := blk_frozen BK166.out 2
                              go_wp2
                              go_meet
                              case rel => exact ⟨_, (false), (by first | rfl | (simp; done) | (simp [*]; done)), H', ⟨by have := HK1.out; have := HK2.out; first | omega | exact Nat.le_refl _⟩, ⟨by (with_reducible repeat (first | refine blk_drewN ?_ _ | refine blk_drew ?_ | refine blk_alloc ?_ _)); refine blk_far ?_ NB147_166.out _; (with_reducible repeat (first | refine blk_drewN ?_ _ | refine blk_drew ?_ | refine blk_alloc ?_ _)); refine blk_far ?_ NB147_166.out _; (with_reducible repeat (first | refine blk_drewN ?_ _ | refine blk_drew ?_ | refine blk_alloc ?_ _)); refine blk_far ?_ NB147_166.out _; (with_reducible repeat (first | refine blk_drewN ?_ _ | refine blk_drew ?_ | refine blk_alloc ?_ _)); exact BK147.out⟩, ⟨by (with_reducible repeat (first | refine blk_drewN ?_ _ | refine blk_drew ?_ | refine blk_alloc ?_ _)); refine blk_far ?_ NB152_166.out _; (with_reducible repeat (first | refine blk_drewN ?_ _ | refine blk_drew ?_ | refine blk_alloc ?_ _)); refine blk_far ?_ NB152_166.out _; (with_reducible repeat (first | refine blk_drewN ?_ _ | refine blk_drew ?_ | refine blk_alloc ?_ _)); refine blk_far ?_ NB152_166.out _; (with_reducible repeat (first | refine blk_drewN ?_ _ | refine blk_drew ?_ | refine blk_alloc ?_ _)); exact BK152.out⟩, ⟨by (with_reducible repeat (first | refine blk_drewN ?_ _ | refine blk_drew ?_ | refine blk_alloc ?_ _)); refine blk_far ?_ NB162_166.out _; (with_reducible repeat (first | refine blk_drewN ?_ _ | refine blk_drew ?_ | refine blk_alloc ?_ _)); refine blk_far ?_ NB162_166.out _; (with_reducible repeat (first | refine blk_drewN ?_ _ | refine blk_drew ?_ | refine blk_alloc ?_ _)); refine blk_far ?_ NB162_166.out _; (with_reducible repeat (first | refine blk_drewN ?_ _ | refine blk_drew ?_ | refine blk_alloc ?_ _)); exact BK162.out⟩, ⟨by (with_reducible repeat (first | refine blk_drewN ?_ _ | refine blk_drew ?_ | refine blk_alloc ?_ _)); refine blk_put (cs := #[.int .i64 t163, .int .i64 t164, .int .i64 0]) ?_ 2 _ rfl; (with_reducible repeat (first | refine blk_drewN ?_ _ | refine blk_drew ?_ | refine blk_alloc ?_ _)); refine blk_put (cs := #[.int .i64 t163, .int .i64 0, .int .i64 0]) ?_ 1 _ rfl; (with_reducible repeat (first | refine blk_drewN ?_ _ | refine blk_drew ?_ | refine blk_alloc ?_ _)); refine blk_put (cs := #[.int .i64 0, .int .i64 0, .int .i64 0]) ?_ 0 _ rfl; (with_reducible repeat (first | refine blk_drewN ?_ _ | refine blk_drew ?_ | refine blk_alloc ?_ _)); exact BK166.out⟩, ⟨by repeat (first | (with_reducible first | exact HB.out | apply below_alloc | apply pw_below_drewN | apply below_drew1 | refine below_set ?_ GE147.out | refine below_set ?_ GE152.out | refine below_set ?_ GE162.out | refine below_set ?_ GE166.out) | exact HB.out)⟩⟩
                          · rw [if_neg c90] at H
                            have c90b0 : (t159 == 2) = false := beq_eq_false_iff_ne.mpr c90
                            have c90b1 : (t159 != 2) = true := bne_iff_ne.mpr c90
                            have H' := Aside0.mk H
                            clear H
                            have hnb110 := NB162_147.out
                            have hnc110 := NB147_162.out
                            have hnb111 := NB162_152.out
                            have hnc111 := NB152_162.out
                            have hnb112 := NB162_166.out
                            have hnc112 := NB166_162.out
                            have hcz113_0 : w79.cell? ⟨gb162, 0, none⟩ = some (.int .i64 t159) := (blk_cell BK162.out 0).trans rfl
                            have hcz113_1 : w79.cell? ⟨gb162, 1, none⟩ = some (.int .i64 t160) := (blk_cell BK162.out 1).trans rfl
                            have hcz113_2 : w79.cell? ⟨gb162, 2, none⟩ = some (.int .i64 t161) := (blk_cell BK162.out 2).trans rfl
                            have hfz113_0 := blk_frozen BK162.out 0
                            have hfz113_1 := blk_frozen BK162.out 1
                            have hfz113_2 := blk_frozen BK162.out 2
                            have hnb114 := NB147_152.out
                            have hnc114 := NB152_147.out
                            have hnb115 := NB147_166.out
                            have hnc115 := NB166_147.out
                            have hcz116_0 : w79.cell? ⟨gb147, 0, none⟩ = some (.int .i64 x148000_1) := (blk_cell BK147.out 0).trans rfl
                            have hcz116_1 : w79.cell? ⟨gb147, 1, none⟩ = some (.int .i64 x148001_1) := (blk_cell BK147.out 1).trans rfl
                            have hcz116_2 : w79.cell? ⟨gb147, 2, none⟩ = some (.int .i64 x148002_1) := (blk_cell BK147.out 2).trans rfl
                            have hfz116_0 := blk_frozen BK147.out 0
                            have hfz116_1 := blk_frozen BK147.out 1
                            have hfz116_2 := blk_frozen BK147.out 2
                            go_wp2
                            go_meet
                            case rel => exact ⟨_, (true), (by first | rfl | (simp; done) | (simp [*]; done)), H', ⟨by have := HK1.out; have := HK2.out; first | omega | exact Nat.le_refl _⟩, ⟨by (with_reducible repeat (first | refine blk_drewN ?_ _ | refine blk_drew ?_ | refine blk_alloc ?_ _)); refine blk_far ?_ NB147_166.out _; (with_reducible repeat (first | refine blk_drewN ?_ _ | refine blk_drew ?_ | refine blk_alloc ?_ _)); refine blk_far ?_ NB147_166.out _; (with_reducible repeat (first | refine blk_drewN ?_ _ | refine blk_drew ?_ | refine blk_alloc ?_ _)); refine blk_far ?_ NB147_166.out _; (with_reducible repeat (first | refine blk_drewN ?_ _ | refine blk_drew ?_ | refine blk_alloc ?_ _)); exact BK147.out⟩, ⟨by (with_reducible repeat (first | refine blk_drewN ?_ _ | refine blk_drew ?_ | refine blk_alloc ?_ _)); refine blk_far ?_ NB152_166.out _; (with_reducible repeat (first | refine blk_drewN ?_ _ | refine blk_drew ?_ | refine blk_alloc ?_ _)); refine blk_far ?_ NB152_166.out _; (with_reducible repeat (first | refine blk_drewN ?_ _ | refine blk_drew ?_ | refine blk_alloc ?_ _)); refine blk_far ?_ NB152_166.out _; (with_reducible repeat (first | refine blk_drewN ?_ _ | refine blk_drew ?_ | refine blk_alloc ?_ _)); exact BK152.out⟩, ⟨by (with_reducible repeat (first | refine blk_drewN ?_ _ | refine blk_drew ?_ | refine blk_alloc ?_ _)); refine blk_far ?_ NB162_166.out _; (with_reducible repeat (first | refine blk_drewN ?_ _ | refine blk_drew ?_ | refine blk_alloc ?_ _)); refine blk_far ?_ NB162_166.out _; (with_reducible repeat (first | refine blk_drewN ?_ _ | refine blk_drew ?_ | refine blk_alloc ?_ _)); refine blk_far ?_ NB162_166.out _; (with_reducible repeat (first | refine blk_drewN ?_ _ | refine blk_drew ?_ | refine blk_alloc ?_ _)); exact BK162.out⟩, ⟨by (with_reducible repeat (first | refine blk_drewN ?_ _ | refine blk_drew ?_ | refine blk_alloc ?_ _)); refine blk_put (cs := #[.int .i64 t163, .int .i64 t164, .int .i64 0]) ?_ 2 _ rfl; (with_reducible repeat (first | refine blk_drewN ?_ _ | refine blk_drew ?_ | refine blk_alloc ?_ _)); refine blk_put (cs := #[.int .i64 t163, .int .i64 0, .int .i64 0]) ?_ 1 _ rfl; (with_reducible repeat (first | refine blk_drewN ?_ _ | refine blk_drew ?_ | refine blk_alloc ?_ _)); refine blk_put (cs := #[.int .i64 0, .int .i64 0, .int .i64 0]) ?_ 0 _ rfl; (with_reducible repeat (first | refine blk_drewN ?_ _ | refine blk_drew ?_ | refine blk_alloc ?_ _)); exact BK166.out⟩, ⟨by repeat (first | (with_reducible first | exact HB.out | apply below_alloc | apply pw_below_drewN | apply below_drew1 | refine below_set ?_ GE147.out | refine below_set ?_ GE152.out | refine below_set ?_ GE162.out | refine below_set ?_ GE166.out) | exact HB.out)⟩⟩
                        · rw [if_neg c89] at H
                          have c89b0 : (x148000_1 == 2) = false := beq_eq_false_iff_ne.mpr c89
                          have c89b1 : (x148000_1 != 2) = true := bne_iff_ne.mpr c89
                          by_cases c117 : t163 = 1
                          · rw [if_pos c117] at H
                            have c117b0 : (t163 == 1) = true := beq_iff_eq.mpr c117
                            have c117b1 : (t163 != 1) = false := bne_eq_false_iff_eq.mpr c117
                            clear c117
                            have H' := Aside0.mk H
                            clear H
                            have hnb118 := NB162_147.out
                            have hnc118 := NB147_162.out
                            have hnb119 := NB162_152.out
                            have hnc119 := NB152_162.out
                            have hnb120 := NB162_166.out
                            have hnc120 := NB166_162.out
                            have hcz121_0 : w79.cell? ⟨gb162, 0, none⟩ = some (.int .i64 t159) := (blk_cell BK162.out 0).trans rfl
                            have hcz121_1 : w79.cell? ⟨gb162, 1, none⟩ = some (.int .i64 t160) := (blk_cell BK162.out 1).trans rfl
                            have hcz121_2 : w79.cell? ⟨gb162, 2, none⟩ = some (.int .i64 t161) := (blk_cell BK162.out 2).trans rfl
                            have hfz121_0 := blk_frozen BK162.out 0
                            have hfz121_1 := blk_frozen BK162.out 1
                            have hfz121_2 := blk_frozen BK162.out 2
                            have hnb122 := NB147_152.out
                            have hnc122 := NB152_147.out
                            have hnb123 := NB147_166.out
                            have hnc123 := NB166_147.out
                            have hcz124_0 : w79.cell? ⟨gb147, 0, none⟩ = some (.int .i64 x148000_1) := (blk_cell BK147.out 0).trans rfl
                            have hcz124_1 : w79.cell? ⟨gb147, 1, none⟩ = some (.int .i64 x148001_1) := (blk_cell BK147.out 1).trans rfl
                            have hcz124_2 : w79.cell? ⟨gb147, 2, none⟩ = some (.int .i64 x148002_1) := (blk_cell BK147.out 2).trans rfl
                            have hfz124_0 := blk_frozen BK147.out 0
                            have hfz124_1 := blk_frozen BK147.out 1
                            have hfz124_2 := blk_frozen BK147.out 2
                            have hnb125 := NB166_152.out
                            have hnc125 := NB152_166.out
                            have hcz126_0 : w79.cell? ⟨gb166, 0, none⟩ = some (.int .i64 0) := (blk_cell BK166.out 0).trans rfl
                            have hcz126_1 : w79.cell? ⟨gb166, 1, none⟩ = some (.int .i64 0) := (blk_cell BK166.out 1).trans rfl
                            have hcz126_2 : w79.cell? ⟨gb166, 2, none⟩ = some (.int .i64 0) := (blk_cell BK166.out 2).trans rfl
                            have hfz126_0 := blk_frozen BK166.out 0
                            have hfz126_1 := blk_frozen BK166.out 1
                            have hfz126_2 := blk_frozen BK166.out 2
                            go_wp2
                            go_meet
                            case rel => exact ⟨_, (true), (by first | rfl | (simp; done) | (simp [*]; done)), H', ⟨by have := HK1.out; have := HK2.out; first | omega | exact Nat.le_refl _⟩, ⟨by (with_reducible repeat (first | refine blk_drewN ?_ _ | refine blk_drew ?_ | refine blk_alloc ?_ _)); refine blk_far ?_ NB147_166.out _; (with_reducible repeat (first | refine blk_drewN ?_ _ | refine blk_drew ?_ | refine blk_alloc ?_ _)); refine blk_far ?_ NB147_166.out _; (with_reducible repeat (first | refine blk_drewN ?_ _ | refine blk_drew ?_ | refine blk_alloc ?_ _)); refine blk_far ?_ NB147_166.out _; (with_reducible repeat (first | refine blk_drewN ?_ _ | refine blk_drew ?_ | refine blk_alloc ?_ _)); exact BK147.out⟩, ⟨by (with_reducible repeat (first | refine blk_drewN ?_ _ | refine blk_drew ?_ | refine blk_alloc ?_ _)); refine blk_far ?_ NB152_166.out _; (with_reducible repeat (first | refine blk_drewN ?_ _ | refine blk_drew ?_ | refine blk_alloc ?_ _)); refine blk_far ?_ NB152_166.out _; (with_reducible repeat (first | refine blk_drewN ?_ _ | refine blk_drew ?_ | refine blk_alloc ?_ _)); refine blk_far ?_ NB152_166.out _; (with_reducible repeat (first | refine blk_drewN ?_ _ | refine blk_drew ?_ | refine blk_alloc ?_ _)); exact BK152.out⟩, ⟨by (with_reducible repeat (first | refine blk_drewN ?_ _ | refine blk_drew ?_ | refine blk_alloc ?_ _)); refine blk_far ?_ NB162_166.out _; (with_reducible repeat (first | refine blk_drewN ?_ _ | refine blk_drew ?_ | refine blk_alloc ?_ _)); refine blk_far ?_ NB162_166.out _; (with_reducible repeat (first | refine blk_drewN ?_ _ | refine blk_drew ?_ | refine blk_alloc ?_ _)); refine blk_far ?_ NB162_166.out _; (with_reducible repeat (first | refine blk_drewN ?_ _ | refine blk_drew ?_ | refine blk_alloc ?_ _)); exact BK162.out⟩, ⟨by (with_reducible repeat (first | refine blk_drewN ?_ _ | refine blk_drew ?_ | refine blk_alloc ?_ _)); refine blk_put (cs := #[.int .i64 t163, .int .i64 t164, .int .i64 0]) ?_ 2 _ rfl; (with_reducible repeat (first | refine blk_drewN ?_ _ | refine blk_drew ?_ | refine blk_alloc ?_ _)); refine blk_put (cs := #[.int .i64 t163, .int .i64 0, .int .i64 0]) ?_ 1 _ rfl; (with_reducible repeat (first | refine blk_drewN ?_ _ | refine blk_drew ?_ | refine blk_alloc ?_ _)); refine blk_put (cs := #[.int .i64 0, .int .i64 0, .int .i64 0]) ?_ 0 _ rfl; (with_reducible repeat (first | refine blk_drewN ?_ _ | refine blk_drew ?_ | refine blk_alloc ?_ _)); exact BK166.out⟩, ⟨by repeat (first | (with_reducible first | exact HB.out | apply below_alloc | apply pw_below_drewN | apply below_drew1 | refine below_set ?_ GE147.out | refine below_set ?_ GE152.out | refine below_set ?_ GE162.out | refine below_set ?_ GE166.out) | exact HB.out)⟩⟩
                          · rw [if_neg c117] at H
                            have c117b0 : (t163 == 1) = false := beq_eq_false_iff_ne.mpr c117
                            have c117b1 : (t163 != 1) = true := bne_iff_ne.mpr c117
                            have H' := Aside0.mk H
                            clear H
                            have hnb127 := NB162_147.out
                            have hnc127 := NB147_162.out
                            have hnb128 := NB162_152.out
                            have hnc128 := NB152_162.out
                            have hnb129 := NB162_166.out
                            have hnc129 := NB166_162.out
                            have hcz130_0 : w79.cell? ⟨gb162, 0, none⟩ = some (.int .i64 t159) := (blk_cell BK162.out 0).trans rfl
                            have hcz130_1 : w79.cell? ⟨gb162, 1, none⟩ = some (.int .i64 t160) := (blk_cell BK162.out 1).trans rfl
                            have hcz130_2 : w79.cell? ⟨gb162, 2, none⟩ = some (.int .i64 t161) := (blk_cell BK162.out 2).trans rfl
                            have hfz130_0 := blk_frozen BK162.out 0
                            have hfz130_1 := blk_frozen BK162.out 1
                            have hfz130_2 := blk_frozen BK162.out 2
                            have hnb131 := NB147_152.out
                            have hnc131 := NB152_147.out
                            have hnb132 := NB147_166.out
                            have hnc132 := NB166_147.out
                            have hcz133_0 : w79.cell? ⟨gb147, 0, none⟩ = some (.int .i64 x148000_1) := (blk_cell BK147.out 0).trans rfl
                            have hcz133_1 : w79.cell? ⟨gb147, 1, none⟩ = some (.int .i64 x148001_1) := (blk_cell BK147.out 1).trans rfl
                            have hcz133_2 : w79.cell? ⟨gb147, 2, none⟩ = some (.int .i64 x148002_1) := (blk_cell BK147.out 2).trans rfl
                            have hfz133_0 := blk_frozen BK147.out 0
                            have hfz133_1 := blk_frozen BK147.out 1
                            have hfz133_2 := blk_frozen BK147.out 2
                            have hnb134 := NB166_152.out
                            have hnc134 := NB152_166.out
                            have hcz135_0 : w79.cell? ⟨gb166, 0, none⟩ = some (.int .i64 0) := (blk_cell BK166.out 0).trans rfl
                            have hcz135_1 : w79.cell? ⟨gb166, 1, none⟩ = some (.int .i64 0) := (blk_cell BK166.out 1).trans rfl
                            have hcz135_2 : w79.cell? ⟨gb166, 2, none⟩ = some (.int .i64 0) := (blk_cell BK166.out 2).trans rfl
                            have hfz135_0 := blk_frozen BK166.out 0
                            have hfz135_1 := blk_frozen BK166.out 1
                            have hfz135_2 := blk_frozen BK166.out 2
                            go_wp2
                            go_meet
                            case rel => exact ⟨_, ((!(t163 == 0) || (!(t164 == 0) || (!(t165 == 0))))), (by first | rfl | (simp; done) | (simp [*]; done)), H', ⟨by have := HK1.out; have := HK2.out; first | omega | exact Nat.le_refl _⟩, ⟨by (with_reducible repeat (first | refine blk_drewN ?_ _ | refine blk_drew ?_ | refine blk_alloc ?_ _)); refine blk_far ?_ NB147_166.out _; (with_reducible repeat (first | refine blk_drewN ?_ _ | refine blk_drew ?_ | refine blk_alloc ?_ _)); refine blk_far ?_ NB147_166.out _; (with_reducible repeat (first | refine blk_drewN ?_ _ | refine blk_drew ?_ | refine blk_alloc ?_ _)); refine blk_far ?_ NB147_166.out _; (with_reducible repeat (first | refine blk_drewN ?_ _ | refine blk_drew ?_ | refine blk_alloc ?_ _)); exact BK147.out⟩, ⟨by (with_reducible repeat (first | refine blk_drewN ?_ _ | refine blk_drew ?_ | refine blk_alloc ?_ _)); refine blk_far ?_ NB152_166.out _; (with_reducible repeat (first | refine blk_drewN ?_ _ | refine blk_drew ?_ | refine blk_alloc ?_ _)); refine blk_far ?_ NB152_166.out _; (with_reducible repeat (first | refine blk_drewN ?_ _ | refine blk_drew ?_ | refine blk_alloc ?_ _)); refine blk_far ?_ NB152_166.out _; (with_reducible repeat (first | refine blk_drewN ?_ _ | refine blk_drew ?_ | refine blk_alloc ?_ _)); exact BK152.out⟩, ⟨by (with_reducible repeat (first | refine blk_drewN ?_ _ | refine blk_drew ?_ | refine blk_alloc ?_ _)); refine blk_far ?_ NB162_166.out _; (with_reducible repeat (first | refine blk_drewN ?_ _ | refine blk_drew ?_ | refine blk_alloc ?_ _)); refine blk_far ?_ NB162_166.out _; (with_reducible repeat (first | refine blk_drewN ?_ _ | refine blk_drew ?_ | refine blk_alloc ?_ _)); refine blk_far ?_ NB162_166.out _; (with_reducible repeat (first | refine blk_drewN ?_ _ | refine blk_drew ?_ | refine blk_alloc ?_ _)); exact BK162.out⟩, ⟨by (with_reducible repeat (first | refine blk_drewN ?_ _ | refine blk_drew ?_ | refine blk_alloc ?_ _)); refine blk_put (cs := #[.int .i64 t163, .int .i64 t164, .int .i64 0]) ?_ 2 _ rfl; (with_reducible repeat (first | refine blk_drewN ?_ _ | refine blk_drew ?_ | refine blk_alloc ?_ _)); refine blk_put (cs := #[.int .i64 t163, .int .i64 0, .int .i64 0]) ?_ 1 _ rfl; (with_reducible repeat (first | refine blk_drewN ?_ _ | refine blk_drew ?_ | refine blk_alloc ?_ _)); refine blk_put (cs := #[.int .i64 0, .int .i64 0, .int .i64 0]) ?_ 0 _ rfl; (with_reducible repeat (first | refine blk_drewN ?_ _ | refine blk_drew ?_ | refine blk_alloc ?_ _)); exact BK166.out⟩, ⟨by repeat (first | (with_reducible first | exact HB.out | apply below_alloc | apply pw_below_drewN | apply below_drew1 | refine below_set ?_ GE147.out | refine below_set ?_ GE152.out | refine below_set ?_ GE162.out | refine below_set ?_ GE166.out) | exact HB.out)⟩⟩
                    case rest =>
                      clear HC69
                      try clear c1
                      try clear p1
                      try clear q1
                      try clear hx1
                      try clear c2
                      try clear p2
                      try clear c3
                      try clear c4
                      try clear p6
                      try clear c7
                      try clear c8
                      try clear c9
                      try clear c10
                      try clear c11
                      try clear c12
                      try clear c13
                      try clear p15
                      try clear q15
                      try clear hx15
                      try clear c22
                      try clear c27
                      try clear c36
                      try clear c36b0
                      try clear c37
                      try clear c48
                      try clear c49
                      try clear c49b0
                      try clear c49b1
                      try clear p64
                      try clear c70
                      try clear c74
                      try clear c75
                      try clear c80
                      try clear c81
                      try clear c82
                      try clear c84
                      try clear c84b0
                      try clear c84b1
                      try clear c85
                      try clear c86
                      try clear c87
                      try clear c89
                      try clear c89b0
                      try clear c89b1
                      try clear c90
                      try clear c90b0
                      try clear c90b1
                      try clear c91
                      try clear c91b0
                      try clear c91b1
                      try clear c92
                      try clear c93
                      try clear c94
                      try clear c96
                      try clear c97
                      try clear c99
                      try clear c101
                      try clear c102
                      try clear c103
                      try clear c105
                      try clear c106
                      try clear c108
                      try clear c110
                      try clear c111
                      try clear c112
                      try clear c114
                      try clear c115
                      try clear c117
                      try clear c117b0
                      try clear c117b1
                      try clear c118
                      try clear c119
                      try clear c120
                      try clear c122
                      try clear c123
                      try clear c125
                      try clear c127
                      try clear c128
                      try clear c129
                      try clear c131
                      try clear c132
                      try clear c134
                      try clear hcz100_0
                      try clear hcz100_1
                      try clear hcz100_2
                      try clear hcz104_0
                      try clear hcz104_1
                      try clear hcz104_2
                      try clear hcz107_0
                      try clear hcz107_1
                      try clear hcz107_2
                      try clear hcz109_0
                      try clear hcz109_1
                      try clear hcz109_2
                      try clear hcz113_0
                      try clear hcz113_1
                      try clear hcz113_2
                      try clear hcz116_0
                      try clear hcz116_1
                      try clear hcz116_2
                      try clear hcz121_0
                      try clear hcz121_1
                      try clear hcz121_2
                      try clear hcz124_0
                      try clear hcz124_1
                      try clear hcz124_2
                      try clear hcz126_0
                      try clear hcz126_1
                      try clear hcz126_2
                      try clear hcz130_0
                      try clear hcz130_1
                      try clear hcz130_2
                      try clear hcz133_0
                      try clear hcz133_1
                      try clear hcz133_2
                      try clear hcz135_0
                      try clear hcz135_1
                      try clear hcz135_2
                      try clear hcz71_0
                      try clear hcz71_1
                      try clear hcz71_2
                      try clear hcz76_0
                      try clear hcz76_1
                      try clear hcz76_2
                      try clear hcz77_0
                      try clear hcz77_1
                      try clear hcz77_2
                      try clear hcz83_0
                      try clear hcz83_1
                      try clear hcz83_2
                      try clear hcz88_0
                      try clear hcz88_1
                      try clear hcz88_2
                      try clear hcz95_0
                      try clear hcz95_1
                      try clear hcz95_2
                      try clear hcz98_0
                      try clear hcz98_1
                      try clear hcz98_2
                      try clear hfz100_0
                      try clear hfz100_1
                      try clear hfz100_2
                      try clear hfz104_0
                      try clear hfz104_1
                      try clear hfz104_2
                      try clear hfz107_0
                      try clear hfz107_1
                      try clear hfz107_2
                      try clear hfz109_0
                      try clear hfz109_1
                      try clear hfz109_2
                      try clear hfz113_0
                      try clear hfz113_1
                      try clear hfz113_2
                      try clear hfz116_0
                      try clear hfz116_1
                      try clear hfz116_2
                      try clear hfz121_0
                      try clear hfz121_1
                      try clear hfz121_2
                      try clear hfz124_0
                      try clear hfz124_1
                      try clear hfz124_2
                      try clear hfz126_0
                      try clear hfz126_1
                      try clear hfz126_2
                      try clear hfz130_0
                      try clear hfz130_1
                      try clear hfz130_2
                      try clear hfz133_0
                      try clear hfz133_1
                      try clear hfz133_2
                      try clear hfz135_0
                      try clear hfz135_1
                      try clear hfz135_2
                      try clear hfz71_0
                      try clear hfz71_1
                      try clear hfz71_2
                      try clear hfz76_0
                      try clear hfz76_1
                      try clear hfz76_2
                      try clear hfz77_0
                      try clear hfz77_1
                      try clear hfz77_2
                      try clear hfz83_0
                      try clear hfz83_1
                      try clear hfz83_2
                      try clear hfz88_0
                      try clear hfz88_1
                      try clear hfz88_2
                      try clear hfz95_0
                      try clear hfz95_1
                      try clear hfz95_2
                      try clear hfz98_0
                      try clear hfz98_1
                      try clear hfz98_2
                      try clear hx153_0
                      try clear hx157_0
                      try clear p153
                      try clear p157
                      try clear q153
                      try clear q157
                      obtain ⟨kq, x138_68, rfl, HA, HJ68, BK147, BK152, BK162, BK166, HB⟩ := hcut
                      cases kq with
                      | zero => exact absurd HA.out (by simp [klaxonlaw12_LifeParts.j2])
                      | succ kj68 =>
                        have H := HA.out
                        clear HA
                        simp only [klaxonlaw12_LifeParts.j2] at H
                        by_cases c136 : x138_68 = true
                        · subst c136
                          have H1 : (some false) = some r := by rw [if_pos rfl] at H; exact H
                          clear H
                          have H := H1
                          clear H1
                          obtain rfl := Option.some.inj H
                          go_wp2
                          go_ret
                          exact ⟨by first | rfl | (simp [errW_none, errW_some] <;> rfl) | (simp only [← hji7]; first | rfl | (simp [errW_none, errW_some] <;> rfl)) | (simp [*, errW_none, errW_some] <;> rfl), by repeat (first | (with_reducible first | exact HB.out | apply below_alloc | apply pw_below_drewN | apply below_drew1 | refine below_set ?_ GE147.out | refine below_set ?_ GE152.out | refine below_set ?_ GE162.out | refine below_set ?_ GE166.out) | exact HB.out)⟩
                        · replace c136 := Bool.eq_false_iff.mpr c136
                          subst c136
                          have H1 : ((life_Run.f kj68 t140 t141 t142 ([] : List Bool)).bind fun t167 => (if (t167.length : Int) = 0 then ((klaxonlaw12_LifeRuns.f kj68).bind fun t170 => (some t170)) else (some false))) = some r := by rw [if_neg (show ¬ (false = true) by decide)] at H; exact H
                          clear H
                          have H := H1
                          clear H1
                          replace H := Option.bind_eq_some_iff.mp H
                          obtain ⟨t167, A1370, H⟩ := H
                          replace H : (if (t167.length : Int) = 0 then ((klaxonlaw12_LifeRuns.f kj68).bind fun t170 => (some t170)) else (some false)) = some r := H
                          have A137 := Aside0.mk A1370
                          clear A1370
                          by_cases c138 : (t167.length : Int) = 0
                          · rw [if_pos c138] at H
                            have c138b0 : ((t167.length : Int) == 0) = true := beq_iff_eq.mpr c138
                            have c138b1 : ((t167.length : Int) != 0) = false := bne_eq_false_iff_eq.mpr c138
                            clear c138
                            replace H := Option.bind_eq_some_iff.mp H
                            obtain ⟨t170, A1390, H⟩ := H
                            replace H : (some t170) = some r := H
                            have A139 := Aside0.mk A1390
                            clear A1390
                            obtain rfl := Option.some.inj H
                            go_wp2_with (first | ((with_reducible refine gate_callee (f := 24) rfl ?_); refine goesL_ (some 142) rfl rfl Try.func24 (by kernel_rfl) rfl #[.int .i64 t140, .int .i64 t141, .int .i64 t142, .slice none 0 0] rfl (by (try simp only [List.map_toArray, List.map_cons, List.map_nil]); first | done | rfl | (simp only [List.length_drop, List.length_take]; rfl)) ?_; (refine (life_Run.calls kj68 t140 t141 t142 _ _ ([] : List Bool) t167 _ ?side1 ?side2 A137.out).mono ?_); (case side1 => exact Kd.C_nil _ _); (case side2 => exact Nat.le_refl _); rintro e w140 ⟨v168, rfl, ho0, hb⟩; refine ⟨_, rfl, ?_⟩; have n0_ := Aside0.mk (Kd.R_lower ho0 (below_size (by repeat (first | (with_reducible first | exact HB.out | apply below_alloc | apply pw_below_drewN | apply below_drew1 | refine below_set ?_ GE147.out | refine below_set ?_ GE152.out | refine below_set ?_ GE162.out | refine below_set ?_ GE166.out) | exact HB.out)))); have n1_ := Aside0.mk (blk_below (g := gb147) (o := .cells #[.int .i64 x148000_1, .int .i64 x148001_1, .int .i64 x148002_1] 41 (0, 0)) (by (with_reducible repeat (first | refine blk_drewN ?_ _ | refine blk_drew ?_ | refine blk_alloc ?_ _)); exact BK147.out) hb); have n2_ := Aside0.mk (blk_below (g := gb152) (o := .cells #[.int .i64 x153000_2, .int .i64 x153001_2, .int .i64 x153002_2] 41 (0, 0)) (by (with_reducible repeat (first | refine blk_drewN ?_ _ | refine blk_drew ?_ | refine blk_alloc ?_ _)); exact BK152.out) hb); have n3_ := Aside0.mk (blk_below (g := gb162) (o := .cells #[.int .i64 t159, .int .i64 t160, .int .i64 t161] 41 (0, 0)) (by (with_reducible repeat (first | refine blk_drewN ?_ _ | refine blk_drew ?_ | refine blk_alloc ?_ _)); exact BK162.out) hb); have n4_ := Aside0.mk (blk_below (g := gb166) (o := .cells #[.int .i64 t163, .int .i64 t164, .int .i64 t165] 41 (0, 0)) (by (with_reducible repeat (first | refine blk_drewN ?_ _ | refine blk_drew ?_ | refine blk_alloc ?_ _)); exact BK166.out) hb); have n5_ := Aside0.mk (below_step (by repeat (first | (with_reducible first | exact HB.out | apply below_alloc | apply pw_below_drewN | apply below_drew1 | refine below_set ?_ GE147.out | refine below_set ?_ GE152.out | refine below_set ?_ GE162.out | refine below_set ?_ GE166.out) | exact HB.out)) hb); clear BK147; clear BK152; clear BK162; clear BK166; clear HB; have HO169 := n0_; have BK147 := n1_; have BK152 := n2_; have BK162 := n3_; have BK166 := n4_; have HB := n5_; clear n0_ n1_ n2_ n3_ n4_ n5_; (try clear hb); (try clear hb2); (try clear hk); (try clear hi); (try clear ho0); obtain ⟨Ao141, co141, eo141⟩ := Kd.R_slice HO169.out; subst eo141) | (go_at_call 5; (with_reducible refine (klaxonlaw12_LifeRuns.calls kj68  t170 _ A139.out).mono ?_); rintro e w142 ⟨rfl, hb⟩; have n0_ := Aside0.mk (Kd.R_below (by (with_reducible repeat (first | apply Kd.R_alloc | apply Kd.R_drewN | apply Kd.R_drew)); exact HO169.out) hb); have n1_ := Aside0.mk (blk_below (g := gb147) (o := .cells #[.int .i64 x148000_1, .int .i64 x148001_1, .int .i64 x148002_1] 41 (0, 0)) (by (with_reducible repeat (first | refine blk_drewN ?_ _ | refine blk_drew ?_ | refine blk_alloc ?_ _)); exact BK147.out) hb); have n2_ := Aside0.mk (blk_below (g := gb152) (o := .cells #[.int .i64 x153000_2, .int .i64 x153001_2, .int .i64 x153002_2] 41 (0, 0)) (by (with_reducible repeat (first | refine blk_drewN ?_ _ | refine blk_drew ?_ | refine blk_alloc ?_ _)); exact BK152.out) hb); have n3_ := Aside0.mk (blk_below (g := gb162) (o := .cells #[.int .i64 t159, .int .i64 t160, .int .i64 t161] 41 (0, 0)) (by (with_reducible repeat (first | refine blk_drewN ?_ _ | refine blk_drew ?_ | refine blk_alloc ?_ _)); exact BK162.out) hb); have n4_ := Aside0.mk (blk_below (g := gb166) (o := .cells #[.int .i64 t163, .int .i64 t164, .int .i64 t165] 41 (0, 0)) (by (with_reducible repeat (first | refine blk_drewN ?_ _ | refine blk_drew ?_ | refine blk_alloc ?_ _)); exact BK166.out) hb); have n5_ := Aside0.mk (below_step (by repeat (first | (with_reducible first | exact HB.out | apply below_alloc | apply pw_below_drewN | apply below_drew1 | refine below_set ?_ GE147.out | refine below_set ?_ GE152.out | refine below_set ?_ GE162.out | refine below_set ?_ GE166.out) | exact HB.out)) hb); clear HO169; clear BK147; clear BK152; clear BK162; clear BK166; clear HB; have HO169 := n0_; have BK147 := n1_; have BK152 := n2_; have BK162 := n3_; have BK166 := n4_; have HB := n5_; clear n0_ n1_ n2_ n3_ n4_ n5_; (try clear hb); (try clear hb2); (try clear hk); (try clear hi)))
                            go_ret
                            exact ⟨by first | rfl | (simp [errW_none, errW_some] <;> rfl) | (simp only [← hji7]; first | rfl | (simp [errW_none, errW_some] <;> rfl)) | (simp [*, errW_none, errW_some] <;> rfl), by repeat (first | (with_reducible first | exact HB.out | apply below_alloc | apply pw_below_drewN | apply below_drew1 | refine below_set ?_ GE147.out | refine below_set ?_ GE152.out | refine below_set ?_ GE162.out | refine below_set ?_ GE166.out) | exact HB.out)⟩
                          · rw [if_neg c138] at H
                            have c138b0 : ((t167.length : Int) == 0) = false := beq_eq_false_iff_ne.mpr c138
                            have c138b1 : ((t167.length : Int) != 0) = true := bne_iff_ne.mpr c138
                            have c138b2 : ¬ (t167 = []) := fun h_ => c138 (by rw [h_]; rfl)
                            obtain rfl := Option.some.inj H
                            go_wp2_with (first | ((with_reducible refine gate_callee (f := 24) rfl ?_); refine goesL_ (some 142) rfl rfl Try.func24 (by kernel_rfl) rfl #[.int .i64 t140, .int .i64 t141, .int .i64 t142, .slice none 0 0] rfl (by (try simp only [List.map_toArray, List.map_cons, List.map_nil]); first | done | rfl | (simp only [List.length_drop, List.length_take]; rfl)) ?_; (refine (life_Run.calls kj68 t140 t141 t142 _ _ ([] : List Bool) t167 _ ?side1 ?side2 A137.out).mono ?_); (case side1 => exact Kd.C_nil _ _); (case side2 => exact Nat.le_refl _); rintro e w143 ⟨v168, rfl, ho0, hb⟩; refine ⟨_, rfl, ?_⟩; have n0_ := Aside0.mk (Kd.R_lower ho0 (below_size (by repeat (first | (with_reducible first | exact HB.out | apply below_alloc | apply pw_below_drewN | apply below_drew1 | refine below_set ?_ GE147.out | refine below_set ?_ GE152.out | refine below_set ?_ GE162.out | refine below_set ?_ GE166.out) | exact HB.out)))); have n1_ := Aside0.mk (blk_below (g := gb147) (o := .cells #[.int .i64 x148000_1, .int .i64 x148001_1, .int .i64 x148002_1] 41 (0, 0)) (by (with_reducible repeat (first | refine blk_drewN ?_ _ | refine blk_drew ?_ | refine blk_alloc ?_ _)); exact BK147.out) hb); have n2_ := Aside0.mk (blk_below (g := gb152) (o := .cells #[.int .i64 x153000_2, .int .i64 x153001_2, .int .i64 x153002_2] 41 (0, 0)) (by (with_reducible repeat (first | refine blk_drewN ?_ _ | refine blk_drew ?_ | refine blk_alloc ?_ _)); exact BK152.out) hb); have n3_ := Aside0.mk (blk_below (g := gb162) (o := .cells #[.int .i64 t159, .int .i64 t160, .int .i64 t161] 41 (0, 0)) (by (with_reducible repeat (first | refine blk_drewN ?_ _ | refine blk_drew ?_ | refine blk_alloc ?_ _)); exact BK162.out) hb); have n4_ := Aside0.mk (blk_below (g := gb166) (o := .cells #[.int .i64 t163, .int .i64 t164, .int .i64 t165] 41 (0, 0)) (by (with_reducible repeat (first | refine blk_drewN ?_ _ | refine blk_drew ?_ | refine blk_alloc ?_ _)); exact BK166.out) hb); have n5_ := Aside0.mk (below_step (by repeat (first | (with_reducible first | exact HB.out | apply below_alloc | apply pw_below_drewN | apply below_drew1 | refine below_set ?_ GE147.out | refine below_set ?_ GE152.out | refine below_set ?_ GE162.out | refine below_set ?_ GE166.out) | exact HB.out)) hb); clear BK147; clear BK152; clear BK162; clear BK166; clear HB; have HO169 := n0_; have BK147 := n1_; have BK152 := n2_; have BK162 := n3_; have BK166 := n4_; have HB := n5_; clear n0_ n1_ n2_ n3_ n4_ n5_; (try clear hb); (try clear hb2); (try clear hk); (try clear hi); (try clear ho0); obtain ⟨Ao144, co144, eo144⟩ := Kd.R_slice HO169.out; subst eo144))
                            go_ret
                            exact ⟨by first | rfl | (simp [errW_none, errW_some] <;> rfl) | (simp only [← hji7]; first | rfl | (simp [errW_none, errW_some] <;> rfl)) | (simp [*, errW_none, errW_some] <;> rfl), by repeat (first | (with_reducible first | exact HB.out | apply below_alloc | apply pw_below_drewN | apply below_drew1 | refine below_set ?_ GE147.out | refine below_set ?_ GE152.out | refine below_set ?_ GE162.out | refine below_set ?_ GE166.out) | exact HB.out)⟩
      · rw [if_neg c10] at H
        exact absurd H (by simp)
    · rw [if_neg c9] at H
      exact absurd H (by simp)
  · rw [if_neg c8] at H
    exact absurd H (by simp)

end Go.Proofs.Ytkppbflmlpabjaa.PLifeParts
