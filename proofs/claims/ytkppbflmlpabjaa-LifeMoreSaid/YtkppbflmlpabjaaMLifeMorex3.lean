/- Walks of functions that the law LifeMore reaches: written by a program of this session (adapt.py) out of a print that fell in Lean; 2 places in it are turned by the session. -/
import Derived.Test.YtkppbflmlpabjaaPLifeMorex0
import Derived.Test.YtkppbflmlpabjaaMLifeMorex1
import Derived.Test.YtkppbflmlpabjaaMLifeMorex2
namespace Go.Proofs.Ytkppbflmlpabjaa.PLifeMore
open Go.RowKit Go.Proofs.YtkppbflmlpabjaaW.PrintWords Go.Proofs.YtkppbflmlpabjaaW.PrintLast Go.Proofs.YtkppbflmlpabjaaW.PrintMore
attribute [local go_sem] max2_int min2_int max_two min_two max_three min_three max_four min_four   -- for this text's walks alone
set_option linter.unusedVariables false
set_option linter.unusedSimpArgs false

/-! ### klaxonlaw12_LifeMore: function 7 -/
mutual
def klaxonlaw12_LifeMore.j0 : Nat → List Bool → Int → Int → Int → List Int → List Int → List Int → Bool → Option (Bool)
  | 0, _, _, _, _, _, _, _, _ => none
  | k + 1, x11, x12, x13, x14, x16, x17, x18, x76 => if x76 = true then (some false) else (klaxonlaw12_LifeMore.l0 k x11 x12 x13 x14 x16 x17 x18 (x16.length : Int) 0)
def klaxonlaw12_LifeMore.l0 : Nat → List Bool → Int → Int → Int → List Int → List Int → List Int → Int → Int → Option (Bool)
  | 0, _, _, _, _, _, _, _, _, _ => none
  | k + 1, x11, x12, x13, x14, x16, x17, x18, x78, x79 => if x79 < x78 then (if 0 ≤ x79 then (if x79 < (x16.length : Int) then (if (rd x16 x79) = 2 then (if x79 < (x17.length : Int) then (if (rd x17 x79) = 2 then (if x79 < (x18.length : Int) then (if (rd x18 x79) = 2 then (if x79 < (x11.length : Int) then (if rdOf false x11 x79 = true then (if (rd x16 x79) = 0 then (some false) else (if (rd x16 x79) < 0 then (some false) else (if (rd x16 x79) > 2 then (some false) else (klaxonlaw12_LifeMore.l0 k x11 x12 x13 x14 x16 x17 x18 x78 (wrap64 (x79 + 1)))))) else (if (rd x16 x79) < 0 then (some false) else (if (rd x16 x79) > 2 then (some false) else (klaxonlaw12_LifeMore.l0 k x11 x12 x13 x14 x16 x17 x18 x78 (wrap64 (x79 + 1)))))) else (none)) else (if x79 < (x11.length : Int) then (if rdOf false x11 x79 = true then (if (rd x16 x79) = 0 then (some false) else (if (rd x16 x79) < 0 then (some false) else (if (rd x16 x79) > 2 then (some false) else (klaxonlaw12_LifeMore.l0 k x11 x12 x13 x14 x16 x17 x18 x78 (wrap64 (x79 + 1)))))) else (if (rd x16 x79) < 0 then (some false) else (if (rd x16 x79) > 2 then (some false) else (klaxonlaw12_LifeMore.l0 k x11 x12 x13 x14 x16 x17 x18 x78 (wrap64 (x79 + 1)))))) else (none))) else (none)) else (some false)) else (none)) else (if x79 < (x18.length : Int) then (if (rd x18 x79) = 2 then (some false) else (if x79 < (x11.length : Int) then (if rdOf false x11 x79 = true then (if (rd x16 x79) = 0 then (some false) else (if (rd x16 x79) < 0 then (some false) else (if (rd x16 x79) > 2 then (some false) else (klaxonlaw12_LifeMore.l0 k x11 x12 x13 x14 x16 x17 x18 x78 (wrap64 (x79 + 1)))))) else (if (rd x16 x79) < 0 then (some false) else (if (rd x16 x79) > 2 then (some false) else (klaxonlaw12_LifeMore.l0 k x11 x12 x13 x14 x16 x17 x18 x78 (wrap64 (x79 + 1)))))) else (none))) else (none))) else (none)) else (none)) else (if 45 ≤ 281474976710656 then ((some (List.replicate 45 false : List Bool)).bind fun y177 => (klaxonlaw12_LifeMore.l1 k x12 x13 x14 y177 (y177.length : Int) 0)) else (none))
def klaxonlaw12_LifeMore.l1 : Nat → Int → Int → Int → List Bool → Int → Int → Option (Bool)
  | 0, _, _, _, _, _, _ => none
  | k + 1, x12, x13, x14, x20, x138, x139 => if x139 < x138 then (if 0 ≤ x139 then (if x139 < (x20.length : Int) then (klaxonlaw12_LifeMore.l1 k x12 x13 x14 (x20.set (x139 : Int).toNat true) x138 (wrap64 (x139 + 1))) else (none)) else (none)) else ((life_Run.f k x12 x13 x14 x20).bind fun t181 => (if (t181.length : Int) = 45 then (klaxonlaw12_LifeMore.l2 k x12 x13 t181 (t181.length : Int) 0) else (some false)))
def klaxonlaw12_LifeMore.l2 : Nat → Int → Int → List Int → Int → Int → Option (Bool)
  | 0, _, _, _, _, _ => none
  | k + 1, x12, x13, x22, x155, x156 => if x156 < x155 then (if 0 ≤ x156 then (if x156 < (x22.length : Int) then (if (((rd x22 x156) == 2) != (decide ((wrap64 (x156 * x12)) ≥ x13))) = true then (some false) else (klaxonlaw12_LifeMore.l2 k x12 x13 x22 x155 (wrap64 (x156 + 1)))) else (none)) else (none)) else ((klaxonlaw12_LifeRuns.f k).bind fun t185 => (some t185))
end
def klaxonlaw12_LifeMore.f (k : Nat) (l0 : List Bool) (a1 : Int) (a2 : Int) (a3 : Int) (a4 : Int) : Option (Bool) := (some (([] : List Bool) : List Bool)).bind fun y133 => (if 0 ≤ (mn (l0.length : Int) 40) then (if (mn (l0.length : Int) 40) ≤ (l0.length : Int) then (if y133.length + (l0.take ((mn (l0.length : Int) 40) : Int).toNat).length < 140737488355328 then ((some (y133 ++ (l0.take ((mn (l0.length : Int) 40) : Int).toNat) : List Bool)).bind fun y137 => ((klaxonbook_Within.f a1 1 9).bind fun t140 => ((klaxonbook_Within.f a2 0 40).bind fun t141 => ((klaxonbook_Within.f a3 0 40).bind fun t142 => ((klaxonbook_Within.f a4 0 30).bind fun t143 => ((life_Run.f k t140 t141 t142 y137).bind fun t144 => ((life_Run.f k t140 t141 (wrap64 (t142 + t143)) y137).bind fun t147 => ((life_Run.f k t140 (wrap64 (t141 + t143)) t142 y137).bind fun t150 => (if (t144.length : Int) = (y137.length : Int) then (if (t147.length : Int) = (y137.length : Int) then (klaxonlaw12_LifeMore.j0 k y137 t140 t141 t142 t144 t147 t150 ((t150.length : Int) != (y137.length : Int))) else (klaxonlaw12_LifeMore.j0 k y137 t140 t141 t142 t144 t147 t150 true)) else (klaxonlaw12_LifeMore.j0 k y137 t140 t141 t142 t144 t147 t150 true)))))))))) else (none)) else (none)) else (none))
theorem klaxonlaw12_LifeMore.mono_l : ∀ k, (∀ y0 y1 y2 y3 y4 y5 y6 y7, LeO (klaxonlaw12_LifeMore.j0 k y0 y1 y2 y3 y4 y5 y6 y7) (klaxonlaw12_LifeMore.j0 (k + 1) y0 y1 y2 y3 y4 y5 y6 y7)) ∧ (∀ y0 y1 y2 y3 y4 y5 y6 y7 y8, LeO (klaxonlaw12_LifeMore.l0 k y0 y1 y2 y3 y4 y5 y6 y7 y8) (klaxonlaw12_LifeMore.l0 (k + 1) y0 y1 y2 y3 y4 y5 y6 y7 y8)) ∧ (∀ y0 y1 y2 y3 y4 y5, LeO (klaxonlaw12_LifeMore.l1 k y0 y1 y2 y3 y4 y5) (klaxonlaw12_LifeMore.l1 (k + 1) y0 y1 y2 y3 y4 y5)) ∧ (∀ y0 y1 y2 y3 y4, LeO (klaxonlaw12_LifeMore.l2 k y0 y1 y2 y3 y4) (klaxonlaw12_LifeMore.l2 (k + 1) y0 y1 y2 y3 y4))
  | 0 => ⟨fun _ _ _ _ _ _ _ _ r h => by simp [klaxonlaw12_LifeMore.j0] at h, fun _ _ _ _ _ _ _ _ _ r h => by simp [klaxonlaw12_LifeMore.l0] at h, fun _ _ _ _ _ _ r h => by simp [klaxonlaw12_LifeMore.l1] at h, fun _ _ _ _ _ r h => by simp [klaxonlaw12_LifeMore.l2] at h⟩
  | k + 1 => by
    obtain ⟨ih0, ih1, ih2, ih3⟩ := klaxonlaw12_LifeMore.mono_l k
    refine ⟨?_, ?_, ?_, ?_⟩
    · intro y0 y1 y2 y3 y4 y5 y6 y7
      unfold klaxonlaw12_LifeMore.j0
      repeat' first
      | (with_reducible exact ih0 _ _ _ _ _ _ _ _)
      | (with_reducible exact ih1 _ _ _ _ _ _ _ _ _)
      | (with_reducible exact ih2 _ _ _ _ _ _)
      | (with_reducible exact ih3 _ _ _ _ _)
      | (with_reducible exact klaxonlaw12_LifeRuns.mono _)
      | (with_reducible exact life_Run.mono _ _ _ _ _)
      | (with_reducible exact LeO.refl _)
      | (with_reducible exact LeO.none _)
      | (with_reducible refine LeO.ite ?_ ?_)
      | (with_reducible refine LeO.bind ?_ (fun _ => ?_))
      | exact ih0 _ _ _ _ _ _ _ _
      | exact ih1 _ _ _ _ _ _ _ _ _
      | exact ih2 _ _ _ _ _ _
      | exact ih3 _ _ _ _ _
      | exact klaxonlaw12_LifeRuns.mono _
      | exact life_Run.mono _ _ _ _ _
      | exact LeO.none _
      | refine LeO.ite ?_ ?_
      | refine LeO.bind ?_ (fun _ => ?_)
    · intro y0 y1 y2 y3 y4 y5 y6 y7 y8
      unfold klaxonlaw12_LifeMore.l0
      repeat' first
      | (with_reducible exact ih0 _ _ _ _ _ _ _ _)
      | (with_reducible exact ih1 _ _ _ _ _ _ _ _ _)
      | (with_reducible exact ih2 _ _ _ _ _ _)
      | (with_reducible exact ih3 _ _ _ _ _)
      | (with_reducible exact klaxonlaw12_LifeRuns.mono _)
      | (with_reducible exact life_Run.mono _ _ _ _ _)
      | (with_reducible exact LeO.refl _)
      | (with_reducible exact LeO.none _)
      | (with_reducible refine LeO.ite ?_ ?_)
      | (with_reducible refine LeO.bind ?_ (fun _ => ?_))
      | exact ih0 _ _ _ _ _ _ _ _
      | exact ih1 _ _ _ _ _ _ _ _ _
      | exact ih2 _ _ _ _ _ _
      | exact ih3 _ _ _ _ _
      | exact klaxonlaw12_LifeRuns.mono _
      | exact life_Run.mono _ _ _ _ _
      | exact LeO.none _
      | refine LeO.ite ?_ ?_
      | refine LeO.bind ?_ (fun _ => ?_)
    · intro y0 y1 y2 y3 y4 y5
      unfold klaxonlaw12_LifeMore.l1
      repeat' first
      | (with_reducible exact ih0 _ _ _ _ _ _ _ _)
      | (with_reducible exact ih1 _ _ _ _ _ _ _ _ _)
      | (with_reducible exact ih2 _ _ _ _ _ _)
      | (with_reducible exact ih3 _ _ _ _ _)
      | (with_reducible exact klaxonlaw12_LifeRuns.mono _)
      | (with_reducible exact life_Run.mono _ _ _ _ _)
      | (with_reducible exact LeO.refl _)
      | (with_reducible exact LeO.none _)
      | (with_reducible refine LeO.ite ?_ ?_)
      | (with_reducible refine LeO.bind ?_ (fun _ => ?_))
      | exact ih0 _ _ _ _ _ _ _ _
      | exact ih1 _ _ _ _ _ _ _ _ _
      | exact ih2 _ _ _ _ _ _
      | exact ih3 _ _ _ _ _
      | exact klaxonlaw12_LifeRuns.mono _
      | exact life_Run.mono _ _ _ _ _
      | exact LeO.none _
      | refine LeO.ite ?_ ?_
      | refine LeO.bind ?_ (fun _ => ?_)
    · intro y0 y1 y2 y3 y4
      unfold klaxonlaw12_LifeMore.l2
      repeat' first
      | (with_reducible exact ih0 _ _ _ _ _ _ _ _)
      | (with_reducible exact ih1 _ _ _ _ _ _ _ _ _)
      | (with_reducible exact ih2 _ _ _ _ _ _)
      | (with_reducible exact ih3 _ _ _ _ _)
      | (with_reducible exact klaxonlaw12_LifeRuns.mono _)
      | (with_reducible exact life_Run.mono _ _ _ _ _)
      | (with_reducible exact LeO.refl _)
      | (with_reducible exact LeO.none _)
      | (with_reducible refine LeO.ite ?_ ?_)
      | (with_reducible refine LeO.bind ?_ (fun _ => ?_))
      | exact ih0 _ _ _ _ _ _ _ _
      | exact ih1 _ _ _ _ _ _ _ _ _
      | exact ih2 _ _ _ _ _ _
      | exact ih3 _ _ _ _ _
      | exact klaxonlaw12_LifeRuns.mono _
      | exact life_Run.mono _ _ _ _ _
      | exact LeO.none _
      | refine LeO.ite ?_ ?_
      | refine LeO.bind ?_ (fun _ => ?_)
theorem klaxonlaw12_LifeMore.mono : ∀ a0 a1 a2 a3 a4 k, LeO (klaxonlaw12_LifeMore.f k a0 a1 a2 a3 a4) (klaxonlaw12_LifeMore.f (k + 1) a0 a1 a2 a3 a4) := by
  intro a0 a1 a2 a3 a4 k
  obtain ⟨ih0, ih1, ih2, ih3⟩ := klaxonlaw12_LifeMore.mono_l k
  unfold klaxonlaw12_LifeMore.f
  repeat' first
      | (with_reducible exact ih0 _ _ _ _ _ _ _ _)
      | (with_reducible exact ih1 _ _ _ _ _ _ _ _ _)
      | (with_reducible exact ih2 _ _ _ _ _ _)
      | (with_reducible exact ih3 _ _ _ _ _)
      | (with_reducible exact klaxonlaw12_LifeRuns.mono _)
      | (with_reducible exact life_Run.mono _ _ _ _ _)
      | (with_reducible exact LeO.refl _)
      | (with_reducible exact LeO.none _)
      | (with_reducible refine LeO.ite ?_ ?_)
      | (with_reducible refine LeO.bind ?_ (fun _ => ?_))
      | exact ih0 _ _ _ _ _ _ _ _
      | exact ih1 _ _ _ _ _ _ _ _ _
      | exact ih2 _ _ _ _ _ _
      | exact ih3 _ _ _ _ _
      | exact klaxonlaw12_LifeRuns.mono _
      | exact life_Run.mono _ _ _ _ _
      | exact LeO.none _
      | refine LeO.ite ?_ ?_
      | refine LeO.bind ?_ (fun _ => ?_)
set_option maxHeartbeats 8000000 in
set_option maxRecDepth 100000 in
theorem klaxonlaw12_LifeMore.calls (k : Nat) (A0 : Option Addr) (c0 : Nat) (l0 : List Bool) (a1 : Int) (a2 : Int) (a3 : Int) (a4 : Int) (r : Bool) (w : World) (hr0 : Kd.C Kd.bool w A0 l0.length l0) (hc0 : l0.length ≤ c0) (h : klaxonlaw12_LifeMore.f k l0 a1 a2 a3 a4 = some r) :
    Calls Try.prog 7 #[.slice A0 l0.length c0, .int .i64 a1, .int .i64 a2, .int .i64 a3, .int .i64 a4] w fun e w' => e = .returned (.bool r) ∧ Below w.heap.size w w' := by
  have HR0 := Aside0.mk hr0
  have HC0 := Aside0.mk hc0
  clear hr0 hc0
  have HB := Aside0.mk (Below.refl w.heap.size w)
  have H : ((some (([] : List Bool) : List Bool)).bind fun y133 => (if 0 ≤ (mn (l0.length : Int) 40) then (if (mn (l0.length : Int) 40) ≤ (l0.length : Int) then (if y133.length + (l0.take ((mn (l0.length : Int) 40) : Int).toNat).length < 140737488355328 then ((some (y133 ++ (l0.take ((mn (l0.length : Int) 40) : Int).toNat) : List Bool)).bind fun y137 => ((klaxonbook_Within.f a1 1 9).bind fun t140 => ((klaxonbook_Within.f a2 0 40).bind fun t141 => ((klaxonbook_Within.f a3 0 40).bind fun t142 => ((klaxonbook_Within.f a4 0 30).bind fun t143 => ((life_Run.f k t140 t141 t142 y137).bind fun t144 => ((life_Run.f k t140 t141 (wrap64 (t142 + t143)) y137).bind fun t147 => ((life_Run.f k t140 (wrap64 (t141 + t143)) t142 y137).bind fun t150 => (if (t144.length : Int) = (y137.length : Int) then (if (t147.length : Int) = (y137.length : Int) then (klaxonlaw12_LifeMore.j0 k y137 t140 t141 t142 t144 t147 t150 ((t150.length : Int) != (y137.length : Int))) else (klaxonlaw12_LifeMore.j0 k y137 t140 t141 t142 t144 t147 t150 true)) else (klaxonlaw12_LifeMore.j0 k y137 t140 t141 t142 t144 t147 t150 true)))))))))) else (none)) else (none)) else (none))) = some r := h
  clear h
  obtain ⟨y133, hy133⟩ : ∃ y_ : List Bool, y_ = (([] : List Bool)) := ⟨_, rfl⟩
  replace H : (if 0 ≤ (mn (l0.length : Int) 40) then (if (mn (l0.length : Int) 40) ≤ (l0.length : Int) then (if y133.length + (l0.take ((mn (l0.length : Int) 40) : Int).toNat).length < 140737488355328 then ((some (y133 ++ (l0.take ((mn (l0.length : Int) 40) : Int).toNat) : List Bool)).bind fun y137 => ((klaxonbook_Within.f a1 1 9).bind fun t140 => ((klaxonbook_Within.f a2 0 40).bind fun t141 => ((klaxonbook_Within.f a3 0 40).bind fun t142 => ((klaxonbook_Within.f a4 0 30).bind fun t143 => ((life_Run.f k t140 t141 t142 y137).bind fun t144 => ((life_Run.f k t140 t141 (wrap64 (t142 + t143)) y137).bind fun t147 => ((life_Run.f k t140 (wrap64 (t141 + t143)) t142 y137).bind fun t150 => (if (t144.length : Int) = (y137.length : Int) then (if (t147.length : Int) = (y137.length : Int) then (klaxonlaw12_LifeMore.j0 k y137 t140 t141 t142 t144 t147 t150 ((t150.length : Int) != (y137.length : Int))) else (klaxonlaw12_LifeMore.j0 k y137 t140 t141 t142 t144 t147 t150 true)) else (klaxonlaw12_LifeMore.j0 k y137 t140 t141 t142 t144 t147 t150 true)))))))))) else (none)) else (none)) else (none)) = some r := by first | (rw [hy133]; with_reducible exact H) | (have H2_ := (Option.bind_some _ _).symm.trans H; rw [hy133]; with_reducible exact H2_) | (have H2_ := (Option.bind_some _ _).symm.trans H; with_reducible exact H2_) | with_reducible exact H | (rw [hy133]; exact H) | exact H
  have Ny133 := Aside0.mk hy133
  clear hy133
  obtain ⟨ji6, hji6⟩ : ∃ j_ : Int, (mn (l0.length : Int) 40) = j_ := ⟨_, rfl⟩
  replace H : (if 0 ≤ (ji6) then (if (ji6) ≤ (l0.length : Int) then (if y133.length + (l0.take ((ji6) : Int).toNat).length < 140737488355328 then ((some (y133 ++ (l0.take ((ji6) : Int).toNat) : List Bool)).bind fun y137 => ((klaxonbook_Within.f a1 1 9).bind fun t140 => ((klaxonbook_Within.f a2 0 40).bind fun t141 => ((klaxonbook_Within.f a3 0 40).bind fun t142 => ((klaxonbook_Within.f a4 0 30).bind fun t143 => ((life_Run.f k t140 t141 t142 y137).bind fun t144 => ((life_Run.f k t140 t141 (wrap64 (t142 + t143)) y137).bind fun t147 => ((life_Run.f k t140 (wrap64 (t141 + t143)) t142 y137).bind fun t150 => (if (t144.length : Int) = (y137.length : Int) then (if (t147.length : Int) = (y137.length : Int) then (klaxonlaw12_LifeMore.j0 k y137 t140 t141 t142 t144 t147 t150 ((t150.length : Int) != (y137.length : Int))) else (klaxonlaw12_LifeMore.j0 k y137 t140 t141 t142 t144 t147 t150 true)) else (klaxonlaw12_LifeMore.j0 k y137 t140 t141 t142 t144 t147 t150 true)))))))))) else (none)) else (none)) else (none)) = some r := by first | (rw [hji6] at H; exact H) | (simp only [hji6] at H ⊢; exact H)
  (try (have hji6h : ji6 ≤ 40 := by (rw [← hji6]; unfold mn; (repeat' split) <;> omega)))
  (try (have hji6g : ji6 ≤ 64 := by omega))
  (try (have hji6l : 0 ≤ ji6 := by (rw [← hji6]; unfold mn; (repeat' split) <;> omega)))
  (try (have hji6m : 0 ≤ ji6 := by omega))
  have hji6_ : (if 40 < (l0.length : Int) then 40 else (l0.length : Int)) = ji6 := hji6
  by_cases c7 : 0 ≤ (ji6)
  · rw [if_pos c7] at H
    have c7b0 := eq_true c7
    have c7b1 : decide (0 ≤ (ji6)) = true := decide_eq_true c7
    clear c7
    by_cases c8 : (ji6) ≤ (l0.length : Int)
    · rw [if_pos c8] at H
      have c8b0 := eq_true c8
      have c8b1 : decide ((ji6) ≤ (l0.length : Int)) = true := decide_eq_true c8
      clear c8
      by_cases c9 : y133.length + (l0.take ((ji6) : Int).toNat).length < 140737488355328
      · rw [if_pos c9] at H
        have LMc9 := Aside0.mk c9
        clear c9
        obtain ⟨y137, hy137⟩ : ∃ y_ : List Bool, y_ = (y133 ++ (l0.take ((ji6) : Int).toNat)) := ⟨_, rfl⟩
        replace H : ((klaxonbook_Within.f a1 1 9).bind fun t140 => ((klaxonbook_Within.f a2 0 40).bind fun t141 => ((klaxonbook_Within.f a3 0 40).bind fun t142 => ((klaxonbook_Within.f a4 0 30).bind fun t143 => ((life_Run.f k t140 t141 t142 y137).bind fun t144 => ((life_Run.f k t140 t141 (wrap64 (t142 + t143)) y137).bind fun t147 => ((life_Run.f k t140 (wrap64 (t141 + t143)) t142 y137).bind fun t150 => (if (t144.length : Int) = (y137.length : Int) then (if (t147.length : Int) = (y137.length : Int) then (klaxonlaw12_LifeMore.j0 k y137 t140 t141 t142 t144 t147 t150 ((t150.length : Int) != (y137.length : Int))) else (klaxonlaw12_LifeMore.j0 k y137 t140 t141 t142 t144 t147 t150 true)) else (klaxonlaw12_LifeMore.j0 k y137 t140 t141 t142 t144 t147 t150 true))))))))) = some r := by first | (rw [hy137]; with_reducible exact H) | (have H2_ := (Option.bind_some _ _).symm.trans H; rw [hy137]; with_reducible exact H2_) | (have H2_ := (Option.bind_some _ _).symm.trans H; with_reducible exact H2_) | with_reducible exact H | (rw [hy137]; exact H) | exact H
        have Ny137 := Aside0.mk hy137
        clear hy137
        replace H := Option.bind_eq_some_iff.mp H
        obtain ⟨t140, A100, H⟩ := H
        replace H : ((klaxonbook_Within.f a2 0 40).bind fun t141 => ((klaxonbook_Within.f a3 0 40).bind fun t142 => ((klaxonbook_Within.f a4 0 30).bind fun t143 => ((life_Run.f k t140 t141 t142 y137).bind fun t144 => ((life_Run.f k t140 t141 (wrap64 (t142 + t143)) y137).bind fun t147 => ((life_Run.f k t140 (wrap64 (t141 + t143)) t142 y137).bind fun t150 => (if (t144.length : Int) = (y137.length : Int) then (if (t147.length : Int) = (y137.length : Int) then (klaxonlaw12_LifeMore.j0 k y137 t140 t141 t142 t144 t147 t150 ((t150.length : Int) != (y137.length : Int))) else (klaxonlaw12_LifeMore.j0 k y137 t140 t141 t142 t144 t147 t150 true)) else (klaxonlaw12_LifeMore.j0 k y137 t140 t141 t142 t144 t147 t150 true)))))))) = some r := H
        have A10 := Aside0.mk A100
        clear A100
        replace H := Option.bind_eq_some_iff.mp H
        obtain ⟨t141, A110, H⟩ := H
        replace H : ((klaxonbook_Within.f a3 0 40).bind fun t142 => ((klaxonbook_Within.f a4 0 30).bind fun t143 => ((life_Run.f k t140 t141 t142 y137).bind fun t144 => ((life_Run.f k t140 t141 (wrap64 (t142 + t143)) y137).bind fun t147 => ((life_Run.f k t140 (wrap64 (t141 + t143)) t142 y137).bind fun t150 => (if (t144.length : Int) = (y137.length : Int) then (if (t147.length : Int) = (y137.length : Int) then (klaxonlaw12_LifeMore.j0 k y137 t140 t141 t142 t144 t147 t150 ((t150.length : Int) != (y137.length : Int))) else (klaxonlaw12_LifeMore.j0 k y137 t140 t141 t142 t144 t147 t150 true)) else (klaxonlaw12_LifeMore.j0 k y137 t140 t141 t142 t144 t147 t150 true))))))) = some r := H
        have A11 := Aside0.mk A110
        clear A110
        replace H := Option.bind_eq_some_iff.mp H
        obtain ⟨t142, A120, H⟩ := H
        replace H : ((klaxonbook_Within.f a4 0 30).bind fun t143 => ((life_Run.f k t140 t141 t142 y137).bind fun t144 => ((life_Run.f k t140 t141 (wrap64 (t142 + t143)) y137).bind fun t147 => ((life_Run.f k t140 (wrap64 (t141 + t143)) t142 y137).bind fun t150 => (if (t144.length : Int) = (y137.length : Int) then (if (t147.length : Int) = (y137.length : Int) then (klaxonlaw12_LifeMore.j0 k y137 t140 t141 t142 t144 t147 t150 ((t150.length : Int) != (y137.length : Int))) else (klaxonlaw12_LifeMore.j0 k y137 t140 t141 t142 t144 t147 t150 true)) else (klaxonlaw12_LifeMore.j0 k y137 t140 t141 t142 t144 t147 t150 true)))))) = some r := H
        have A12 := Aside0.mk A120
        clear A120
        replace H := Option.bind_eq_some_iff.mp H
        obtain ⟨t143, A130, H⟩ := H
        replace H : ((life_Run.f k t140 t141 t142 y137).bind fun t144 => ((life_Run.f k t140 t141 (wrap64 (t142 + t143)) y137).bind fun t147 => ((life_Run.f k t140 (wrap64 (t141 + t143)) t142 y137).bind fun t150 => (if (t144.length : Int) = (y137.length : Int) then (if (t147.length : Int) = (y137.length : Int) then (klaxonlaw12_LifeMore.j0 k y137 t140 t141 t142 t144 t147 t150 ((t150.length : Int) != (y137.length : Int))) else (klaxonlaw12_LifeMore.j0 k y137 t140 t141 t142 t144 t147 t150 true)) else (klaxonlaw12_LifeMore.j0 k y137 t140 t141 t142 t144 t147 t150 true))))) = some r := H
        have A13 := Aside0.mk A130
        clear A130
        replace H := Option.bind_eq_some_iff.mp H
        obtain ⟨t144, A140, H⟩ := H
        replace H : ((life_Run.f k t140 t141 (wrap64 (t142 + t143)) y137).bind fun t147 => ((life_Run.f k t140 (wrap64 (t141 + t143)) t142 y137).bind fun t150 => (if (t144.length : Int) = (y137.length : Int) then (if (t147.length : Int) = (y137.length : Int) then (klaxonlaw12_LifeMore.j0 k y137 t140 t141 t142 t144 t147 t150 ((t150.length : Int) != (y137.length : Int))) else (klaxonlaw12_LifeMore.j0 k y137 t140 t141 t142 t144 t147 t150 true)) else (klaxonlaw12_LifeMore.j0 k y137 t140 t141 t142 t144 t147 t150 true)))) = some r := H
        have A14 := Aside0.mk A140
        clear A140
        replace H := Option.bind_eq_some_iff.mp H
        obtain ⟨t147, A150, H⟩ := H
        replace H : ((life_Run.f k t140 (wrap64 (t141 + t143)) t142 y137).bind fun t150 => (if (t144.length : Int) = (y137.length : Int) then (if (t147.length : Int) = (y137.length : Int) then (klaxonlaw12_LifeMore.j0 k y137 t140 t141 t142 t144 t147 t150 ((t150.length : Int) != (y137.length : Int))) else (klaxonlaw12_LifeMore.j0 k y137 t140 t141 t142 t144 t147 t150 true)) else (klaxonlaw12_LifeMore.j0 k y137 t140 t141 t142 t144 t147 t150 true))) = some r := H
        have A15 := Aside0.mk A150
        clear A150
        replace H := Option.bind_eq_some_iff.mp H
        obtain ⟨t150, A160, H⟩ := H
        replace H : (if (t144.length : Int) = (y137.length : Int) then (if (t147.length : Int) = (y137.length : Int) then (klaxonlaw12_LifeMore.j0 k y137 t140 t141 t142 t144 t147 t150 ((t150.length : Int) != (y137.length : Int))) else (klaxonlaw12_LifeMore.j0 k y137 t140 t141 t142 t144 t147 t150 true)) else (klaxonlaw12_LifeMore.j0 k y137 t140 t141 t142 t144 t147 t150 true)) = some r := H
        have A16 := Aside0.mk A160
        clear A160
        have HC17 := Aside0.mk H
        clear H
        go_enter Try.func7, Try.ntmps7
        go_upto_region 5 with (first | ((with_reducible refine gate_dst (N := 24) rfl ?_); (try (refine gate_guard (by rfl) ?_; dsimp only)); refine Kd.R_lit Kd.bool _ 4 ?hg (N := 24) ?hd (xs := ([] : List Bool)) (inner := []) (ok := fun _ => True) (okp := fun _ => True) ?hr ?hp (fun _ hk => hk) trivial (Below.refl _ _) (Nat.le_refl _) (by simp) ?_; (case hd => rfl); (case hg => rfl); (case hr => first | (go_simp; done) | (go_simp; rfl)); (case hp => exact (Reps.none _ _)); intro v134 w18 ho19 hb hg_ hnew_; clear hg_ hnew_; (first | rw [← Ny133.out] at ho19 | (simp only [Int.reduceToNat] at ho19; rw [← Ny133.out] at ho19)); have n0_ := Aside0.mk (Kd.R_lower ho19 (below_size (by repeat (first | (with_reducible first | exact HB.out | apply below_alloc | apply pw_below_drewN | apply below_drew1) | exact HB.out)))); have n1_ := Aside0.mk (below_step (by repeat (first | (with_reducible first | exact HB.out | apply below_alloc | apply pw_below_drewN | apply below_drew1) | exact HB.out)) hb); clear HB; have HO135 := n0_; have HB := n1_; clear n0_ n1_; clear hb ho19; obtain ⟨i020, hi020, _, hsz20, _⟩ := info_parts info4; obtain ⟨hcut20, hA20, hC20⟩ := print_take_of (P := Try.prog) Value.bool false 44 4 .i64 Try.underlying44 hi020 hsz20 A0 c0 l0 (ji6) (of_decide_eq_true (by first | (with_reducible assumption) | assumption)) (of_decide_eq_true (by first | (with_reducible assumption) | assumption)) HC0.out; have HR136 := Aside0.mk (Kd.C_of_reads (h1 := fun _ => rfl) (hA20 _ (Kd.reads_of_C HR0.out))); have HC136 := Aside0.mk hC20; clear hA20 hC20 hi020 hsz20) | ((with_reducible refine gate_builtin (b := .append) (xs := #[.tmp 24, .tmp 29]) rfl ?_); (try (refine gate_guard (by rfl) ?_; dsimp only)); at_builtin; refine Kd.R_append_rows Kd.bool (w0 := w) w.heap.size rfl (.tmp 24) (.tmp 29) 44 4 (.bool false) 1 rfl Try.underlying44 info4 rfl (by decide) (by omega) v134 y133 (l0.take ((ji6) : Int).toNat) _ _ _ (fun _ => True) (fun _ => False) rfl rfl ?aO ?aR (fun _ _ h => h) (fun _ h => h.elim) ?aF ?aB ?aS ?aL ?_; (case aR => first | (have z_ := (Kd.C_below HR136.out HB.out); rw [show (l0.take ((ji6) : Int).toNat).length = (ji6).toNat from (by rw [List.length_take]; have h_ : ((ji6) : Int) ≤ (l0.length : Int) := of_decide_eq_true (by first | (with_reducible assumption) | assumption); omega)] at z_; exact z_) | (rw [← show (l0.take ((ji6) : Int).toNat).length = (ji6).toNat from (by rw [List.length_take]; have h_ : ((ji6) : Int) ≤ (l0.length : Int) := of_decide_eq_true (by first | (with_reducible assumption) | assumption); omega)]; repeat (first | exact (Kd.C_below HR136.out HB.out) | (with_reducible refine Kd.C_alloc ?_ _) | (with_reducible refine Kd.C_drewN ?_ _) | (with_reducible refine Kd.C_drew ?_))) | (repeat (first | exact (Kd.C_below HR136.out HB.out) | (with_reducible refine Kd.C_alloc ?_ _) | (with_reducible refine Kd.C_drewN ?_ _) | (with_reducible refine Kd.C_drew ?_)))); (case aB => exact (by repeat (first | (with_reducible first | exact HB.out | apply below_alloc | apply pw_below_drewN | apply below_drew1) | exact HB.out))); (case aF => exact (fun _ _ => trivial)); (case aO => exact (by (with_reducible repeat (first | apply Kd.R_alloc | apply Kd.R_drewN | apply Kd.R_drew)); exact HO135.out)); (case aS => exact (below_size (by repeat (first | (with_reducible first | exact HB.out | apply below_alloc | apply pw_below_drewN | apply below_drew1) | exact HB.out)))); (case aL => have := LMc9.out; have hlx_ := (show (l0.take ((ji6) : Int).toNat).length = (ji6).toNat from (by rw [List.length_take]; have h_ : ((ji6) : Int) ≤ (l0.length : Int) := of_decide_eq_true (by first | (with_reducible assumption) | assumption); omega)); omega); intro v138 w21 ho hb hg hat; rw [← Ny137.out] at ho; have n0_ := Aside0.mk (hb); have n1_ := Aside0.mk (ho); clear HB; clear HO135; have HB := n0_; have HO139 := n1_; clear n0_ n1_; clear ho hb hg hat) | ((with_reducible refine gate_callee (f := 22) rfl ?_); refine goesL_ (some 32) rfl rfl Try.func22 (by kernel_rfl) rfl #[.int .i64 a1, .int .i64 1, .int .i64 9] rfl (by (try simp only [List.map_toArray, List.map_cons, List.map_nil]); first | done | rfl | (simp only [List.length_drop, List.length_take]; rfl)) ?_; (with_reducible refine (klaxonbook_Within.calls a1 1 9 t140 _ A10.out).mono ?_); rintro e w' ⟨rfl, ⟨nd, rfl⟩⟩; refine ⟨_, rfl, ?_⟩) | ((with_reducible refine gate_callee (f := 22) rfl ?_); refine goesL_ (some 34) rfl rfl Try.func22 (by kernel_rfl) rfl #[.int .i64 a2, .int .i64 0, .int .i64 40] rfl (by (try simp only [List.map_toArray, List.map_cons, List.map_nil]); first | done | rfl | (simp only [List.length_drop, List.length_take]; rfl)) ?_; (with_reducible refine (klaxonbook_Within.calls a2 0 40 t141 _ A11.out).mono ?_); rintro e w' ⟨rfl, ⟨nd, rfl⟩⟩; refine ⟨_, rfl, ?_⟩) | ((with_reducible refine gate_callee (f := 22) rfl ?_); refine goesL_ (some 36) rfl rfl Try.func22 (by kernel_rfl) rfl #[.int .i64 a3, .int .i64 0, .int .i64 40] rfl (by (try simp only [List.map_toArray, List.map_cons, List.map_nil]); first | done | rfl | (simp only [List.length_drop, List.length_take]; rfl)) ?_; (with_reducible refine (klaxonbook_Within.calls a3 0 40 t142 _ A12.out).mono ?_); rintro e w' ⟨rfl, ⟨nd, rfl⟩⟩; refine ⟨_, rfl, ?_⟩) | ((with_reducible refine gate_callee (f := 22) rfl ?_); refine goesL_ (some 38) rfl rfl Try.func22 (by kernel_rfl) rfl #[.int .i64 a4, .int .i64 0, .int .i64 30] rfl (by (try simp only [List.map_toArray, List.map_cons, List.map_nil]); first | done | rfl | (simp only [List.length_drop, List.length_take]; rfl)) ?_; (with_reducible refine (klaxonbook_Within.calls a4 0 30 t143 _ A13.out).mono ?_); rintro e w' ⟨rfl, ⟨nd, rfl⟩⟩; refine ⟨_, rfl, ?_⟩; obtain ⟨Ao22, co22, eo22⟩ := Kd.R_slice HO139.out; subst eo22) | ((with_reducible refine gate_callee (f := 24) rfl ?_); refine goesL_ (some 43) rfl rfl Try.func24 (by kernel_rfl) rfl #[.int .i64 t140, .int .i64 t141, .int .i64 t142, .slice Ao22 y137.length co22] rfl (by (try simp only [List.map_toArray, List.map_cons, List.map_nil]); first | done | rfl | (simp only [List.length_drop, List.length_take]; rfl)) ?_; (with_reducible refine (life_Run.calls k t140 t141 t142 _ _ y137 t144 _ ?side1 ?side2 A14.out).mono ?_); (case side1 => repeat (first | exact (Kd.R_reads' HO139.out).2.2 | (with_reducible refine Kd.C_alloc ?_ _) | (with_reducible refine Kd.C_drewN ?_ _) | (with_reducible refine Kd.C_drew ?_))); (case side2 => exact (Kd.R_reads' HO139.out).2.1); rintro e w23 ⟨v145, rfl, ho0, hb⟩; refine ⟨_, rfl, ?_⟩; have n0_ := Aside0.mk (Kd.R_below (by (with_reducible repeat (first | apply Kd.R_alloc | apply Kd.R_drewN | apply Kd.R_drew)); exact HO139.out) hb); have n1_ := Aside0.mk (Kd.R_lower ho0 (below_size (by repeat (first | (with_reducible first | exact HB.out | apply below_alloc | apply pw_below_drewN | apply below_drew1) | exact HB.out)))); have n2_ := Aside0.mk (below_step (by repeat (first | (with_reducible first | exact HB.out | apply below_alloc | apply pw_below_drewN | apply below_drew1) | exact HB.out)) hb); clear HO139; clear HB; have HO139 := n0_; have HO146 := n1_; have HB := n2_; clear n0_ n1_ n2_; (try clear hb); (try clear hb2); (try clear hk); (try clear hi); (try clear ho0)) | ((with_reducible refine gate_callee (f := 24) rfl ?_); refine goesL_ (some 50) rfl rfl Try.func24 (by kernel_rfl) rfl #[.int .i64 t140, .int .i64 t141, .int .i64 (wrap64 (t142 + t143)), .slice Ao22 y137.length co22] rfl (by (try simp only [List.map_toArray, List.map_cons, List.map_nil]); first | done | rfl | (simp only [List.length_drop, List.length_take]; rfl)) ?_; (with_reducible refine (life_Run.calls k t140 t141 (wrap64 (t142 + t143)) _ _ y137 t147 _ ?side1 ?side2 A15.out).mono ?_); (case side1 => repeat (first | exact (Kd.R_reads' HO139.out).2.2 | (with_reducible refine Kd.C_alloc ?_ _) | (with_reducible refine Kd.C_drewN ?_ _) | (with_reducible refine Kd.C_drew ?_))); (case side2 => exact (Kd.R_reads' HO139.out).2.1); rintro e w24 ⟨v148, rfl, ho0, hb⟩; refine ⟨_, rfl, ?_⟩; have n0_ := Aside0.mk (Kd.R_below (by (with_reducible repeat (first | apply Kd.R_alloc | apply Kd.R_drewN | apply Kd.R_drew)); exact HO139.out) hb); have n1_ := Aside0.mk (Kd.R_elder' (by (with_reducible repeat (first | apply Kd.R_alloc | apply Kd.R_drewN | apply Kd.R_drew)); exact HO146.out) (Kd.R_base ho0) hb); have n2_ := Aside0.mk (Kd.R_lower (Kd.R_new' ho0 (Kd.R_lt (by (with_reducible repeat (first | apply Kd.R_alloc | apply Kd.R_drewN | apply Kd.R_drew)); exact HO146.out))) (below_size (by repeat (first | (with_reducible first | exact HB.out | apply below_alloc | apply pw_below_drewN | apply below_drew1) | exact HB.out)))); have n3_ := Aside0.mk (below_step (by repeat (first | (with_reducible first | exact HB.out | apply below_alloc | apply pw_below_drewN | apply below_drew1) | exact HB.out)) hb); clear HO139; clear HO146; clear HB; have HO139 := n0_; have HO146 := n1_; have HO149 := n2_; have HB := n3_; clear n0_ n1_ n2_ n3_; (try clear hb); (try clear hb2); (try clear hk); (try clear hi); (try clear ho0)) | ((with_reducible refine gate_callee (f := 24) rfl ?_); refine goesL_ (some 57) rfl rfl Try.func24 (by kernel_rfl) rfl #[.int .i64 t140, .int .i64 (wrap64 (t141 + t143)), .int .i64 t142, .slice Ao22 y137.length co22] rfl (by (try simp only [List.map_toArray, List.map_cons, List.map_nil]); first | done | rfl | (simp only [List.length_drop, List.length_take]; rfl)) ?_; (with_reducible refine (life_Run.calls k t140 (wrap64 (t141 + t143)) t142 _ _ y137 t150 _ ?side1 ?side2 A16.out).mono ?_); (case side1 => repeat (first | exact (Kd.R_reads' HO139.out).2.2 | (with_reducible refine Kd.C_alloc ?_ _) | (with_reducible refine Kd.C_drewN ?_ _) | (with_reducible refine Kd.C_drew ?_))); (case side2 => exact (Kd.R_reads' HO139.out).2.1); rintro e w25 ⟨v151, rfl, ho0, hb⟩; refine ⟨_, rfl, ?_⟩; have n0_ := Aside0.mk (Kd.R_below (by (with_reducible repeat (first | apply Kd.R_alloc | apply Kd.R_drewN | apply Kd.R_drew)); exact HO139.out) hb); have n1_ := Aside0.mk (Kd.R_elder' (by (with_reducible repeat (first | apply Kd.R_alloc | apply Kd.R_drewN | apply Kd.R_drew)); exact HO146.out) (Kd.R_base ho0) hb); have n2_ := Aside0.mk (Kd.R_elder' (by (with_reducible repeat (first | apply Kd.R_alloc | apply Kd.R_drewN | apply Kd.R_drew)); exact HO149.out) (Kd.R_base ho0) hb); have n3_ := Aside0.mk (Kd.R_lower (Kd.R_new' (Kd.R_new' ho0 (Kd.R_lt (by (with_reducible repeat (first | apply Kd.R_alloc | apply Kd.R_drewN | apply Kd.R_drew)); exact HO146.out))) (Kd.R_lt (by (with_reducible repeat (first | apply Kd.R_alloc | apply Kd.R_drewN | apply Kd.R_drew)); exact HO149.out))) (below_size (by repeat (first | (with_reducible first | exact HB.out | apply below_alloc | apply pw_below_drewN | apply below_drew1) | exact HB.out)))); have n4_ := Aside0.mk (below_step (by repeat (first | (with_reducible first | exact HB.out | apply below_alloc | apply pw_below_drewN | apply below_drew1) | exact HB.out)) hb); clear HO139; clear HO146; clear HO149; clear HB; have HO139 := n0_; have HO146 := n1_; have HO149 := n2_; have HO152 := n3_; have HB := n4_; clear n0_ n1_ n2_ n3_ n4_; (try clear hb); (try clear hb2); (try clear hk); (try clear hi); (try clear ho0)))
        (try simp only [Act.put, List.setIfInBounds_toArray, List.set_cons_zero, List.set_cons_succ])
        go_cut [76] (fun v76 wc => ∃ (kq : Nat) (x76_16 : Bool), v76 = .bool x76_16 ∧ Aside0 (klaxonlaw12_LifeMore.j0 kq y137 t140 t141 t142 t144 t147 t150 x76_16 = some r) ∧ Aside0 (kq ≤ k) ∧ Aside0 (Kd.R Kd.bool 4 wc w.heap.size (fun _ => True) (.slice Ao22 y137.length co22) y137) ∧ Aside0 (Kd.R (Kd.int .i64) 3 wc w.heap.size (fun k_ => some k_ ≠ (v148 : Value).ownBlock ∧ some k_ ≠ (v151 : Value).ownBlock) v145 t144) ∧ Aside0 (Kd.R (Kd.int .i64) 3 wc w.heap.size (fun k_ => some k_ ≠ (v145 : Value).ownBlock ∧ some k_ ≠ (v151 : Value).ownBlock) v148 t147) ∧ Aside0 (Kd.R (Kd.int .i64) 3 wc w.heap.size (fun k_ => some k_ ≠ (v145 : Value).ownBlock ∧ some k_ ≠ (v148 : Value).ownBlock) v151 t150) ∧ Aside0 (Below w.heap.size w wc))
        case first =>
          have H := HC17.out
          clear HC17
          by_cases c26 : (t144.length : Int) = (y137.length : Int)
          · rw [if_pos c26] at H
            have c26b0 : ((t144.length : Int) == (y137.length : Int)) = true := beq_iff_eq.mpr c26
            have c26b1 : ((t144.length : Int) != (y137.length : Int)) = false := bne_eq_false_iff_eq.mpr c26
            have c26b2 : (t144.length == y137.length) = true := by first | simpa using c26 | (simp at c26 ⊢; omega)
            clear c26
            (first | rw [c26b0] | (simp only [i64_w, i32_w]; rw [c26b0]) | skip)
            by_cases c27 : (t147.length : Int) = (y137.length : Int)
            · rw [if_pos c27] at H
              have c27b0 : ((t147.length : Int) == (y137.length : Int)) = true := beq_iff_eq.mpr c27
              have c27b1 : ((t147.length : Int) != (y137.length : Int)) = false := bne_eq_false_iff_eq.mpr c27
              have c27b2 : (t147.length == y137.length) = true := by first | simpa using c27 | (simp at c27 ⊢; omega)
              clear c27
              have H' := Aside0.mk H
              clear H
              obtain ⟨Ao28, co28, eo28⟩ := Kd.R_slice HO146.out
              subst eo28
              obtain ⟨Ao29, co29, eo29⟩ := Kd.R_slice HO149.out
              subst eo29
              obtain ⟨Ao30, co30, eo30⟩ := Kd.R_slice HO152.out
              subst eo30
              go_wp2
              go_meet
              case rel => exact ⟨_, (((t150.length : Int) != (y137.length : Int))), (by first | rfl | (simp; done) | (simp [*]; done)), H', ⟨by first | omega | exact Nat.le_refl _⟩, ⟨by (with_reducible repeat (first | apply Kd.R_alloc | apply Kd.R_drewN | apply Kd.R_drew)); exact HO139.out⟩, ⟨by (with_reducible repeat (first | apply Kd.R_alloc | apply Kd.R_drewN | apply Kd.R_drew)); exact Kd.R_mono HO146.out (fun _ hk => ⟨hk.1.2, hk.2⟩)⟩, ⟨by (with_reducible repeat (first | apply Kd.R_alloc | apply Kd.R_drewN | apply Kd.R_drew)); exact Kd.R_mono HO149.out (fun _ hk => ⟨hk.1.2, hk.2⟩)⟩, ⟨by (with_reducible repeat (first | apply Kd.R_alloc | apply Kd.R_drewN | apply Kd.R_drew)); exact Kd.R_mono HO152.out (fun _ hk => ⟨hk.1.2, hk.2⟩)⟩, ⟨by repeat (first | (with_reducible first | exact HB.out | apply below_alloc | apply pw_below_drewN | apply below_drew1) | exact HB.out)⟩⟩
            · rw [if_neg c27] at H
              have c27b0 : ((t147.length : Int) == (y137.length : Int)) = false := beq_eq_false_iff_ne.mpr c27
              have c27b1 : ((t147.length : Int) != (y137.length : Int)) = true := bne_iff_ne.mpr c27
              have c27b2 : (t147.length == y137.length) = false := by first | simpa using c27 | (simp at c27 ⊢; omega)
              have H' := Aside0.mk H
              clear H
              obtain ⟨Ao31, co31, eo31⟩ := Kd.R_slice HO146.out
              subst eo31
              obtain ⟨Ao32, co32, eo32⟩ := Kd.R_slice HO149.out
              subst eo32
              go_wp2
              go_meet
              case rel => exact ⟨_, (true), (by first | rfl | (simp; done) | (simp [*]; done)), H', ⟨by first | omega | exact Nat.le_refl _⟩, ⟨by (with_reducible repeat (first | apply Kd.R_alloc | apply Kd.R_drewN | apply Kd.R_drew)); exact HO139.out⟩, ⟨by (with_reducible repeat (first | apply Kd.R_alloc | apply Kd.R_drewN | apply Kd.R_drew)); exact Kd.R_mono HO146.out (fun _ hk => ⟨hk.1.2, hk.2⟩)⟩, ⟨by (with_reducible repeat (first | apply Kd.R_alloc | apply Kd.R_drewN | apply Kd.R_drew)); exact Kd.R_mono HO149.out (fun _ hk => ⟨hk.1.2, hk.2⟩)⟩, ⟨by (with_reducible repeat (first | apply Kd.R_alloc | apply Kd.R_drewN | apply Kd.R_drew)); exact Kd.R_mono HO152.out (fun _ hk => ⟨hk.1.2, hk.2⟩)⟩, ⟨by repeat (first | (with_reducible first | exact HB.out | apply below_alloc | apply pw_below_drewN | apply below_drew1) | exact HB.out)⟩⟩
          · rw [if_neg c26] at H
            have c26b0 : ((t144.length : Int) == (y137.length : Int)) = false := beq_eq_false_iff_ne.mpr c26
            have c26b1 : ((t144.length : Int) != (y137.length : Int)) = true := bne_iff_ne.mpr c26
            have c26b2 : (t144.length == y137.length) = false := by first | simpa using c26 | (simp at c26 ⊢; omega)
            (first | rw [c26b0] | (simp only [i64_w, i32_w]; rw [c26b0]) | skip)
            have H' := Aside0.mk H
            clear H
            obtain ⟨Ao33, co33, eo33⟩ := Kd.R_slice HO146.out
            subst eo33
            go_wp2
            go_meet
            case rel => exact ⟨_, (true), (by first | rfl | (simp; done) | (simp [*]; done)), H', ⟨by first | omega | exact Nat.le_refl _⟩, ⟨by (with_reducible repeat (first | apply Kd.R_alloc | apply Kd.R_drewN | apply Kd.R_drew)); exact HO139.out⟩, ⟨by (with_reducible repeat (first | apply Kd.R_alloc | apply Kd.R_drewN | apply Kd.R_drew)); exact Kd.R_mono HO146.out (fun _ hk => ⟨hk.1.2, hk.2⟩)⟩, ⟨by (with_reducible repeat (first | apply Kd.R_alloc | apply Kd.R_drewN | apply Kd.R_drew)); exact Kd.R_mono HO149.out (fun _ hk => ⟨hk.1.2, hk.2⟩)⟩, ⟨by (with_reducible repeat (first | apply Kd.R_alloc | apply Kd.R_drewN | apply Kd.R_drew)); exact Kd.R_mono HO152.out (fun _ hk => ⟨hk.1.2, hk.2⟩)⟩, ⟨by repeat (first | (with_reducible first | exact HB.out | apply below_alloc | apply pw_below_drewN | apply below_drew1) | exact HB.out)⟩⟩
        case rest =>
          clear HC17
          try clear c2
          try clear p2
          try clear p6
          try clear c7
          try clear c7b0
          try clear c7b1
          try clear c8
          try clear c8b0
          try clear c8b1
          try clear c9
          try clear c22
          try clear c24
          try clear c26
          try clear c26b0
          try clear c26b1
          try clear c26b2
          try clear c27
          try clear c27b0
          try clear c27b1
          try clear c27b2
          obtain ⟨kq, x76_16, rfl, HA, HJ16, HO_11, HO_16, HO_17, HO_18, HB⟩ := hcut
          cases kq with
          | zero => exact absurd HA.out (by simp [klaxonlaw12_LifeMore.j0])
          | succ kj16 =>
            have H := HA.out
            clear HA
            simp only [klaxonlaw12_LifeMore.j0] at H
            by_cases c34 : x76_16 = true
            · subst c34
              have H1 : (some false) = some r := by rw [if_pos rfl] at H; exact H
              clear H
              have H := H1
              clear H1
              obtain rfl := Option.some.inj H
              go_wp2
              go_ret
              exact ⟨by first | rfl | (simp [errW_none, errW_some] <;> rfl) | (simp only [← hji6]; first | rfl | (simp [errW_none, errW_some] <;> rfl)) | (simp [*, errW_none, errW_some] <;> rfl), by repeat (first | (with_reducible first | exact HB.out | apply below_alloc | apply pw_below_drewN | apply below_drew1) | exact HB.out)⟩
            · replace c34 := Bool.eq_false_iff.mpr c34
              subst c34
              have H1 : (klaxonlaw12_LifeMore.l0 kj16 y137 t140 t141 t142 t144 t147 t150 (t144.length : Int) 0) = some r := by rw [if_neg (show ¬ (false = true) by decide)] at H; exact H
              clear H
              have H := H1
              clear H1
              have H' := Aside0.mk H
              clear H
              obtain ⟨Ao35, co35, eo35⟩ := Kd.R_slice HO_16.out
              subst eo35
              go_wp2
              go_loopg [79] kj16 (fun kq v79 w' => ∃ (x79_2 : Int), v79 = .int .i64 x79_2 ∧ Aside0 (klaxonlaw12_LifeMore.l0 kq y137 t140 t141 t142 t144 t147 t150 (t144.length : Int) x79_2 = some r) ∧ Aside0 (kq ≤ kj16) ∧ Aside0 (Kd.R Kd.bool 4 w' w.heap.size (fun _ => True) (.slice Ao22 y137.length co22) y137) ∧ Aside0 (Kd.R (Kd.int .i64) 3 w' w.heap.size (fun k_ => some k_ ≠ (v148 : Value).ownBlock ∧ some k_ ≠ (v151 : Value).ownBlock) (.slice Ao35 t144.length co35) t144) ∧ Aside0 (Kd.R (Kd.int .i64) 3 w' w.heap.size (fun k_ => some k_ ≠ ((.slice Ao35 t144.length co35) : Value).ownBlock ∧ some k_ ≠ (v151 : Value).ownBlock) v148 t147) ∧ Aside0 (Kd.R (Kd.int .i64) 3 w' w.heap.size (fun k_ => some k_ ≠ ((.slice Ao35 t144.length co35) : Value).ownBlock ∧ some k_ ≠ (v148 : Value).ownBlock) v151 t150) ∧ Aside0 (Below w.heap.size w w'))
              case atStart => exact ⟨(0), (by first | rfl | (simp; done) | (simp [*]; done)), H', ⟨Nat.le_refl _⟩, ⟨by (with_reducible repeat (first | apply Kd.R_alloc | apply Kd.R_drewN | apply Kd.R_drew)); exact HO_11.out⟩, ⟨by (with_reducible repeat (first | apply Kd.R_alloc | apply Kd.R_drewN | apply Kd.R_drew)); exact HO_16.out⟩, ⟨by (with_reducible repeat (first | apply Kd.R_alloc | apply Kd.R_drewN | apply Kd.R_drew)); exact HO_17.out⟩, ⟨by (with_reducible repeat (first | apply Kd.R_alloc | apply Kd.R_drewN | apply Kd.R_drew)); exact HO_18.out⟩, ⟨by repeat (first | (with_reducible first | exact HB.out | apply below_alloc | apply pw_below_drewN | apply below_drew1) | exact HB.out)⟩⟩
              case round =>
                clear H'
                try clear c2
                try clear p2
                try clear c3
                try clear p6
                try clear c7
                try clear c7b0
                try clear c7b1
                try clear c8
                try clear c8b0
                try clear c8b1
                try clear c9
                try clear c22
                try clear c24
                try clear c26
                try clear c26b0
                try clear c26b1
                try clear c26b2
                try clear c27
                try clear c27b0
                try clear c27b1
                try clear c27b2
                try clear c34
                try clear p2
                try clear p6
                obtain ⟨x79_2, rfl, HA, HK2, HO_11, HO_16, HO_17, HO_18, HB⟩ := hrel
                cases gk with
                | zero => exact absurd HA.out (by simp [klaxonlaw12_LifeMore.l0])
                | succ k2 =>
                  have H := HA.out
                  clear HA
                  simp only [klaxonlaw12_LifeMore.l0] at H
                  by_cases c36 : x79_2 < (t144.length : Int)
                  · rw [if_pos c36] at H
                    have c36b0 : decide (x79_2 < (t144.length : Int)) = true := decide_eq_true c36
                    clear c36
                    by_cases c37 : 0 ≤ x79_2
                    · rw [if_pos c37] at H
                      have c37b0 : decide (0 ≤ x79_2) = true := decide_eq_true c37
                      clear c37
                      by_cases c38 : x79_2 < (t144.length : Int)
                      · rw [if_pos c38] at H
                        have c38b0 : decide (x79_2 < (t144.length : Int)) = true := decide_eq_true c38
                        clear c38
                        by_cases c39 : (rd t144 x79_2) = 2
                        · rw [if_pos c39] at H
                          have c39b0 : ((rd t144 x79_2) == 2) = true := beq_iff_eq.mpr c39
                          have c39b1 : ((rd t144 x79_2) != 2) = false := bne_eq_false_iff_eq.mpr c39
                          clear c39
                          by_cases c40 : x79_2 < (t147.length : Int)
                          · rw [if_pos c40] at H
                            have c40b0 : decide (x79_2 < (t147.length : Int)) = true := decide_eq_true c40
                            clear c40
                            by_cases c41 : (rd t147 x79_2) = 2
                            · rw [if_pos c41] at H
                              have c41b0 : ((rd t147 x79_2) == 2) = true := beq_iff_eq.mpr c41
                              have c41b1 : ((rd t147 x79_2) != 2) = false := bne_eq_false_iff_eq.mpr c41
                              clear c41
                              by_cases c42 : x79_2 < (t150.length : Int)
                              · rw [if_pos c42] at H
                                have c42b0 : decide (x79_2 < (t150.length : Int)) = true := decide_eq_true c42
                                clear c42
                                by_cases c43 : (rd t150 x79_2) = 2
                                · rw [if_pos c43] at H
                                  have c43b0 : ((rd t150 x79_2) == 2) = true := beq_iff_eq.mpr c43
                                  have c43b1 : ((rd t150 x79_2) != 2) = false := bne_eq_false_iff_eq.mpr c43
                                  clear c43
                                  by_cases c44 : x79_2 < (y137.length : Int)
                                  · rw [if_pos c44] at H
                                    have c44b0 : decide (x79_2 < (y137.length : Int)) = true := decide_eq_true c44
                                    clear c44
                                    obtain ⟨bq45, hbq45⟩ : ∃ b_ : Bool, b_ = (rdOf false y137 x79_2) := ⟨_, rfl⟩
                                    replace H : (if bq45 = true then (if (rd t144 x79_2) = 0 then (some false) else (if (rd t144 x79_2) < 0 then (some false) else (if (rd t144 x79_2) > 2 then (some false) else (klaxonlaw12_LifeMore.l0 k2 y137 t140 t141 t142 t144 t147 t150 (t144.length : Int) (wrap64 (x79_2 + 1)))))) else (if (rd t144 x79_2) < 0 then (some false) else (if (rd t144 x79_2) > 2 then (some false) else (klaxonlaw12_LifeMore.l0 k2 y137 t140 t141 t142 t144 t147 t150 (t144.length : Int) (wrap64 (x79_2 + 1)))))) = some r := by rw [← hbq45] at H; exact H
                                    have Nbq45 := Aside0.mk hbq45
                                    clear hbq45
                                    by_cases c46 : bq45 = true
                                    · subst c46
                                      have H1 : (if (rd t144 x79_2) = 0 then (some false) else (if (rd t144 x79_2) < 0 then (some false) else (if (rd t144 x79_2) > 2 then (some false) else (klaxonlaw12_LifeMore.l0 k2 y137 t140 t141 t142 t144 t147 t150 (t144.length : Int) (wrap64 (x79_2 + 1)))))) = some r := by rw [if_pos rfl] at H; exact H
                                      clear H
                                      have H := H1
                                      clear H1
                                      by_cases c47 : (rd t144 x79_2) = 0
                                      · rw [if_pos c47] at H
                                        have c47b0 : ((rd t144 x79_2) == 0) = true := beq_iff_eq.mpr c47
                                        have c47b1 : ((rd t144 x79_2) != 0) = false := bne_eq_false_iff_eq.mpr c47
                                        clear c47
                                        obtain rfl := Option.some.inj H
                                        have p153 : 0 ≤ (x79_2 : Int) := of_decide_eq_true (by first | (with_reducible assumption) | assumption)
                                        have q153 : x79_2 < (t144.length : Int) := of_decide_eq_true (by first | (with_reducible assumption) | assumption)
                                        obtain ⟨ad153, e153, hx153_0⟩ := Kd.at_int (Kd.R_reads' HO_16.out).2.2 x79_2 p153 q153
                                        cases e153
                                        replace p153 := eq_true p153
                                        replace q153 := eq_true q153
                                        obtain ⟨Ao48, co48, eo48⟩ := Kd.R_slice HO_17.out
                                        subst eo48
                                        have p154 : 0 ≤ (x79_2 : Int) := of_decide_eq_true (by first | (with_reducible assumption) | assumption)
                                        have q154 : x79_2 < (t147.length : Int) := of_decide_eq_true (by first | (with_reducible assumption) | assumption)
                                        obtain ⟨ad154, e154, hx154_0⟩ := Kd.at_int (Kd.R_reads' HO_17.out).2.2 x79_2 p154 q154
                                        cases e154
                                        replace p154 := eq_true p154
                                        replace q154 := eq_true q154
                                        obtain ⟨Ao49, co49, eo49⟩ := Kd.R_slice HO_18.out
                                        subst eo49
                                        have p155 : 0 ≤ (x79_2 : Int) := of_decide_eq_true (by first | (with_reducible assumption) | assumption)
                                        have q155 : x79_2 < (t150.length : Int) := of_decide_eq_true (by first | (with_reducible assumption) | assumption)
                                        obtain ⟨ad155, e155, hx155_0⟩ := Kd.at_int (Kd.R_reads' HO_18.out).2.2 x79_2 p155 q155
                                        cases e155
                                        replace p155 := eq_true p155
                                        replace q155 := eq_true q155
                                        have p156 : 0 ≤ (x79_2 : Int) := of_decide_eq_true (by first | (with_reducible assumption) | assumption)
                                        have q156 : x79_2 < (t144.length : Int) := of_decide_eq_true (by first | (with_reducible assumption) | assumption)
                                        obtain ⟨ad156, e156, hx156_0⟩ := Kd.at_int (Kd.R_reads' HO_16.out).2.2 x79_2 p156 q156
                                        obtain rfl : ad153 = ad156 := (by injection e156)
                                        replace p156 := eq_true p156
                                        replace q156 := eq_true q156
                                        have p157 : 0 ≤ (x79_2 : Int) := of_decide_eq_true (by first | (with_reducible assumption) | assumption)
                                        have q157 : x79_2 < (y137.length : Int) := of_decide_eq_true (by first | (with_reducible assumption) | assumption)
                                        obtain ⟨ad157, e157, hx157_0⟩ := Kd.at_bool (Kd.R_reads' HO_11.out).2.2 x79_2 p157 q157
                                        (try rw [← Nbq45.out] at hx157_0)
                                        cases e157
                                        replace p157 := eq_true p157
                                        replace q157 := eq_true q157
                                        have p158 : 0 ≤ (x79_2 : Int) := of_decide_eq_true (by first | (with_reducible assumption) | assumption)
                                        have q158 : x79_2 < (t144.length : Int) := of_decide_eq_true (by first | (with_reducible assumption) | assumption)
                                        obtain ⟨ad158, e158, hx158_0⟩ := Kd.at_int (Kd.R_reads' HO_16.out).2.2 x79_2 p158 q158
                                        obtain rfl : ad153 = ad158 := (by injection e158)
                                        replace p158 := eq_true p158
                                        replace q158 := eq_true q158
                                        go_wp2
                                        go_ret
                                        exact ⟨by first | rfl | (simp [errW_none, errW_some] <;> rfl) | (simp only [← hji6]; first | rfl | (simp [errW_none, errW_some] <;> rfl)) | (simp [*, errW_none, errW_some] <;> rfl), by repeat (first | (with_reducible first | exact HB.out | apply below_alloc | apply pw_below_drewN | apply below_drew1) | exact HB.out)⟩
                                      · rw [if_neg c47] at H
                                        have c47b0 : ((rd t144 x79_2) == 0) = false := beq_eq_false_iff_ne.mpr c47
                                        have c47b1 : ((rd t144 x79_2) != 0) = true := bne_iff_ne.mpr c47
                                        by_cases c50 : (rd t144 x79_2) < 0
                                        · rw [if_pos c50] at H
                                          have c50b0 : decide ((rd t144 x79_2) < 0) = true := decide_eq_true c50
                                          clear c50
                                          obtain rfl := Option.some.inj H
                                          have p153 : 0 ≤ (x79_2 : Int) := of_decide_eq_true (by first | (with_reducible assumption) | assumption)
                                          have q153 : x79_2 < (t144.length : Int) := of_decide_eq_true (by first | (with_reducible assumption) | assumption)
                                          obtain ⟨ad153, e153, hx153_0⟩ := Kd.at_int (Kd.R_reads' HO_16.out).2.2 x79_2 p153 q153
                                          cases e153
                                          replace p153 := eq_true p153
                                          replace q153 := eq_true q153
                                          obtain ⟨Ao51, co51, eo51⟩ := Kd.R_slice HO_17.out
                                          subst eo51
                                          have p154 : 0 ≤ (x79_2 : Int) := of_decide_eq_true (by first | (with_reducible assumption) | assumption)
                                          have q154 : x79_2 < (t147.length : Int) := of_decide_eq_true (by first | (with_reducible assumption) | assumption)
                                          obtain ⟨ad154, e154, hx154_0⟩ := Kd.at_int (Kd.R_reads' HO_17.out).2.2 x79_2 p154 q154
                                          cases e154
                                          replace p154 := eq_true p154
                                          replace q154 := eq_true q154
                                          obtain ⟨Ao52, co52, eo52⟩ := Kd.R_slice HO_18.out
                                          subst eo52
                                          have p155 : 0 ≤ (x79_2 : Int) := of_decide_eq_true (by first | (with_reducible assumption) | assumption)
                                          have q155 : x79_2 < (t150.length : Int) := of_decide_eq_true (by first | (with_reducible assumption) | assumption)
                                          obtain ⟨ad155, e155, hx155_0⟩ := Kd.at_int (Kd.R_reads' HO_18.out).2.2 x79_2 p155 q155
                                          cases e155
                                          replace p155 := eq_true p155
                                          replace q155 := eq_true q155
                                          have p156 : 0 ≤ (x79_2 : Int) := of_decide_eq_true (by first | (with_reducible assumption) | assumption)
                                          have q156 : x79_2 < (t144.length : Int) := of_decide_eq_true (by first | (with_reducible assumption) | assumption)
                                          obtain ⟨ad156, e156, hx156_0⟩ := Kd.at_int (Kd.R_reads' HO_16.out).2.2 x79_2 p156 q156
                                          obtain rfl : ad153 = ad156 := (by injection e156)
                                          replace p156 := eq_true p156
                                          replace q156 := eq_true q156
                                          have p157 : 0 ≤ (x79_2 : Int) := of_decide_eq_true (by first | (with_reducible assumption) | assumption)
                                          have q157 : x79_2 < (y137.length : Int) := of_decide_eq_true (by first | (with_reducible assumption) | assumption)
                                          obtain ⟨ad157, e157, hx157_0⟩ := Kd.at_bool (Kd.R_reads' HO_11.out).2.2 x79_2 p157 q157
                                          (try rw [← Nbq45.out] at hx157_0)
                                          cases e157
                                          replace p157 := eq_true p157
                                          replace q157 := eq_true q157
                                          have p158 : 0 ≤ (x79_2 : Int) := of_decide_eq_true (by first | (with_reducible assumption) | assumption)
                                          have q158 : x79_2 < (t144.length : Int) := of_decide_eq_true (by first | (with_reducible assumption) | assumption)
                                          obtain ⟨ad158, e158, hx158_0⟩ := Kd.at_int (Kd.R_reads' HO_16.out).2.2 x79_2 p158 q158
                                          obtain rfl : ad153 = ad158 := (by injection e158)
                                          replace p158 := eq_true p158
                                          replace q158 := eq_true q158
                                          have p159 : 0 ≤ (x79_2 : Int) := of_decide_eq_true (by first | (with_reducible assumption) | assumption)
                                          have q159 : x79_2 < (t144.length : Int) := of_decide_eq_true (by first | (with_reducible assumption) | assumption)
                                          obtain ⟨ad159, e159, hx159_0⟩ := Kd.at_int (Kd.R_reads' HO_16.out).2.2 x79_2 p159 q159
                                          obtain rfl : ad153 = ad159 := (by injection e159)
                                          replace p159 := eq_true p159
                                          replace q159 := eq_true q159
                                          go_wp2
                                          go_ret
                                          exact ⟨by first | rfl | (simp [errW_none, errW_some] <;> rfl) | (simp only [← hji6]; first | rfl | (simp [errW_none, errW_some] <;> rfl)) | (simp [*, errW_none, errW_some] <;> rfl), by repeat (first | (with_reducible first | exact HB.out | apply below_alloc | apply pw_below_drewN | apply below_drew1) | exact HB.out)⟩
                                        · rw [if_neg c50] at H
                                          have c50b0 : decide ((rd t144 x79_2) < 0) = false := decide_eq_false c50
                                          clear c50
                                          by_cases c53 : (rd t144 x79_2) > 2
                                          · rw [if_pos c53] at H
                                            have c53b0 : decide (2 < (rd t144 x79_2)) = true := decide_eq_true c53
                                            clear c53
                                            obtain rfl := Option.some.inj H
                                            have p153 : 0 ≤ (x79_2 : Int) := of_decide_eq_true (by first | (with_reducible assumption) | assumption)
                                            have q153 : x79_2 < (t144.length : Int) := of_decide_eq_true (by first | (with_reducible assumption) | assumption)
                                            obtain ⟨ad153, e153, hx153_0⟩ := Kd.at_int (Kd.R_reads' HO_16.out).2.2 x79_2 p153 q153
                                            cases e153
                                            replace p153 := eq_true p153
                                            replace q153 := eq_true q153
                                            obtain ⟨Ao54, co54, eo54⟩ := Kd.R_slice HO_17.out
                                            subst eo54
                                            have p154 : 0 ≤ (x79_2 : Int) := of_decide_eq_true (by first | (with_reducible assumption) | assumption)
                                            have q154 : x79_2 < (t147.length : Int) := of_decide_eq_true (by first | (with_reducible assumption) | assumption)
                                            obtain ⟨ad154, e154, hx154_0⟩ := Kd.at_int (Kd.R_reads' HO_17.out).2.2 x79_2 p154 q154
                                            cases e154
                                            replace p154 := eq_true p154
                                            replace q154 := eq_true q154
                                            obtain ⟨Ao55, co55, eo55⟩ := Kd.R_slice HO_18.out
                                            subst eo55
                                            have p155 : 0 ≤ (x79_2 : Int) := of_decide_eq_true (by first | (with_reducible assumption) | assumption)
                                            have q155 : x79_2 < (t150.length : Int) := of_decide_eq_true (by first | (with_reducible assumption) | assumption)
                                            obtain ⟨ad155, e155, hx155_0⟩ := Kd.at_int (Kd.R_reads' HO_18.out).2.2 x79_2 p155 q155
                                            cases e155
                                            replace p155 := eq_true p155
                                            replace q155 := eq_true q155
                                            have p156 : 0 ≤ (x79_2 : Int) := of_decide_eq_true (by first | (with_reducible assumption) | assumption)
                                            have q156 : x79_2 < (t144.length : Int) := of_decide_eq_true (by first | (with_reducible assumption) | assumption)
                                            obtain ⟨ad156, e156, hx156_0⟩ := Kd.at_int (Kd.R_reads' HO_16.out).2.2 x79_2 p156 q156
                                            obtain rfl : ad153 = ad156 := (by injection e156)
                                            replace p156 := eq_true p156
                                            replace q156 := eq_true q156
                                            have p157 : 0 ≤ (x79_2 : Int) := of_decide_eq_true (by first | (with_reducible assumption) | assumption)
                                            have q157 : x79_2 < (y137.length : Int) := of_decide_eq_true (by first | (with_reducible assumption) | assumption)
                                            obtain ⟨ad157, e157, hx157_0⟩ := Kd.at_bool (Kd.R_reads' HO_11.out).2.2 x79_2 p157 q157
                                            (try rw [← Nbq45.out] at hx157_0)
                                            cases e157
                                            replace p157 := eq_true p157
                                            replace q157 := eq_true q157
                                            have p158 : 0 ≤ (x79_2 : Int) := of_decide_eq_true (by first | (with_reducible assumption) | assumption)
                                            have q158 : x79_2 < (t144.length : Int) := of_decide_eq_true (by first | (with_reducible assumption) | assumption)
                                            obtain ⟨ad158, e158, hx158_0⟩ := Kd.at_int (Kd.R_reads' HO_16.out).2.2 x79_2 p158 q158
                                            obtain rfl : ad153 = ad158 := (by injection e158)
                                            replace p158 := eq_true p158
                                            replace q158 := eq_true q158
                                            have p159 : 0 ≤ (x79_2 : Int) := of_decide_eq_true (by first | (with_reducible assumption) | assumption)
                                            have q159 : x79_2 < (t144.length : Int) := of_decide_eq_true (by first | (with_reducible assumption) | assumption)
                                            obtain ⟨ad159, e159, hx159_0⟩ := Kd.at_int (Kd.R_reads' HO_16.out).2.2 x79_2 p159 q159
                                            obtain rfl : ad153 = ad159 := (by injection e159)
                                            replace p159 := eq_true p159
                                            replace q159 := eq_true q159
                                            have p160 : 0 ≤ (x79_2 : Int) := of_decide_eq_true (by first | (with_reducible assumption) | assumption)
                                            have q160 : x79_2 < (t144.length : Int) := of_decide_eq_true (by first | (with_reducible assumption) | assumption)
                                            obtain ⟨ad160, e160, hx160_0⟩ := Kd.at_int (Kd.R_reads' HO_16.out).2.2 x79_2 p160 q160
                                            obtain rfl : ad153 = ad160 := (by injection e160)
                                            replace p160 := eq_true p160
                                            replace q160 := eq_true q160
                                            go_wp2
                                            go_ret
                                            exact ⟨by first | rfl | (simp [errW_none, errW_some] <;> rfl) | (simp only [← hji6]; first | rfl | (simp [errW_none, errW_some] <;> rfl)) | (simp [*, errW_none, errW_some] <;> rfl), by repeat (first | (with_reducible first | exact HB.out | apply below_alloc | apply pw_below_drewN | apply below_drew1) | exact HB.out)⟩
                                          · rw [if_neg c53] at H
                                            have c53b0 : decide (2 < (rd t144 x79_2)) = false := decide_eq_false c53
                                            clear c53
                                            have H' := Aside0.mk H
                                            clear H
                                            have p153 : 0 ≤ (x79_2 : Int) := of_decide_eq_true (by first | (with_reducible assumption) | assumption)
                                            have q153 : x79_2 < (t144.length : Int) := of_decide_eq_true (by first | (with_reducible assumption) | assumption)
                                            obtain ⟨ad153, e153, hx153_0⟩ := Kd.at_int (Kd.R_reads' HO_16.out).2.2 x79_2 p153 q153
                                            cases e153
                                            replace p153 := eq_true p153
                                            replace q153 := eq_true q153
                                            obtain ⟨Ao56, co56, eo56⟩ := Kd.R_slice HO_17.out
                                            subst eo56
                                            have p154 : 0 ≤ (x79_2 : Int) := of_decide_eq_true (by first | (with_reducible assumption) | assumption)
                                            have q154 : x79_2 < (t147.length : Int) := of_decide_eq_true (by first | (with_reducible assumption) | assumption)
                                            obtain ⟨ad154, e154, hx154_0⟩ := Kd.at_int (Kd.R_reads' HO_17.out).2.2 x79_2 p154 q154
                                            cases e154
                                            replace p154 := eq_true p154
                                            replace q154 := eq_true q154
                                            obtain ⟨Ao57, co57, eo57⟩ := Kd.R_slice HO_18.out
                                            subst eo57
                                            have p155 : 0 ≤ (x79_2 : Int) := of_decide_eq_true (by first | (with_reducible assumption) | assumption)
                                            have q155 : x79_2 < (t150.length : Int) := of_decide_eq_true (by first | (with_reducible assumption) | assumption)
                                            obtain ⟨ad155, e155, hx155_0⟩ := Kd.at_int (Kd.R_reads' HO_18.out).2.2 x79_2 p155 q155
                                            cases e155
                                            replace p155 := eq_true p155
                                            replace q155 := eq_true q155
                                            have p156 : 0 ≤ (x79_2 : Int) := of_decide_eq_true (by first | (with_reducible assumption) | assumption)
                                            have q156 : x79_2 < (t144.length : Int) := of_decide_eq_true (by first | (with_reducible assumption) | assumption)
                                            obtain ⟨ad156, e156, hx156_0⟩ := Kd.at_int (Kd.R_reads' HO_16.out).2.2 x79_2 p156 q156
                                            obtain rfl : ad153 = ad156 := (by injection e156)
                                            replace p156 := eq_true p156
                                            replace q156 := eq_true q156
                                            have p157 : 0 ≤ (x79_2 : Int) := of_decide_eq_true (by first | (with_reducible assumption) | assumption)
                                            have q157 : x79_2 < (y137.length : Int) := of_decide_eq_true (by first | (with_reducible assumption) | assumption)
                                            obtain ⟨ad157, e157, hx157_0⟩ := Kd.at_bool (Kd.R_reads' HO_11.out).2.2 x79_2 p157 q157
                                            (try rw [← Nbq45.out] at hx157_0)
                                            cases e157
                                            replace p157 := eq_true p157
                                            replace q157 := eq_true q157
                                            have p158 : 0 ≤ (x79_2 : Int) := of_decide_eq_true (by first | (with_reducible assumption) | assumption)
                                            have q158 : x79_2 < (t144.length : Int) := of_decide_eq_true (by first | (with_reducible assumption) | assumption)
                                            obtain ⟨ad158, e158, hx158_0⟩ := Kd.at_int (Kd.R_reads' HO_16.out).2.2 x79_2 p158 q158
                                            obtain rfl : ad153 = ad158 := (by injection e158)
                                            replace p158 := eq_true p158
                                            replace q158 := eq_true q158
                                            have p159 : 0 ≤ (x79_2 : Int) := of_decide_eq_true (by first | (with_reducible assumption) | assumption)
                                            have q159 : x79_2 < (t144.length : Int) := of_decide_eq_true (by first | (with_reducible assumption) | assumption)
                                            obtain ⟨ad159, e159, hx159_0⟩ := Kd.at_int (Kd.R_reads' HO_16.out).2.2 x79_2 p159 q159
                                            obtain rfl : ad153 = ad159 := (by injection e159)
                                            replace p159 := eq_true p159
                                            replace q159 := eq_true q159
                                            have p160 : 0 ≤ (x79_2 : Int) := of_decide_eq_true (by first | (with_reducible assumption) | assumption)
                                            have q160 : x79_2 < (t144.length : Int) := of_decide_eq_true (by first | (with_reducible assumption) | assumption)
                                            obtain ⟨ad160, e160, hx160_0⟩ := Kd.at_int (Kd.R_reads' HO_16.out).2.2 x79_2 p160 q160
                                            obtain rfl : ad153 = ad160 := (by injection e160)
                                            replace p160 := eq_true p160
                                            replace q160 := eq_true q160
                                            go_wp2
                                            go_roundg k2
                                            case measure => have := HJ16.out; have := HK2.out; omega
                                            case rel => exact ⟨(wrap64 (x79_2 + 1)), (by first | rfl | (simp; done) | (simp [*]; done)), H', ⟨by have := HJ16.out; have := HK2.out; omega⟩, ⟨by (with_reducible repeat (first | apply Kd.R_alloc | apply Kd.R_drewN | apply Kd.R_drew)); exact HO_11.out⟩, ⟨by (with_reducible repeat (first | apply Kd.R_alloc | apply Kd.R_drewN | apply Kd.R_drew)); exact HO_16.out⟩, ⟨by (with_reducible repeat (first | apply Kd.R_alloc | apply Kd.R_drewN | apply Kd.R_drew)); exact HO_17.out⟩, ⟨by (with_reducible repeat (first | apply Kd.R_alloc | apply Kd.R_drewN | apply Kd.R_drew)); exact HO_18.out⟩, ⟨by repeat (first | (with_reducible first | exact HB.out | apply below_alloc | apply pw_below_drewN | apply below_drew1) | exact HB.out)⟩⟩
                                    · replace c46 := Bool.eq_false_iff.mpr c46
                                      subst c46
                                      have H1 : (if (rd t144 x79_2) < 0 then (some false) else (if (rd t144 x79_2) > 2 then (some false) else (klaxonlaw12_LifeMore.l0 k2 y137 t140 t141 t142 t144 t147 t150 (t144.length : Int) (wrap64 (x79_2 + 1))))) = some r := by rw [if_neg (show ¬ (false = true) by decide)] at H; exact H
                                      clear H
                                      have H := H1
                                      clear H1
                                      by_cases c58 : (rd t144 x79_2) < 0
                                      · rw [if_pos c58] at H
                                        have c58b0 : decide ((rd t144 x79_2) < 0) = true := decide_eq_true c58
                                        clear c58
                                        obtain rfl := Option.some.inj H
                                        have p153 : 0 ≤ (x79_2 : Int) := of_decide_eq_true (by first | (with_reducible assumption) | assumption)
                                        have q153 : x79_2 < (t144.length : Int) := of_decide_eq_true (by first | (with_reducible assumption) | assumption)
                                        obtain ⟨ad153, e153, hx153_0⟩ := Kd.at_int (Kd.R_reads' HO_16.out).2.2 x79_2 p153 q153
                                        cases e153
                                        replace p153 := eq_true p153
                                        replace q153 := eq_true q153
                                        obtain ⟨Ao59, co59, eo59⟩ := Kd.R_slice HO_17.out
                                        subst eo59
                                        have p154 : 0 ≤ (x79_2 : Int) := of_decide_eq_true (by first | (with_reducible assumption) | assumption)
                                        have q154 : x79_2 < (t147.length : Int) := of_decide_eq_true (by first | (with_reducible assumption) | assumption)
                                        obtain ⟨ad154, e154, hx154_0⟩ := Kd.at_int (Kd.R_reads' HO_17.out).2.2 x79_2 p154 q154
                                        cases e154
                                        replace p154 := eq_true p154
                                        replace q154 := eq_true q154
                                        obtain ⟨Ao60, co60, eo60⟩ := Kd.R_slice HO_18.out
                                        subst eo60
                                        have p155 : 0 ≤ (x79_2 : Int) := of_decide_eq_true (by first | (with_reducible assumption) | assumption)
                                        have q155 : x79_2 < (t150.length : Int) := of_decide_eq_true (by first | (with_reducible assumption) | assumption)
                                        obtain ⟨ad155, e155, hx155_0⟩ := Kd.at_int (Kd.R_reads' HO_18.out).2.2 x79_2 p155 q155
                                        cases e155
                                        replace p155 := eq_true p155
                                        replace q155 := eq_true q155
                                        have p156 : 0 ≤ (x79_2 : Int) := of_decide_eq_true (by first | (with_reducible assumption) | assumption)
                                        have q156 : x79_2 < (t144.length : Int) := of_decide_eq_true (by first | (with_reducible assumption) | assumption)
                                        obtain ⟨ad156, e156, hx156_0⟩ := Kd.at_int (Kd.R_reads' HO_16.out).2.2 x79_2 p156 q156
                                        obtain rfl : ad153 = ad156 := (by injection e156)
                                        replace p156 := eq_true p156
                                        replace q156 := eq_true q156
                                        have p157 : 0 ≤ (x79_2 : Int) := of_decide_eq_true (by first | (with_reducible assumption) | assumption)
                                        have q157 : x79_2 < (y137.length : Int) := of_decide_eq_true (by first | (with_reducible assumption) | assumption)
                                        obtain ⟨ad157, e157, hx157_0⟩ := Kd.at_bool (Kd.R_reads' HO_11.out).2.2 x79_2 p157 q157
                                        (try rw [← Nbq45.out] at hx157_0)
                                        cases e157
                                        replace p157 := eq_true p157
                                        replace q157 := eq_true q157
                                        have p161 : 0 ≤ (x79_2 : Int) := of_decide_eq_true (by first | (with_reducible assumption) | assumption)
                                        have q161 : x79_2 < (t144.length : Int) := of_decide_eq_true (by first | (with_reducible assumption) | assumption)
                                        obtain ⟨ad161, e161, hx161_0⟩ := Kd.at_int (Kd.R_reads' HO_16.out).2.2 x79_2 p161 q161
                                        obtain rfl : ad153 = ad161 := (by injection e161)
                                        replace p161 := eq_true p161
                                        replace q161 := eq_true q161
                                        go_wp2
                                        go_ret
                                        exact ⟨by first | rfl | (simp [errW_none, errW_some] <;> rfl) | (simp only [← hji6]; first | rfl | (simp [errW_none, errW_some] <;> rfl)) | (simp [*, errW_none, errW_some] <;> rfl), by repeat (first | (with_reducible first | exact HB.out | apply below_alloc | apply pw_below_drewN | apply below_drew1) | exact HB.out)⟩
                                      · rw [if_neg c58] at H
                                        have c58b0 : decide ((rd t144 x79_2) < 0) = false := decide_eq_false c58
                                        clear c58
                                        by_cases c61 : (rd t144 x79_2) > 2
                                        · rw [if_pos c61] at H
                                          have c61b0 : decide (2 < (rd t144 x79_2)) = true := decide_eq_true c61
                                          clear c61
                                          obtain rfl := Option.some.inj H
                                          have p153 : 0 ≤ (x79_2 : Int) := of_decide_eq_true (by first | (with_reducible assumption) | assumption)
                                          have q153 : x79_2 < (t144.length : Int) := of_decide_eq_true (by first | (with_reducible assumption) | assumption)
                                          obtain ⟨ad153, e153, hx153_0⟩ := Kd.at_int (Kd.R_reads' HO_16.out).2.2 x79_2 p153 q153
                                          cases e153
                                          replace p153 := eq_true p153
                                          replace q153 := eq_true q153
                                          obtain ⟨Ao62, co62, eo62⟩ := Kd.R_slice HO_17.out
                                          subst eo62
                                          have p154 : 0 ≤ (x79_2 : Int) := of_decide_eq_true (by first | (with_reducible assumption) | assumption)
                                          have q154 : x79_2 < (t147.length : Int) := of_decide_eq_true (by first | (with_reducible assumption) | assumption)
                                          obtain ⟨ad154, e154, hx154_0⟩ := Kd.at_int (Kd.R_reads' HO_17.out).2.2 x79_2 p154 q154
                                          cases e154
                                          replace p154 := eq_true p154
                                          replace q154 := eq_true q154
                                          obtain ⟨Ao63, co63, eo63⟩ := Kd.R_slice HO_18.out
                                          subst eo63
                                          have p155 : 0 ≤ (x79_2 : Int) := of_decide_eq_true (by first | (with_reducible assumption) | assumption)
                                          have q155 : x79_2 < (t150.length : Int) := of_decide_eq_true (by first | (with_reducible assumption) | assumption)
                                          obtain ⟨ad155, e155, hx155_0⟩ := Kd.at_int (Kd.R_reads' HO_18.out).2.2 x79_2 p155 q155
                                          cases e155
                                          replace p155 := eq_true p155
                                          replace q155 := eq_true q155
                                          have p156 : 0 ≤ (x79_2 : Int) := of_decide_eq_true (by first | (with_reducible assumption) | assumption)
                                          have q156 : x79_2 < (t144.length : Int) := of_decide_eq_true (by first | (with_reducible assumption) | assumption)
                                          obtain ⟨ad156, e156, hx156_0⟩ := Kd.at_int (Kd.R_reads' HO_16.out).2.2 x79_2 p156 q156
                                          obtain rfl : ad153 = ad156 := (by injection e156)
                                          replace p156 := eq_true p156
                                          replace q156 := eq_true q156
                                          have p157 : 0 ≤ (x79_2 : Int) := of_decide_eq_true (by first | (with_reducible assumption) | assumption)
                                          have q157 : x79_2 < (y137.length : Int) := of_decide_eq_true (by first | (with_reducible assumption) | assumption)
                                          obtain ⟨ad157, e157, hx157_0⟩ := Kd.at_bool (Kd.R_reads' HO_11.out).2.2 x79_2 p157 q157
                                          (try rw [← Nbq45.out] at hx157_0)
                                          cases e157
                                          replace p157 := eq_true p157
                                          replace q157 := eq_true q157
                                          have p161 : 0 ≤ (x79_2 : Int) := of_decide_eq_true (by first | (with_reducible assumption) | assumption)
                                          have q161 : x79_2 < (t144.length : Int) := of_decide_eq_true (by first | (with_reducible assumption) | assumption)
                                          obtain ⟨ad161, e161, hx161_0⟩ := Kd.at_int (Kd.R_reads' HO_16.out).2.2 x79_2 p161 q161
                                          obtain rfl : ad153 = ad161 := (by injection e161)
                                          replace p161 := eq_true p161
                                          replace q161 := eq_true q161
                                          have p162 : 0 ≤ (x79_2 : Int) := of_decide_eq_true (by first | (with_reducible assumption) | assumption)
                                          have q162 : x79_2 < (t144.length : Int) := of_decide_eq_true (by first | (with_reducible assumption) | assumption)
                                          obtain ⟨ad162, e162, hx162_0⟩ := Kd.at_int (Kd.R_reads' HO_16.out).2.2 x79_2 p162 q162
                                          obtain rfl : ad153 = ad162 := (by injection e162)
                                          replace p162 := eq_true p162
                                          replace q162 := eq_true q162
                                          go_wp2
                                          go_ret
                                          exact ⟨by first | rfl | (simp [errW_none, errW_some] <;> rfl) | (simp only [← hji6]; first | rfl | (simp [errW_none, errW_some] <;> rfl)) | (simp [*, errW_none, errW_some] <;> rfl), by repeat (first | (with_reducible first | exact HB.out | apply below_alloc | apply pw_below_drewN | apply below_drew1) | exact HB.out)⟩
                                        · rw [if_neg c61] at H
                                          have c61b0 : decide (2 < (rd t144 x79_2)) = false := decide_eq_false c61
                                          clear c61
                                          have H' := Aside0.mk H
                                          clear H
                                          have p153 : 0 ≤ (x79_2 : Int) := of_decide_eq_true (by first | (with_reducible assumption) | assumption)
                                          have q153 : x79_2 < (t144.length : Int) := of_decide_eq_true (by first | (with_reducible assumption) | assumption)
                                          obtain ⟨ad153, e153, hx153_0⟩ := Kd.at_int (Kd.R_reads' HO_16.out).2.2 x79_2 p153 q153
                                          cases e153
                                          replace p153 := eq_true p153
                                          replace q153 := eq_true q153
                                          obtain ⟨Ao64, co64, eo64⟩ := Kd.R_slice HO_17.out
                                          subst eo64
                                          have p154 : 0 ≤ (x79_2 : Int) := of_decide_eq_true (by first | (with_reducible assumption) | assumption)
                                          have q154 : x79_2 < (t147.length : Int) := of_decide_eq_true (by first | (with_reducible assumption) | assumption)
                                          obtain ⟨ad154, e154, hx154_0⟩ := Kd.at_int (Kd.R_reads' HO_17.out).2.2 x79_2 p154 q154
                                          cases e154
                                          replace p154 := eq_true p154
                                          replace q154 := eq_true q154
                                          obtain ⟨Ao65, co65, eo65⟩ := Kd.R_slice HO_18.out
                                          subst eo65
                                          have p155 : 0 ≤ (x79_2 : Int) := of_decide_eq_true (by first | (with_reducible assumption) | assumption)
                                          have q155 : x79_2 < (t150.length : Int) := of_decide_eq_true (by first | (with_reducible assumption) | assumption)
                                          obtain ⟨ad155, e155, hx155_0⟩ := Kd.at_int (Kd.R_reads' HO_18.out).2.2 x79_2 p155 q155
                                          cases e155
                                          replace p155 := eq_true p155
                                          replace q155 := eq_true q155
                                          have p156 : 0 ≤ (x79_2 : Int) := of_decide_eq_true (by first | (with_reducible assumption) | assumption)
                                          have q156 : x79_2 < (t144.length : Int) := of_decide_eq_true (by first | (with_reducible assumption) | assumption)
                                          obtain ⟨ad156, e156, hx156_0⟩ := Kd.at_int (Kd.R_reads' HO_16.out).2.2 x79_2 p156 q156
                                          obtain rfl : ad153 = ad156 := (by injection e156)
                                          replace p156 := eq_true p156
                                          replace q156 := eq_true q156
                                          have p157 : 0 ≤ (x79_2 : Int) := of_decide_eq_true (by first | (with_reducible assumption) | assumption)
                                          have q157 : x79_2 < (y137.length : Int) := of_decide_eq_true (by first | (with_reducible assumption) | assumption)
                                          obtain ⟨ad157, e157, hx157_0⟩ := Kd.at_bool (Kd.R_reads' HO_11.out).2.2 x79_2 p157 q157
                                          (try rw [← Nbq45.out] at hx157_0)
                                          cases e157
                                          replace p157 := eq_true p157
                                          replace q157 := eq_true q157
                                          have p161 : 0 ≤ (x79_2 : Int) := of_decide_eq_true (by first | (with_reducible assumption) | assumption)
                                          have q161 : x79_2 < (t144.length : Int) := of_decide_eq_true (by first | (with_reducible assumption) | assumption)
                                          obtain ⟨ad161, e161, hx161_0⟩ := Kd.at_int (Kd.R_reads' HO_16.out).2.2 x79_2 p161 q161
                                          obtain rfl : ad153 = ad161 := (by injection e161)
                                          replace p161 := eq_true p161
                                          replace q161 := eq_true q161
                                          have p162 : 0 ≤ (x79_2 : Int) := of_decide_eq_true (by first | (with_reducible assumption) | assumption)
                                          have q162 : x79_2 < (t144.length : Int) := of_decide_eq_true (by first | (with_reducible assumption) | assumption)
                                          obtain ⟨ad162, e162, hx162_0⟩ := Kd.at_int (Kd.R_reads' HO_16.out).2.2 x79_2 p162 q162
                                          obtain rfl : ad153 = ad162 := (by injection e162)
                                          replace p162 := eq_true p162
                                          replace q162 := eq_true q162
                                          go_wp2
                                          go_roundg k2
                                          case measure => have := HJ16.out; have := HK2.out; omega
                                          case rel => exact ⟨(wrap64 (x79_2 + 1)), (by first | rfl | (simp; done) | (simp [*]; done)), H', ⟨by have := HJ16.out; have := HK2.out; omega⟩, ⟨by (with_reducible repeat (first | apply Kd.R_alloc | apply Kd.R_drewN | apply Kd.R_drew)); exact HO_11.out⟩, ⟨by (with_reducible repeat (first | apply Kd.R_alloc | apply Kd.R_drewN | apply Kd.R_drew)); exact HO_16.out⟩, ⟨by (with_reducible repeat (first | apply Kd.R_alloc | apply Kd.R_drewN | apply Kd.R_drew)); exact HO_17.out⟩, ⟨by (with_reducible repeat (first | apply Kd.R_alloc | apply Kd.R_drewN | apply Kd.R_drew)); exact HO_18.out⟩, ⟨by repeat (first | (with_reducible first | exact HB.out | apply below_alloc | apply pw_below_drewN | apply below_drew1) | exact HB.out)⟩⟩
                                  · rw [if_neg c44] at H
                                    exact absurd H (by simp)
                                · rw [if_neg c43] at H
                                  have c43b0 : ((rd t150 x79_2) == 2) = false := beq_eq_false_iff_ne.mpr c43
                                  have c43b1 : ((rd t150 x79_2) != 2) = true := bne_iff_ne.mpr c43
                                  by_cases c66 : x79_2 < (y137.length : Int)
                                  · rw [if_pos c66] at H
                                    have c66b0 : decide (x79_2 < (y137.length : Int)) = true := decide_eq_true c66
                                    clear c66
                                    obtain ⟨bq67, hbq67⟩ : ∃ b_ : Bool, b_ = (rdOf false y137 x79_2) := ⟨_, rfl⟩
                                    replace H : (if bq67 = true then (if (rd t144 x79_2) = 0 then (some false) else (if (rd t144 x79_2) < 0 then (some false) else (if (rd t144 x79_2) > 2 then (some false) else (klaxonlaw12_LifeMore.l0 k2 y137 t140 t141 t142 t144 t147 t150 (t144.length : Int) (wrap64 (x79_2 + 1)))))) else (if (rd t144 x79_2) < 0 then (some false) else (if (rd t144 x79_2) > 2 then (some false) else (klaxonlaw12_LifeMore.l0 k2 y137 t140 t141 t142 t144 t147 t150 (t144.length : Int) (wrap64 (x79_2 + 1)))))) = some r := by rw [← hbq67] at H; exact H
                                    have Nbq67 := Aside0.mk hbq67
                                    clear hbq67
                                    by_cases c68 : bq67 = true
                                    · subst c68
                                      have H1 : (if (rd t144 x79_2) = 0 then (some false) else (if (rd t144 x79_2) < 0 then (some false) else (if (rd t144 x79_2) > 2 then (some false) else (klaxonlaw12_LifeMore.l0 k2 y137 t140 t141 t142 t144 t147 t150 (t144.length : Int) (wrap64 (x79_2 + 1)))))) = some r := by rw [if_pos rfl] at H; exact H
                                      clear H
                                      have H := H1
                                      clear H1
                                      by_cases c69 : (rd t144 x79_2) = 0
                                      · rw [if_pos c69] at H
                                        have c69b0 : ((rd t144 x79_2) == 0) = true := beq_iff_eq.mpr c69
                                        have c69b1 : ((rd t144 x79_2) != 0) = false := bne_eq_false_iff_eq.mpr c69
                                        clear c69
                                        obtain rfl := Option.some.inj H
                                        have p153 : 0 ≤ (x79_2 : Int) := of_decide_eq_true (by first | (with_reducible assumption) | assumption)
                                        have q153 : x79_2 < (t144.length : Int) := of_decide_eq_true (by first | (with_reducible assumption) | assumption)
                                        obtain ⟨ad153, e153, hx153_0⟩ := Kd.at_int (Kd.R_reads' HO_16.out).2.2 x79_2 p153 q153
                                        cases e153
                                        replace p153 := eq_true p153
                                        replace q153 := eq_true q153
                                        obtain ⟨Ao70, co70, eo70⟩ := Kd.R_slice HO_17.out
                                        subst eo70
                                        have p154 : 0 ≤ (x79_2 : Int) := of_decide_eq_true (by first | (with_reducible assumption) | assumption)
                                        have q154 : x79_2 < (t147.length : Int) := of_decide_eq_true (by first | (with_reducible assumption) | assumption)
                                        obtain ⟨ad154, e154, hx154_0⟩ := Kd.at_int (Kd.R_reads' HO_17.out).2.2 x79_2 p154 q154
                                        cases e154
                                        replace p154 := eq_true p154
                                        replace q154 := eq_true q154
                                        obtain ⟨Ao71, co71, eo71⟩ := Kd.R_slice HO_18.out
                                        subst eo71
                                        have p155 : 0 ≤ (x79_2 : Int) := of_decide_eq_true (by first | (with_reducible assumption) | assumption)
                                        have q155 : x79_2 < (t150.length : Int) := of_decide_eq_true (by first | (with_reducible assumption) | assumption)
                                        obtain ⟨ad155, e155, hx155_0⟩ := Kd.at_int (Kd.R_reads' HO_18.out).2.2 x79_2 p155 q155
                                        cases e155
                                        replace p155 := eq_true p155
                                        replace q155 := eq_true q155
                                        have p163 : 0 ≤ (x79_2 : Int) := of_decide_eq_true (by first | (with_reducible assumption) | assumption)
                                        have q163 : x79_2 < (y137.length : Int) := of_decide_eq_true (by first | (with_reducible assumption) | assumption)
                                        obtain ⟨ad163, e163, hx163_0⟩ := Kd.at_bool (Kd.R_reads' HO_11.out).2.2 x79_2 p163 q163
                                        (try rw [← Nbq67.out] at hx163_0)
                                        cases e163
                                        replace p163 := eq_true p163
                                        replace q163 := eq_true q163
                                        have p164 : 0 ≤ (x79_2 : Int) := of_decide_eq_true (by first | (with_reducible assumption) | assumption)
                                        have q164 : x79_2 < (t144.length : Int) := of_decide_eq_true (by first | (with_reducible assumption) | assumption)
                                        obtain ⟨ad164, e164, hx164_0⟩ := Kd.at_int (Kd.R_reads' HO_16.out).2.2 x79_2 p164 q164
                                        obtain rfl : ad153 = ad164 := (by injection e164)
                                        replace p164 := eq_true p164
                                        replace q164 := eq_true q164
                                        go_wp2
                                        go_ret
                                        exact ⟨by first | rfl | (simp [errW_none, errW_some] <;> rfl) | (simp only [← hji6]; first | rfl | (simp [errW_none, errW_some] <;> rfl)) | (simp [*, errW_none, errW_some] <;> rfl), by repeat (first | (with_reducible first | exact HB.out | apply below_alloc | apply pw_below_drewN | apply below_drew1) | exact HB.out)⟩
                                      · rw [if_neg c69] at H
                                        have c69b0 : ((rd t144 x79_2) == 0) = false := beq_eq_false_iff_ne.mpr c69
                                        have c69b1 : ((rd t144 x79_2) != 0) = true := bne_iff_ne.mpr c69
                                        by_cases c72 : (rd t144 x79_2) < 0
                                        · rw [if_pos c72] at H
                                          have c72b0 : decide ((rd t144 x79_2) < 0) = true := decide_eq_true c72
                                          clear c72
                                          obtain rfl := Option.some.inj H
                                          have p153 : 0 ≤ (x79_2 : Int) := of_decide_eq_true (by first | (with_reducible assumption) | assumption)
                                          have q153 : x79_2 < (t144.length : Int) := of_decide_eq_true (by first | (with_reducible assumption) | assumption)
                                          obtain ⟨ad153, e153, hx153_0⟩ := Kd.at_int (Kd.R_reads' HO_16.out).2.2 x79_2 p153 q153
                                          cases e153
                                          replace p153 := eq_true p153
                                          replace q153 := eq_true q153
                                          obtain ⟨Ao73, co73, eo73⟩ := Kd.R_slice HO_17.out
                                          subst eo73
                                          have p154 : 0 ≤ (x79_2 : Int) := of_decide_eq_true (by first | (with_reducible assumption) | assumption)
                                          have q154 : x79_2 < (t147.length : Int) := of_decide_eq_true (by first | (with_reducible assumption) | assumption)
                                          obtain ⟨ad154, e154, hx154_0⟩ := Kd.at_int (Kd.R_reads' HO_17.out).2.2 x79_2 p154 q154
                                          cases e154
                                          replace p154 := eq_true p154
                                          replace q154 := eq_true q154
                                          obtain ⟨Ao74, co74, eo74⟩ := Kd.R_slice HO_18.out
                                          subst eo74
                                          have p155 : 0 ≤ (x79_2 : Int) := of_decide_eq_true (by first | (with_reducible assumption) | assumption)
                                          have q155 : x79_2 < (t150.length : Int) := of_decide_eq_true (by first | (with_reducible assumption) | assumption)
                                          obtain ⟨ad155, e155, hx155_0⟩ := Kd.at_int (Kd.R_reads' HO_18.out).2.2 x79_2 p155 q155
                                          cases e155
                                          replace p155 := eq_true p155
                                          replace q155 := eq_true q155
                                          have p163 : 0 ≤ (x79_2 : Int) := of_decide_eq_true (by first | (with_reducible assumption) | assumption)
                                          have q163 : x79_2 < (y137.length : Int) := of_decide_eq_true (by first | (with_reducible assumption) | assumption)
                                          obtain ⟨ad163, e163, hx163_0⟩ := Kd.at_bool (Kd.R_reads' HO_11.out).2.2 x79_2 p163 q163
                                          (try rw [← Nbq67.out] at hx163_0)
                                          cases e163
                                          replace p163 := eq_true p163
                                          replace q163 := eq_true q163
                                          have p164 : 0 ≤ (x79_2 : Int) := of_decide_eq_true (by first | (with_reducible assumption) | assumption)
                                          have q164 : x79_2 < (t144.length : Int) := of_decide_eq_true (by first | (with_reducible assumption) | assumption)
                                          obtain ⟨ad164, e164, hx164_0⟩ := Kd.at_int (Kd.R_reads' HO_16.out).2.2 x79_2 p164 q164
                                          obtain rfl : ad153 = ad164 := (by injection e164)
                                          replace p164 := eq_true p164
                                          replace q164 := eq_true q164
                                          have p165 : 0 ≤ (x79_2 : Int) := of_decide_eq_true (by first | (with_reducible assumption) | assumption)
                                          have q165 : x79_2 < (t144.length : Int) := of_decide_eq_true (by first | (with_reducible assumption) | assumption)
                                          obtain ⟨ad165, e165, hx165_0⟩ := Kd.at_int (Kd.R_reads' HO_16.out).2.2 x79_2 p165 q165
                                          obtain rfl : ad153 = ad165 := (by injection e165)
                                          replace p165 := eq_true p165
                                          replace q165 := eq_true q165
                                          go_wp2
                                          go_ret
                                          exact ⟨by first | rfl | (simp [errW_none, errW_some] <;> rfl) | (simp only [← hji6]; first | rfl | (simp [errW_none, errW_some] <;> rfl)) | (simp [*, errW_none, errW_some] <;> rfl), by repeat (first | (with_reducible first | exact HB.out | apply below_alloc | apply pw_below_drewN | apply below_drew1) | exact HB.out)⟩
                                        · rw [if_neg c72] at H
                                          have c72b0 : decide ((rd t144 x79_2) < 0) = false := decide_eq_false c72
                                          clear c72
                                          by_cases c75 : (rd t144 x79_2) > 2
                                          · rw [if_pos c75] at H
                                            have c75b0 : decide (2 < (rd t144 x79_2)) = true := decide_eq_true c75
                                            clear c75
                                            obtain rfl := Option.some.inj H
                                            have p153 : 0 ≤ (x79_2 : Int) := of_decide_eq_true (by first | (with_reducible assumption) | assumption)
                                            have q153 : x79_2 < (t144.length : Int) := of_decide_eq_true (by first | (with_reducible assumption) | assumption)
                                            obtain ⟨ad153, e153, hx153_0⟩ := Kd.at_int (Kd.R_reads' HO_16.out).2.2 x79_2 p153 q153
                                            cases e153
                                            replace p153 := eq_true p153
                                            replace q153 := eq_true q153
                                            obtain ⟨Ao76, co76, eo76⟩ := Kd.R_slice HO_17.out
                                            subst eo76
                                            have p154 : 0 ≤ (x79_2 : Int) := of_decide_eq_true (by first | (with_reducible assumption) | assumption)
                                            have q154 : x79_2 < (t147.length : Int) := of_decide_eq_true (by first | (with_reducible assumption) | assumption)
                                            obtain ⟨ad154, e154, hx154_0⟩ := Kd.at_int (Kd.R_reads' HO_17.out).2.2 x79_2 p154 q154
                                            cases e154
                                            replace p154 := eq_true p154
                                            replace q154 := eq_true q154
                                            obtain ⟨Ao77, co77, eo77⟩ := Kd.R_slice HO_18.out
                                            subst eo77
                                            have p155 : 0 ≤ (x79_2 : Int) := of_decide_eq_true (by first | (with_reducible assumption) | assumption)
                                            have q155 : x79_2 < (t150.length : Int) := of_decide_eq_true (by first | (with_reducible assumption) | assumption)
                                            obtain ⟨ad155, e155, hx155_0⟩ := Kd.at_int (Kd.R_reads' HO_18.out).2.2 x79_2 p155 q155
                                            cases e155
                                            replace p155 := eq_true p155
                                            replace q155 := eq_true q155
                                            have p163 : 0 ≤ (x79_2 : Int) := of_decide_eq_true (by first | (with_reducible assumption) | assumption)
                                            have q163 : x79_2 < (y137.length : Int) := of_decide_eq_true (by first | (with_reducible assumption) | assumption)
                                            obtain ⟨ad163, e163, hx163_0⟩ := Kd.at_bool (Kd.R_reads' HO_11.out).2.2 x79_2 p163 q163
                                            (try rw [← Nbq67.out] at hx163_0)
                                            cases e163
                                            replace p163 := eq_true p163
                                            replace q163 := eq_true q163
                                            have p164 : 0 ≤ (x79_2 : Int) := of_decide_eq_true (by first | (with_reducible assumption) | assumption)
                                            have q164 : x79_2 < (t144.length : Int) := of_decide_eq_true (by first | (with_reducible assumption) | assumption)
                                            obtain ⟨ad164, e164, hx164_0⟩ := Kd.at_int (Kd.R_reads' HO_16.out).2.2 x79_2 p164 q164
                                            obtain rfl : ad153 = ad164 := (by injection e164)
                                            replace p164 := eq_true p164
                                            replace q164 := eq_true q164
                                            have p165 : 0 ≤ (x79_2 : Int) := of_decide_eq_true (by first | (with_reducible assumption) | assumption)
                                            have q165 : x79_2 < (t144.length : Int) := of_decide_eq_true (by first | (with_reducible assumption) | assumption)
                                            obtain ⟨ad165, e165, hx165_0⟩ := Kd.at_int (Kd.R_reads' HO_16.out).2.2 x79_2 p165 q165
                                            obtain rfl : ad153 = ad165 := (by injection e165)
                                            replace p165 := eq_true p165
                                            replace q165 := eq_true q165
                                            have p166 : 0 ≤ (x79_2 : Int) := of_decide_eq_true (by first | (with_reducible assumption) | assumption)
                                            have q166 : x79_2 < (t144.length : Int) := of_decide_eq_true (by first | (with_reducible assumption) | assumption)
                                            obtain ⟨ad166, e166, hx166_0⟩ := Kd.at_int (Kd.R_reads' HO_16.out).2.2 x79_2 p166 q166
                                            obtain rfl : ad153 = ad166 := (by injection e166)
                                            replace p166 := eq_true p166
                                            replace q166 := eq_true q166
                                            go_wp2
                                            go_ret
                                            exact ⟨by first | rfl | (simp [errW_none, errW_some] <;> rfl) | (simp only [← hji6]; first | rfl | (simp [errW_none, errW_some] <;> rfl)) | (simp [*, errW_none, errW_some] <;> rfl), by repeat (first | (with_reducible first | exact HB.out | apply below_alloc | apply pw_below_drewN | apply below_drew1) | exact HB.out)⟩
                                          · rw [if_neg c75] at H
                                            have c75b0 : decide (2 < (rd t144 x79_2)) = false := decide_eq_false c75
                                            clear c75
                                            have H' := Aside0.mk H
                                            clear H
                                            have p153 : 0 ≤ (x79_2 : Int) := of_decide_eq_true (by first | (with_reducible assumption) | assumption)
                                            have q153 : x79_2 < (t144.length : Int) := of_decide_eq_true (by first | (with_reducible assumption) | assumption)
                                            obtain ⟨ad153, e153, hx153_0⟩ := Kd.at_int (Kd.R_reads' HO_16.out).2.2 x79_2 p153 q153
                                            cases e153
                                            replace p153 := eq_true p153
                                            replace q153 := eq_true q153
                                            obtain ⟨Ao78, co78, eo78⟩ := Kd.R_slice HO_17.out
                                            subst eo78
                                            have p154 : 0 ≤ (x79_2 : Int) := of_decide_eq_true (by first | (with_reducible assumption) | assumption)
                                            have q154 : x79_2 < (t147.length : Int) := of_decide_eq_true (by first | (with_reducible assumption) | assumption)
                                            obtain ⟨ad154, e154, hx154_0⟩ := Kd.at_int (Kd.R_reads' HO_17.out).2.2 x79_2 p154 q154
                                            cases e154
                                            replace p154 := eq_true p154
                                            replace q154 := eq_true q154
                                            obtain ⟨Ao79, co79, eo79⟩ := Kd.R_slice HO_18.out
                                            subst eo79
                                            have p155 : 0 ≤ (x79_2 : Int) := of_decide_eq_true (by first | (with_reducible assumption) | assumption)
                                            have q155 : x79_2 < (t150.length : Int) := of_decide_eq_true (by first | (with_reducible assumption) | assumption)
                                            obtain ⟨ad155, e155, hx155_0⟩ := Kd.at_int (Kd.R_reads' HO_18.out).2.2 x79_2 p155 q155
                                            cases e155
                                            replace p155 := eq_true p155
                                            replace q155 := eq_true q155
                                            have p163 : 0 ≤ (x79_2 : Int) := of_decide_eq_true (by first | (with_reducible assumption) | assumption)
                                            have q163 : x79_2 < (y137.length : Int) := of_decide_eq_true (by first | (with_reducible assumption) | assumption)
                                            obtain ⟨ad163, e163, hx163_0⟩ := Kd.at_bool (Kd.R_reads' HO_11.out).2.2 x79_2 p163 q163
                                            (try rw [← Nbq67.out] at hx163_0)
                                            cases e163
                                            replace p163 := eq_true p163
                                            replace q163 := eq_true q163
                                            have p164 : 0 ≤ (x79_2 : Int) := of_decide_eq_true (by first | (with_reducible assumption) | assumption)
                                            have q164 : x79_2 < (t144.length : Int) := of_decide_eq_true (by first | (with_reducible assumption) | assumption)
                                            obtain ⟨ad164, e164, hx164_0⟩ := Kd.at_int (Kd.R_reads' HO_16.out).2.2 x79_2 p164 q164
                                            obtain rfl : ad153 = ad164 := (by injection e164)
                                            replace p164 := eq_true p164
                                            replace q164 := eq_true q164
                                            have p165 : 0 ≤ (x79_2 : Int) := of_decide_eq_true (by first | (with_reducible assumption) | assumption)
                                            have q165 : x79_2 < (t144.length : Int) := of_decide_eq_true (by first | (with_reducible assumption) | assumption)
                                            obtain ⟨ad165, e165, hx165_0⟩ := Kd.at_int (Kd.R_reads' HO_16.out).2.2 x79_2 p165 q165
                                            obtain rfl : ad153 = ad165 := (by injection e165)
                                            replace p165 := eq_true p165
                                            replace q165 := eq_true q165
                                            have p166 : 0 ≤ (x79_2 : Int) := of_decide_eq_true (by first | (with_reducible assumption) | assumption)
                                            have q166 : x79_2 < (t144.length : Int) := of_decide_eq_true (by first | (with_reducible assumption) | assumption)
                                            obtain ⟨ad166, e166, hx166_0⟩ := Kd.at_int (Kd.R_reads' HO_16.out).2.2 x79_2 p166 q166
                                            obtain rfl : ad153 = ad166 := (by injection e166)
                                            replace p166 := eq_true p166
                                            replace q166 := eq_true q166
                                            go_wp2
                                            go_roundg k2
                                            case measure => have := HJ16.out; have := HK2.out; omega
                                            case rel => exact ⟨(wrap64 (x79_2 + 1)), (by first | rfl | (simp; done) | (simp [*]; done)), H', ⟨by have := HJ16.out; have := HK2.out; omega⟩, ⟨by (with_reducible repeat (first | apply Kd.R_alloc | apply Kd.R_drewN | apply Kd.R_drew)); exact HO_11.out⟩, ⟨by (with_reducible repeat (first | apply Kd.R_alloc | apply Kd.R_drewN | apply Kd.R_drew)); exact HO_16.out⟩, ⟨by (with_reducible repeat (first | apply Kd.R_alloc | apply Kd.R_drewN | apply Kd.R_drew)); exact HO_17.out⟩, ⟨by (with_reducible repeat (first | apply Kd.R_alloc | apply Kd.R_drewN | apply Kd.R_drew)); exact HO_18.out⟩, ⟨by repeat (first | (with_reducible first | exact HB.out | apply below_alloc | apply pw_below_drewN | apply below_drew1) | exact HB.out)⟩⟩
                                    · replace c68 := Bool.eq_false_iff.mpr c68
                                      subst c68
                                      have H1 : (if (rd t144 x79_2) < 0 then (some false) else (if (rd t144 x79_2) > 2 then (some false) else (klaxonlaw12_LifeMore.l0 k2 y137 t140 t141 t142 t144 t147 t150 (t144.length : Int) (wrap64 (x79_2 + 1))))) = some r := by rw [if_neg (show ¬ (false = true) by decide)] at H; exact H
                                      clear H
                                      have H := H1
                                      clear H1
                                      by_cases c80 : (rd t144 x79_2) < 0
                                      · rw [if_pos c80] at H
                                        have c80b0 : decide ((rd t144 x79_2) < 0) = true := decide_eq_true c80
                                        clear c80
                                        obtain rfl := Option.some.inj H
                                        have p153 : 0 ≤ (x79_2 : Int) := of_decide_eq_true (by first | (with_reducible assumption) | assumption)
                                        have q153 : x79_2 < (t144.length : Int) := of_decide_eq_true (by first | (with_reducible assumption) | assumption)
                                        obtain ⟨ad153, e153, hx153_0⟩ := Kd.at_int (Kd.R_reads' HO_16.out).2.2 x79_2 p153 q153
                                        cases e153
                                        replace p153 := eq_true p153
                                        replace q153 := eq_true q153
                                        obtain ⟨Ao81, co81, eo81⟩ := Kd.R_slice HO_17.out
                                        subst eo81
                                        have p154 : 0 ≤ (x79_2 : Int) := of_decide_eq_true (by first | (with_reducible assumption) | assumption)
                                        have q154 : x79_2 < (t147.length : Int) := of_decide_eq_true (by first | (with_reducible assumption) | assumption)
                                        obtain ⟨ad154, e154, hx154_0⟩ := Kd.at_int (Kd.R_reads' HO_17.out).2.2 x79_2 p154 q154
                                        cases e154
                                        replace p154 := eq_true p154
                                        replace q154 := eq_true q154
                                        obtain ⟨Ao82, co82, eo82⟩ := Kd.R_slice HO_18.out
                                        subst eo82
                                        have p155 : 0 ≤ (x79_2 : Int) := of_decide_eq_true (by first | (with_reducible assumption) | assumption)
                                        have q155 : x79_2 < (t150.length : Int) := of_decide_eq_true (by first | (with_reducible assumption) | assumption)
                                        obtain ⟨ad155, e155, hx155_0⟩ := Kd.at_int (Kd.R_reads' HO_18.out).2.2 x79_2 p155 q155
                                        cases e155
                                        replace p155 := eq_true p155
                                        replace q155 := eq_true q155
                                        have p163 : 0 ≤ (x79_2 : Int) := of_decide_eq_true (by first | (with_reducible assumption) | assumption)
                                        have q163 : x79_2 < (y137.length : Int) := of_decide_eq_true (by first | (with_reducible assumption) | assumption)
                                        obtain ⟨ad163, e163, hx163_0⟩ := Kd.at_bool (Kd.R_reads' HO_11.out).2.2 x79_2 p163 q163
                                        (try rw [← Nbq67.out] at hx163_0)
                                        cases e163
                                        replace p163 := eq_true p163
                                        replace q163 := eq_true q163
                                        have p167 : 0 ≤ (x79_2 : Int) := of_decide_eq_true (by first | (with_reducible assumption) | assumption)
                                        have q167 : x79_2 < (t144.length : Int) := of_decide_eq_true (by first | (with_reducible assumption) | assumption)
                                        obtain ⟨ad167, e167, hx167_0⟩ := Kd.at_int (Kd.R_reads' HO_16.out).2.2 x79_2 p167 q167
                                        obtain rfl : ad153 = ad167 := (by injection e167)
                                        replace p167 := eq_true p167
                                        replace q167 := eq_true q167
                                        go_wp2
                                        go_ret
                                        exact ⟨by first | rfl | (simp [errW_none, errW_some] <;> rfl) | (simp only [← hji6]; first | rfl | (simp [errW_none, errW_some] <;> rfl)) | (simp [*, errW_none, errW_some] <;> rfl), by repeat (first | (with_reducible first | exact HB.out | apply below_alloc | apply pw_below_drewN | apply below_drew1) | exact HB.out)⟩
                                      · rw [if_neg c80] at H
                                        have c80b0 : decide ((rd t144 x79_2) < 0) = false := decide_eq_false c80
                                        clear c80
                                        by_cases c83 : (rd t144 x79_2) > 2
                                        · rw [if_pos c83] at H
                                          have c83b0 : decide (2 < (rd t144 x79_2)) = true := decide_eq_true c83
                                          clear c83
                                          obtain rfl := Option.some.inj H
                                          have p153 : 0 ≤ (x79_2 : Int) := of_decide_eq_true (by first | (with_reducible assumption) | assumption)
                                          have q153 : x79_2 < (t144.length : Int) := of_decide_eq_true (by first | (with_reducible assumption) | assumption)
                                          obtain ⟨ad153, e153, hx153_0⟩ := Kd.at_int (Kd.R_reads' HO_16.out).2.2 x79_2 p153 q153
                                          cases e153
                                          replace p153 := eq_true p153
                                          replace q153 := eq_true q153
                                          obtain ⟨Ao84, co84, eo84⟩ := Kd.R_slice HO_17.out
                                          subst eo84
                                          have p154 : 0 ≤ (x79_2 : Int) := of_decide_eq_true (by first | (with_reducible assumption) | assumption)
                                          have q154 : x79_2 < (t147.length : Int) := of_decide_eq_true (by first | (with_reducible assumption) | assumption)
                                          obtain ⟨ad154, e154, hx154_0⟩ := Kd.at_int (Kd.R_reads' HO_17.out).2.2 x79_2 p154 q154
                                          cases e154
                                          replace p154 := eq_true p154
                                          replace q154 := eq_true q154
                                          obtain ⟨Ao85, co85, eo85⟩ := Kd.R_slice HO_18.out
                                          subst eo85
                                          have p155 : 0 ≤ (x79_2 : Int) := of_decide_eq_true (by first | (with_reducible assumption) | assumption)
                                          have q155 : x79_2 < (t150.length : Int) := of_decide_eq_true (by first | (with_reducible assumption) | assumption)
                                          obtain ⟨ad155, e155, hx155_0⟩ := Kd.at_int (Kd.R_reads' HO_18.out).2.2 x79_2 p155 q155
                                          cases e155
                                          replace p155 := eq_true p155
                                          replace q155 := eq_true q155
                                          have p163 : 0 ≤ (x79_2 : Int) := of_decide_eq_true (by first | (with_reducible assumption) | assumption)
                                          have q163 : x79_2 < (y137.length : Int) := of_decide_eq_true (by first | (with_reducible assumption) | assumption)
                                          obtain ⟨ad163, e163, hx163_0⟩ := Kd.at_bool (Kd.R_reads' HO_11.out).2.2 x79_2 p163 q163
                                          (try rw [← Nbq67.out] at hx163_0)
                                          cases e163
                                          replace p163 := eq_true p163
                                          replace q163 := eq_true q163
                                          have p167 : 0 ≤ (x79_2 : Int) := of_decide_eq_true (by first | (with_reducible assumption) | assumption)
                                          have q167 : x79_2 < (t144.length : Int) := of_decide_eq_true (by first | (with_reducible assumption) | assumption)
                                          obtain ⟨ad167, e167, hx167_0⟩ := Kd.at_int (Kd.R_reads' HO_16.out).2.2 x79_2 p167 q167
                                          obtain rfl : ad153 = ad167 := (by injection e167)
                                          replace p167 := eq_true p167
                                          replace q167 := eq_true q167
                                          have p168 : 0 ≤ (x79_2 : Int) := of_decide_eq_true (by first | (with_reducible assumption) | assumption)
                                          have q168 : x79_2 < (t144.length : Int) := of_decide_eq_true (by first | (with_reducible assumption) | assumption)
                                          obtain ⟨ad168, e168, hx168_0⟩ := Kd.at_int (Kd.R_reads' HO_16.out).2.2 x79_2 p168 q168
                                          obtain rfl : ad153 = ad168 := (by injection e168)
                                          replace p168 := eq_true p168
                                          replace q168 := eq_true q168
                                          go_wp2
                                          go_ret
                                          exact ⟨by first | rfl | (simp [errW_none, errW_some] <;> rfl) | (simp only [← hji6]; first | rfl | (simp [errW_none, errW_some] <;> rfl)) | (simp [*, errW_none, errW_some] <;> rfl), by repeat (first | (with_reducible first | exact HB.out | apply below_alloc | apply pw_below_drewN | apply below_drew1) | exact HB.out)⟩
                                        · rw [if_neg c83] at H
                                          have c83b0 : decide (2 < (rd t144 x79_2)) = false := decide_eq_false c83
                                          clear c83
                                          have H' := Aside0.mk H
                                          clear H
                                          have p153 : 0 ≤ (x79_2 : Int) := of_decide_eq_true (by first | (with_reducible assumption) | assumption)
                                          have q153 : x79_2 < (t144.length : Int) := of_decide_eq_true (by first | (with_reducible assumption) | assumption)
                                          obtain ⟨ad153, e153, hx153_0⟩ := Kd.at_int (Kd.R_reads' HO_16.out).2.2 x79_2 p153 q153
                                          cases e153
                                          replace p153 := eq_true p153
                                          replace q153 := eq_true q153
                                          obtain ⟨Ao86, co86, eo86⟩ := Kd.R_slice HO_17.out
                                          subst eo86
                                          have p154 : 0 ≤ (x79_2 : Int) := of_decide_eq_true (by first | (with_reducible assumption) | assumption)
                                          have q154 : x79_2 < (t147.length : Int) := of_decide_eq_true (by first | (with_reducible assumption) | assumption)
                                          obtain ⟨ad154, e154, hx154_0⟩ := Kd.at_int (Kd.R_reads' HO_17.out).2.2 x79_2 p154 q154
                                          cases e154
                                          replace p154 := eq_true p154
                                          replace q154 := eq_true q154
                                          obtain ⟨Ao87, co87, eo87⟩ := Kd.R_slice HO_18.out
                                          subst eo87
                                          have p155 : 0 ≤ (x79_2 : Int) := of_decide_eq_true (by first | (with_reducible assumption) | assumption)
                                          have q155 : x79_2 < (t150.length : Int) := of_decide_eq_true (by first | (with_reducible assumption) | assumption)
                                          obtain ⟨ad155, e155, hx155_0⟩ := Kd.at_int (Kd.R_reads' HO_18.out).2.2 x79_2 p155 q155
                                          cases e155
                                          replace p155 := eq_true p155
                                          replace q155 := eq_true q155
                                          have p163 : 0 ≤ (x79_2 : Int) := of_decide_eq_true (by first | (with_reducible assumption) | assumption)
                                          have q163 : x79_2 < (y137.length : Int) := of_decide_eq_true (by first | (with_reducible assumption) | assumption)
                                          obtain ⟨ad163, e163, hx163_0⟩ := Kd.at_bool (Kd.R_reads' HO_11.out).2.2 x79_2 p163 q163
                                          (try rw [← Nbq67.out] at hx163_0)
                                          cases e163
                                          replace p163 := eq_true p163
                                          replace q163 := eq_true q163
                                          have p167 : 0 ≤ (x79_2 : Int) := of_decide_eq_true (by first | (with_reducible assumption) | assumption)
                                          have q167 : x79_2 < (t144.length : Int) := of_decide_eq_true (by first | (with_reducible assumption) | assumption)
                                          obtain ⟨ad167, e167, hx167_0⟩ := Kd.at_int (Kd.R_reads' HO_16.out).2.2 x79_2 p167 q167
                                          obtain rfl : ad153 = ad167 := (by injection e167)
                                          replace p167 := eq_true p167
                                          replace q167 := eq_true q167
                                          have p168 : 0 ≤ (x79_2 : Int) := of_decide_eq_true (by first | (with_reducible assumption) | assumption)
                                          have q168 : x79_2 < (t144.length : Int) := of_decide_eq_true (by first | (with_reducible assumption) | assumption)
                                          obtain ⟨ad168, e168, hx168_0⟩ := Kd.at_int (Kd.R_reads' HO_16.out).2.2 x79_2 p168 q168
                                          obtain rfl : ad153 = ad168 := (by injection e168)
                                          replace p168 := eq_true p168
                                          replace q168 := eq_true q168
                                          go_wp2
                                          go_roundg k2
                                          case measure => have := HJ16.out; have := HK2.out; omega
                                          case rel => exact ⟨(wrap64 (x79_2 + 1)), (by first | rfl | (simp; done) | (simp [*]; done)), H', ⟨by have := HJ16.out; have := HK2.out; omega⟩, ⟨by (with_reducible repeat (first | apply Kd.R_alloc | apply Kd.R_drewN | apply Kd.R_drew)); exact HO_11.out⟩, ⟨by (with_reducible repeat (first | apply Kd.R_alloc | apply Kd.R_drewN | apply Kd.R_drew)); exact HO_16.out⟩, ⟨by (with_reducible repeat (first | apply Kd.R_alloc | apply Kd.R_drewN | apply Kd.R_drew)); exact HO_17.out⟩, ⟨by (with_reducible repeat (first | apply Kd.R_alloc | apply Kd.R_drewN | apply Kd.R_drew)); exact HO_18.out⟩, ⟨by repeat (first | (with_reducible first | exact HB.out | apply below_alloc | apply pw_below_drewN | apply below_drew1) | exact HB.out)⟩⟩
                                  · rw [if_neg c66] at H
                                    exact absurd H (by simp)
                              · rw [if_neg c42] at H
                                exact absurd H (by simp)
                            · rw [if_neg c41] at H
                              have c41b0 : ((rd t147 x79_2) == 2) = false := beq_eq_false_iff_ne.mpr c41
                              have c41b1 : ((rd t147 x79_2) != 2) = true := bne_iff_ne.mpr c41
                              obtain rfl := Option.some.inj H
                              have p153 : 0 ≤ (x79_2 : Int) := of_decide_eq_true (by first | (with_reducible assumption) | assumption)
                              have q153 : x79_2 < (t144.length : Int) := of_decide_eq_true (by first | (with_reducible assumption) | assumption)
                              obtain ⟨ad153, e153, hx153_0⟩ := Kd.at_int (Kd.R_reads' HO_16.out).2.2 x79_2 p153 q153
                              cases e153
                              replace p153 := eq_true p153
                              replace q153 := eq_true q153
                              obtain ⟨Ao88, co88, eo88⟩ := Kd.R_slice HO_17.out
                              subst eo88
                              have p154 : 0 ≤ (x79_2 : Int) := of_decide_eq_true (by first | (with_reducible assumption) | assumption)
                              have q154 : x79_2 < (t147.length : Int) := of_decide_eq_true (by first | (with_reducible assumption) | assumption)
                              obtain ⟨ad154, e154, hx154_0⟩ := Kd.at_int (Kd.R_reads' HO_17.out).2.2 x79_2 p154 q154
                              cases e154
                              replace p154 := eq_true p154
                              replace q154 := eq_true q154
                              go_wp2
                              go_ret
                              exact ⟨by first | rfl | (simp [errW_none, errW_some] <;> rfl) | (simp only [← hji6]; first | rfl | (simp [errW_none, errW_some] <;> rfl)) | (simp [*, errW_none, errW_some] <;> rfl), by repeat (first | (with_reducible first | exact HB.out | apply below_alloc | apply pw_below_drewN | apply below_drew1) | exact HB.out)⟩
                          · rw [if_neg c40] at H
                            exact absurd H (by simp)
                        · rw [if_neg c39] at H
                          have c39b0 : ((rd t144 x79_2) == 2) = false := beq_eq_false_iff_ne.mpr c39
                          have c39b1 : ((rd t144 x79_2) != 2) = true := bne_iff_ne.mpr c39
                          by_cases c89 : x79_2 < (t150.length : Int)
                          · rw [if_pos c89] at H
                            have c89b0 : decide (x79_2 < (t150.length : Int)) = true := decide_eq_true c89
                            clear c89
                            by_cases c90 : (rd t150 x79_2) = 2
                            · rw [if_pos c90] at H
                              have c90b0 : ((rd t150 x79_2) == 2) = true := beq_iff_eq.mpr c90
                              have c90b1 : ((rd t150 x79_2) != 2) = false := bne_eq_false_iff_eq.mpr c90
                              clear c90
                              obtain rfl := Option.some.inj H
                              have p153 : 0 ≤ (x79_2 : Int) := of_decide_eq_true (by first | (with_reducible assumption) | assumption)
                              have q153 : x79_2 < (t144.length : Int) := of_decide_eq_true (by first | (with_reducible assumption) | assumption)
                              obtain ⟨ad153, e153, hx153_0⟩ := Kd.at_int (Kd.R_reads' HO_16.out).2.2 x79_2 p153 q153
                              cases e153
                              replace p153 := eq_true p153
                              replace q153 := eq_true q153
                              obtain ⟨Ao91, co91, eo91⟩ := Kd.R_slice HO_18.out
                              subst eo91
                              have p169 : 0 ≤ (x79_2 : Int) := of_decide_eq_true (by first | (with_reducible assumption) | assumption)
                              have q169 : x79_2 < (t150.length : Int) := of_decide_eq_true (by first | (with_reducible assumption) | assumption)
                              obtain ⟨ad169, e169, hx169_0⟩ := Kd.at_int (Kd.R_reads' HO_18.out).2.2 x79_2 p169 q169
                              cases e169
                              replace p169 := eq_true p169
                              replace q169 := eq_true q169
                              have p170 : 0 ≤ (x79_2 : Int) := of_decide_eq_true (by first | (with_reducible assumption) | assumption)
                              have q170 : x79_2 < (t144.length : Int) := of_decide_eq_true (by first | (with_reducible assumption) | assumption)
                              obtain ⟨ad170, e170, hx170_0⟩ := Kd.at_int (Kd.R_reads' HO_16.out).2.2 x79_2 p170 q170
                              obtain rfl : ad153 = ad170 := (by injection e170)
                              replace p170 := eq_true p170
                              replace q170 := eq_true q170
                              go_wp2
                              go_ret
                              exact ⟨by first | rfl | (simp [errW_none, errW_some] <;> rfl) | (simp only [← hji6]; first | rfl | (simp [errW_none, errW_some] <;> rfl)) | (simp [*, errW_none, errW_some] <;> rfl), by repeat (first | (with_reducible first | exact HB.out | apply below_alloc | apply pw_below_drewN | apply below_drew1) | exact HB.out)⟩
                            · rw [if_neg c90] at H
                              have c90b0 : ((rd t150 x79_2) == 2) = false := beq_eq_false_iff_ne.mpr c90
                              have c90b1 : ((rd t150 x79_2) != 2) = true := bne_iff_ne.mpr c90
                              by_cases c92 : x79_2 < (y137.length : Int)
                              · rw [if_pos c92] at H
                                have c92b0 : decide (x79_2 < (y137.length : Int)) = true := decide_eq_true c92
                                clear c92
                                obtain ⟨bq93, hbq93⟩ : ∃ b_ : Bool, b_ = (rdOf false y137 x79_2) := ⟨_, rfl⟩
                                replace H : (if bq93 = true then (if (rd t144 x79_2) = 0 then (some false) else (if (rd t144 x79_2) < 0 then (some false) else (if (rd t144 x79_2) > 2 then (some false) else (klaxonlaw12_LifeMore.l0 k2 y137 t140 t141 t142 t144 t147 t150 (t144.length : Int) (wrap64 (x79_2 + 1)))))) else (if (rd t144 x79_2) < 0 then (some false) else (if (rd t144 x79_2) > 2 then (some false) else (klaxonlaw12_LifeMore.l0 k2 y137 t140 t141 t142 t144 t147 t150 (t144.length : Int) (wrap64 (x79_2 + 1)))))) = some r := by rw [← hbq93] at H; exact H
                                have Nbq93 := Aside0.mk hbq93
                                clear hbq93
                                by_cases c94 : bq93 = true
                                · subst c94
                                  have H1 : (if (rd t144 x79_2) = 0 then (some false) else (if (rd t144 x79_2) < 0 then (some false) else (if (rd t144 x79_2) > 2 then (some false) else (klaxonlaw12_LifeMore.l0 k2 y137 t140 t141 t142 t144 t147 t150 (t144.length : Int) (wrap64 (x79_2 + 1)))))) = some r := by rw [if_pos rfl] at H; exact H
                                  clear H
                                  have H := H1
                                  clear H1
                                  by_cases c95 : (rd t144 x79_2) = 0
                                  · rw [if_pos c95] at H
                                    have c95b0 : ((rd t144 x79_2) == 0) = true := beq_iff_eq.mpr c95
                                    have c95b1 : ((rd t144 x79_2) != 0) = false := bne_eq_false_iff_eq.mpr c95
                                    clear c95
                                    obtain rfl := Option.some.inj H
                                    have p153 : 0 ≤ (x79_2 : Int) := of_decide_eq_true (by first | (with_reducible assumption) | assumption)
                                    have q153 : x79_2 < (t144.length : Int) := of_decide_eq_true (by first | (with_reducible assumption) | assumption)
                                    obtain ⟨ad153, e153, hx153_0⟩ := Kd.at_int (Kd.R_reads' HO_16.out).2.2 x79_2 p153 q153
                                    cases e153
                                    replace p153 := eq_true p153
                                    replace q153 := eq_true q153
                                    obtain ⟨Ao96, co96, eo96⟩ := Kd.R_slice HO_18.out
                                    subst eo96
                                    have p169 : 0 ≤ (x79_2 : Int) := of_decide_eq_true (by first | (with_reducible assumption) | assumption)
                                    have q169 : x79_2 < (t150.length : Int) := of_decide_eq_true (by first | (with_reducible assumption) | assumption)
                                    obtain ⟨ad169, e169, hx169_0⟩ := Kd.at_int (Kd.R_reads' HO_18.out).2.2 x79_2 p169 q169
                                    cases e169
                                    replace p169 := eq_true p169
                                    replace q169 := eq_true q169
                                    have p171 : 0 ≤ (x79_2 : Int) := of_decide_eq_true (by first | (with_reducible assumption) | assumption)
                                    have q171 : x79_2 < (y137.length : Int) := of_decide_eq_true (by first | (with_reducible assumption) | assumption)
                                    obtain ⟨ad171, e171, hx171_0⟩ := Kd.at_bool (Kd.R_reads' HO_11.out).2.2 x79_2 p171 q171
                                    (try rw [← Nbq93.out] at hx171_0)
                                    cases e171
                                    replace p171 := eq_true p171
                                    replace q171 := eq_true q171
                                    have p172 : 0 ≤ (x79_2 : Int) := of_decide_eq_true (by first | (with_reducible assumption) | assumption)
                                    have q172 : x79_2 < (t144.length : Int) := of_decide_eq_true (by first | (with_reducible assumption) | assumption)
                                    obtain ⟨ad172, e172, hx172_0⟩ := Kd.at_int (Kd.R_reads' HO_16.out).2.2 x79_2 p172 q172
                                    obtain rfl : ad153 = ad172 := (by injection e172)
                                    replace p172 := eq_true p172
                                    replace q172 := eq_true q172
                                    go_wp2
                                    go_ret
                                    exact ⟨by first | rfl | (simp [errW_none, errW_some] <;> rfl) | (simp only [← hji6]; first | rfl | (simp [errW_none, errW_some] <;> rfl)) | (simp [*, errW_none, errW_some] <;> rfl), by repeat (first | (with_reducible first | exact HB.out | apply below_alloc | apply pw_below_drewN | apply below_drew1) | exact HB.out)⟩
                                  · rw [if_neg c95] at H
                                    have c95b0 : ((rd t144 x79_2) == 0) = false := beq_eq_false_iff_ne.mpr c95
                                    have c95b1 : ((rd t144 x79_2) != 0) = true := bne_iff_ne.mpr c95
                                    by_cases c97 : (rd t144 x79_2) < 0
                                    · rw [if_pos c97] at H
                                      have c97b0 : decide ((rd t144 x79_2) < 0) = true := decide_eq_true c97
                                      clear c97
                                      obtain rfl := Option.some.inj H
                                      have p153 : 0 ≤ (x79_2 : Int) := of_decide_eq_true (by first | (with_reducible assumption) | assumption)
                                      have q153 : x79_2 < (t144.length : Int) := of_decide_eq_true (by first | (with_reducible assumption) | assumption)
                                      obtain ⟨ad153, e153, hx153_0⟩ := Kd.at_int (Kd.R_reads' HO_16.out).2.2 x79_2 p153 q153
                                      cases e153
                                      replace p153 := eq_true p153
                                      replace q153 := eq_true q153
                                      obtain ⟨Ao98, co98, eo98⟩ := Kd.R_slice HO_18.out
                                      subst eo98
                                      have p169 : 0 ≤ (x79_2 : Int) := of_decide_eq_true (by first | (with_reducible assumption) | assumption)
                                      have q169 : x79_2 < (t150.length : Int) := of_decide_eq_true (by first | (with_reducible assumption) | assumption)
                                      obtain ⟨ad169, e169, hx169_0⟩ := Kd.at_int (Kd.R_reads' HO_18.out).2.2 x79_2 p169 q169
                                      cases e169
                                      replace p169 := eq_true p169
                                      replace q169 := eq_true q169
                                      have p171 : 0 ≤ (x79_2 : Int) := of_decide_eq_true (by first | (with_reducible assumption) | assumption)
                                      have q171 : x79_2 < (y137.length : Int) := of_decide_eq_true (by first | (with_reducible assumption) | assumption)
                                      obtain ⟨ad171, e171, hx171_0⟩ := Kd.at_bool (Kd.R_reads' HO_11.out).2.2 x79_2 p171 q171
                                      (try rw [← Nbq93.out] at hx171_0)
                                      cases e171
                                      replace p171 := eq_true p171
                                      replace q171 := eq_true q171
                                      have p172 : 0 ≤ (x79_2 : Int) := of_decide_eq_true (by first | (with_reducible assumption) | assumption)
                                      have q172 : x79_2 < (t144.length : Int) := of_decide_eq_true (by first | (with_reducible assumption) | assumption)
                                      obtain ⟨ad172, e172, hx172_0⟩ := Kd.at_int (Kd.R_reads' HO_16.out).2.2 x79_2 p172 q172
                                      obtain rfl : ad153 = ad172 := (by injection e172)
                                      replace p172 := eq_true p172
                                      replace q172 := eq_true q172
                                      have p173 : 0 ≤ (x79_2 : Int) := of_decide_eq_true (by first | (with_reducible assumption) | assumption)
                                      have q173 : x79_2 < (t144.length : Int) := of_decide_eq_true (by first | (with_reducible assumption) | assumption)
                                      obtain ⟨ad173, e173, hx173_0⟩ := Kd.at_int (Kd.R_reads' HO_16.out).2.2 x79_2 p173 q173
                                      obtain rfl : ad153 = ad173 := (by injection e173)
                                      replace p173 := eq_true p173
                                      replace q173 := eq_true q173
                                      go_wp2
                                      go_ret
                                      exact ⟨by first | rfl | (simp [errW_none, errW_some] <;> rfl) | (simp only [← hji6]; first | rfl | (simp [errW_none, errW_some] <;> rfl)) | (simp [*, errW_none, errW_some] <;> rfl), by repeat (first | (with_reducible first | exact HB.out | apply below_alloc | apply pw_below_drewN | apply below_drew1) | exact HB.out)⟩
                                    · rw [if_neg c97] at H
                                      have c97b0 : decide ((rd t144 x79_2) < 0) = false := decide_eq_false c97
                                      clear c97
                                      by_cases c99 : (rd t144 x79_2) > 2
                                      · rw [if_pos c99] at H
                                        have c99b0 : decide (2 < (rd t144 x79_2)) = true := decide_eq_true c99
                                        clear c99
                                        obtain rfl := Option.some.inj H
                                        have p153 : 0 ≤ (x79_2 : Int) := of_decide_eq_true (by first | (with_reducible assumption) | assumption)
                                        have q153 : x79_2 < (t144.length : Int) := of_decide_eq_true (by first | (with_reducible assumption) | assumption)
                                        obtain ⟨ad153, e153, hx153_0⟩ := Kd.at_int (Kd.R_reads' HO_16.out).2.2 x79_2 p153 q153
                                        cases e153
                                        replace p153 := eq_true p153
                                        replace q153 := eq_true q153
                                        obtain ⟨Ao100, co100, eo100⟩ := Kd.R_slice HO_18.out
                                        subst eo100
                                        have p169 : 0 ≤ (x79_2 : Int) := of_decide_eq_true (by first | (with_reducible assumption) | assumption)
                                        have q169 : x79_2 < (t150.length : Int) := of_decide_eq_true (by first | (with_reducible assumption) | assumption)
                                        obtain ⟨ad169, e169, hx169_0⟩ := Kd.at_int (Kd.R_reads' HO_18.out).2.2 x79_2 p169 q169
                                        cases e169
                                        replace p169 := eq_true p169
                                        replace q169 := eq_true q169
                                        have p171 : 0 ≤ (x79_2 : Int) := of_decide_eq_true (by first | (with_reducible assumption) | assumption)
                                        have q171 : x79_2 < (y137.length : Int) := of_decide_eq_true (by first | (with_reducible assumption) | assumption)
                                        obtain ⟨ad171, e171, hx171_0⟩ := Kd.at_bool (Kd.R_reads' HO_11.out).2.2 x79_2 p171 q171
                                        (try rw [← Nbq93.out] at hx171_0)
                                        cases e171
                                        replace p171 := eq_true p171
                                        replace q171 := eq_true q171
                                        have p172 : 0 ≤ (x79_2 : Int) := of_decide_eq_true (by first | (with_reducible assumption) | assumption)
                                        have q172 : x79_2 < (t144.length : Int) := of_decide_eq_true (by first | (with_reducible assumption) | assumption)
                                        obtain ⟨ad172, e172, hx172_0⟩ := Kd.at_int (Kd.R_reads' HO_16.out).2.2 x79_2 p172 q172
                                        obtain rfl : ad153 = ad172 := (by injection e172)
                                        replace p172 := eq_true p172
                                        replace q172 := eq_true q172
                                        have p173 : 0 ≤ (x79_2 : Int) := of_decide_eq_true (by first | (with_reducible assumption) | assumption)
                                        have q173 : x79_2 < (t144.length : Int) := of_decide_eq_true (by first | (with_reducible assumption) | assumption)
                                        obtain ⟨ad173, e173, hx173_0⟩ := Kd.at_int (Kd.R_reads' HO_16.out).2.2 x79_2 p173 q173
                                        obtain rfl : ad153 = ad173 := (by injection e173)
                                        replace p173 := eq_true p173
                                        replace q173 := eq_true q173
                                        have p174 : 0 ≤ (x79_2 : Int) := of_decide_eq_true (by first | (with_reducible assumption) | assumption)
                                        have q174 : x79_2 < (t144.length : Int) := of_decide_eq_true (by first | (with_reducible assumption) | assumption)
                                        obtain ⟨ad174, e174, hx174_0⟩ := Kd.at_int (Kd.R_reads' HO_16.out).2.2 x79_2 p174 q174
                                        obtain rfl : ad153 = ad174 := (by injection e174)
                                        replace p174 := eq_true p174
                                        replace q174 := eq_true q174
                                        go_wp2
                                        go_ret
                                        exact ⟨by first | rfl | (simp [errW_none, errW_some] <;> rfl) | (simp only [← hji6]; first | rfl | (simp [errW_none, errW_some] <;> rfl)) | (simp [*, errW_none, errW_some] <;> rfl), by repeat (first | (with_reducible first | exact HB.out | apply below_alloc | apply pw_below_drewN | apply below_drew1) | exact HB.out)⟩
                                      · rw [if_neg c99] at H
                                        have c99b0 : decide (2 < (rd t144 x79_2)) = false := decide_eq_false c99
                                        clear c99
                                        have H' := Aside0.mk H
                                        clear H
                                        have p153 : 0 ≤ (x79_2 : Int) := of_decide_eq_true (by first | (with_reducible assumption) | assumption)
                                        have q153 : x79_2 < (t144.length : Int) := of_decide_eq_true (by first | (with_reducible assumption) | assumption)
                                        obtain ⟨ad153, e153, hx153_0⟩ := Kd.at_int (Kd.R_reads' HO_16.out).2.2 x79_2 p153 q153
                                        cases e153
                                        replace p153 := eq_true p153
                                        replace q153 := eq_true q153
                                        obtain ⟨Ao101, co101, eo101⟩ := Kd.R_slice HO_18.out
                                        subst eo101
                                        have p169 : 0 ≤ (x79_2 : Int) := of_decide_eq_true (by first | (with_reducible assumption) | assumption)
                                        have q169 : x79_2 < (t150.length : Int) := of_decide_eq_true (by first | (with_reducible assumption) | assumption)
                                        obtain ⟨ad169, e169, hx169_0⟩ := Kd.at_int (Kd.R_reads' HO_18.out).2.2 x79_2 p169 q169
                                        cases e169
                                        replace p169 := eq_true p169
                                        replace q169 := eq_true q169
                                        have p171 : 0 ≤ (x79_2 : Int) := of_decide_eq_true (by first | (with_reducible assumption) | assumption)
                                        have q171 : x79_2 < (y137.length : Int) := of_decide_eq_true (by first | (with_reducible assumption) | assumption)
                                        obtain ⟨ad171, e171, hx171_0⟩ := Kd.at_bool (Kd.R_reads' HO_11.out).2.2 x79_2 p171 q171
                                        (try rw [← Nbq93.out] at hx171_0)
                                        cases e171
                                        replace p171 := eq_true p171
                                        replace q171 := eq_true q171
                                        have p172 : 0 ≤ (x79_2 : Int) := of_decide_eq_true (by first | (with_reducible assumption) | assumption)
                                        have q172 : x79_2 < (t144.length : Int) := of_decide_eq_true (by first | (with_reducible assumption) | assumption)
                                        obtain ⟨ad172, e172, hx172_0⟩ := Kd.at_int (Kd.R_reads' HO_16.out).2.2 x79_2 p172 q172
                                        obtain rfl : ad153 = ad172 := (by injection e172)
                                        replace p172 := eq_true p172
                                        replace q172 := eq_true q172
                                        have p173 : 0 ≤ (x79_2 : Int) := of_decide_eq_true (by first | (with_reducible assumption) | assumption)
                                        have q173 : x79_2 < (t144.length : Int) := of_decide_eq_true (by first | (with_reducible assumption) | assumption)
                                        obtain ⟨ad173, e173, hx173_0⟩ := Kd.at_int (Kd.R_reads' HO_16.out).2.2 x79_2 p173 q173
                                        obtain rfl : ad153 = ad173 := (by injection e173)
                                        replace p173 := eq_true p173
                                        replace q173 := eq_true q173
                                        have p174 : 0 ≤ (x79_2 : Int) := of_decide_eq_true (by first | (with_reducible assumption) | assumption)
                                        have q174 : x79_2 < (t144.length : Int) := of_decide_eq_true (by first | (with_reducible assumption) | assumption)
                                        obtain ⟨ad174, e174, hx174_0⟩ := Kd.at_int (Kd.R_reads' HO_16.out).2.2 x79_2 p174 q174
                                        obtain rfl : ad153 = ad174 := (by injection e174)
                                        replace p174 := eq_true p174
                                        replace q174 := eq_true q174
                                        go_wp2
                                        go_roundg k2
                                        case measure => have := HJ16.out; have := HK2.out; omega
                                        case rel => exact ⟨(wrap64 (x79_2 + 1)), (by first | rfl | (simp; done) | (simp [*]; done)), H', ⟨by have := HJ16.out; have := HK2.out; omega⟩, ⟨by (with_reducible repeat (first | apply Kd.R_alloc | apply Kd.R_drewN | apply Kd.R_drew)); exact HO_11.out⟩, ⟨by (with_reducible repeat (first | apply Kd.R_alloc | apply Kd.R_drewN | apply Kd.R_drew)); exact HO_16.out⟩, ⟨by (with_reducible repeat (first | apply Kd.R_alloc | apply Kd.R_drewN | apply Kd.R_drew)); exact HO_17.out⟩, ⟨by (with_reducible repeat (first | apply Kd.R_alloc | apply Kd.R_drewN | apply Kd.R_drew)); exact HO_18.out⟩, ⟨by repeat (first | (with_reducible first | exact HB.out | apply below_alloc | apply pw_below_drewN | apply below_drew1) | exact HB.out)⟩⟩
                                · replace c94 := Bool.eq_false_iff.mpr c94
                                  subst c94
                                  have H1 : (if (rd t144 x79_2) < 0 then (some false) else (if (rd t144 x79_2) > 2 then (some false) else (klaxonlaw12_LifeMore.l0 k2 y137 t140 t141 t142 t144 t147 t150 (t144.length : Int) (wrap64 (x79_2 + 1))))) = some r := by rw [if_neg (show ¬ (false = true) by decide)] at H; exact H
                                  clear H
                                  have H := H1
                                  clear H1
                                  by_cases c102 : (rd t144 x79_2) < 0
                                  · rw [if_pos c102] at H
                                    have c102b0 : decide ((rd t144 x79_2) < 0) = true := decide_eq_true c102
                                    clear c102
                                    obtain rfl := Option.some.inj H
                                    have p153 : 0 ≤ (x79_2 : Int) := of_decide_eq_true (by first | (with_reducible assumption) | assumption)
                                    have q153 : x79_2 < (t144.length : Int) := of_decide_eq_true (by first | (with_reducible assumption) | assumption)
                                    obtain ⟨ad153, e153, hx153_0⟩ := Kd.at_int (Kd.R_reads' HO_16.out).2.2 x79_2 p153 q153
                                    cases e153
                                    replace p153 := eq_true p153
                                    replace q153 := eq_true q153
                                    obtain ⟨Ao103, co103, eo103⟩ := Kd.R_slice HO_18.out
                                    subst eo103
                                    have p169 : 0 ≤ (x79_2 : Int) := of_decide_eq_true (by first | (with_reducible assumption) | assumption)
                                    have q169 : x79_2 < (t150.length : Int) := of_decide_eq_true (by first | (with_reducible assumption) | assumption)
                                    obtain ⟨ad169, e169, hx169_0⟩ := Kd.at_int (Kd.R_reads' HO_18.out).2.2 x79_2 p169 q169
                                    cases e169
                                    replace p169 := eq_true p169
                                    replace q169 := eq_true q169
                                    have p171 : 0 ≤ (x79_2 : Int) := of_decide_eq_true (by first | (with_reducible assumption) | assumption)
                                    have q171 : x79_2 < (y137.length : Int) := of_decide_eq_true (by first | (with_reducible assumption) | assumption)
                                    obtain ⟨ad171, e171, hx171_0⟩ := Kd.at_bool (Kd.R_reads' HO_11.out).2.2 x79_2 p171 q171
                                    (try rw [← Nbq93.out] at hx171_0)
                                    cases e171
                                    replace p171 := eq_true p171
                                    replace q171 := eq_true q171
                                    have p175 : 0 ≤ (x79_2 : Int) := of_decide_eq_true (by first | (with_reducible assumption) | assumption)
                                    have q175 : x79_2 < (t144.length : Int) := of_decide_eq_true (by first | (with_reducible assumption) | assumption)
                                    obtain ⟨ad175, e175, hx175_0⟩ := Kd.at_int (Kd.R_reads' HO_16.out).2.2 x79_2 p175 q175
                                    obtain rfl : ad153 = ad175 := (by injection e175)
                                    replace p175 := eq_true p175
                                    replace q175 := eq_true q175
                                    go_wp2
                                    go_ret
                                    exact ⟨by first | rfl | (simp [errW_none, errW_some] <;> rfl) | (simp only [← hji6]; first | rfl | (simp [errW_none, errW_some] <;> rfl)) | (simp [*, errW_none, errW_some] <;> rfl), by repeat (first | (with_reducible first | exact HB.out | apply below_alloc | apply pw_below_drewN | apply below_drew1) | exact HB.out)⟩
                                  · rw [if_neg c102] at H
                                    have c102b0 : decide ((rd t144 x79_2) < 0) = false := decide_eq_false c102
                                    clear c102
                                    by_cases c104 : (rd t144 x79_2) > 2
                                    · rw [if_pos c104] at H
                                      have c104b0 : decide (2 < (rd t144 x79_2)) = true := decide_eq_true c104
                                      clear c104
                                      obtain rfl := Option.some.inj H
                                      have p153 : 0 ≤ (x79_2 : Int) := of_decide_eq_true (by first | (with_reducible assumption) | assumption)
                                      have q153 : x79_2 < (t144.length : Int) := of_decide_eq_true (by first | (with_reducible assumption) | assumption)
                                      obtain ⟨ad153, e153, hx153_0⟩ := Kd.at_int (Kd.R_reads' HO_16.out).2.2 x79_2 p153 q153
                                      cases e153
                                      replace p153 := eq_true p153
                                      replace q153 := eq_true q153
                                      obtain ⟨Ao105, co105, eo105⟩ := Kd.R_slice HO_18.out
                                      subst eo105
                                      have p169 : 0 ≤ (x79_2 : Int) := of_decide_eq_true (by first | (with_reducible assumption) | assumption)
                                      have q169 : x79_2 < (t150.length : Int) := of_decide_eq_true (by first | (with_reducible assumption) | assumption)
                                      obtain ⟨ad169, e169, hx169_0⟩ := Kd.at_int (Kd.R_reads' HO_18.out).2.2 x79_2 p169 q169
                                      cases e169
                                      replace p169 := eq_true p169
                                      replace q169 := eq_true q169
                                      have p171 : 0 ≤ (x79_2 : Int) := of_decide_eq_true (by first | (with_reducible assumption) | assumption)
                                      have q171 : x79_2 < (y137.length : Int) := of_decide_eq_true (by first | (with_reducible assumption) | assumption)
                                      obtain ⟨ad171, e171, hx171_0⟩ := Kd.at_bool (Kd.R_reads' HO_11.out).2.2 x79_2 p171 q171
                                      (try rw [← Nbq93.out] at hx171_0)
                                      cases e171
                                      replace p171 := eq_true p171
                                      replace q171 := eq_true q171
                                      have p175 : 0 ≤ (x79_2 : Int) := of_decide_eq_true (by first | (with_reducible assumption) | assumption)
                                      have q175 : x79_2 < (t144.length : Int) := of_decide_eq_true (by first | (with_reducible assumption) | assumption)
                                      obtain ⟨ad175, e175, hx175_0⟩ := Kd.at_int (Kd.R_reads' HO_16.out).2.2 x79_2 p175 q175
                                      obtain rfl : ad153 = ad175 := (by injection e175)
                                      replace p175 := eq_true p175
                                      replace q175 := eq_true q175
                                      have p176 : 0 ≤ (x79_2 : Int) := of_decide_eq_true (by first | (with_reducible assumption) | assumption)
                                      have q176 : x79_2 < (t144.length : Int) := of_decide_eq_true (by first | (with_reducible assumption) | assumption)
                                      obtain ⟨ad176, e176, hx176_0⟩ := Kd.at_int (Kd.R_reads' HO_16.out).2.2 x79_2 p176 q176
                                      obtain rfl : ad153 = ad176 := (by injection e176)
                                      replace p176 := eq_true p176
                                      replace q176 := eq_true q176
                                      go_wp2
                                      go_ret
                                      exact ⟨by first | rfl | (simp [errW_none, errW_some] <;> rfl) | (simp only [← hji6]; first | rfl | (simp [errW_none, errW_some] <;> rfl)) | (simp [*, errW_none, errW_some] <;> rfl), by repeat (first | (with_reducible first | exact HB.out | apply below_alloc | apply pw_below_drewN | apply below_drew1) | exact HB.out)⟩
                                    · rw [if_neg c104] at H
                                      have c104b0 : decide (2 < (rd t144 x79_2)) = false := decide_eq_false c104
                                      clear c104
                                      have H' := Aside0.mk H
                                      clear H
                                      have p153 : 0 ≤ (x79_2 : Int) := of_decide_eq_true (by first | (with_reducible assumption) | assumption)
                                      have q153 : x79_2 < (t144.length : Int) := of_decide_eq_true (by first | (with_reducible assumption) | assumption)
                                      obtain ⟨ad153, e153, hx153_0⟩ := Kd.at_int (Kd.R_reads' HO_16.out).2.2 x79_2 p153 q153
                                      cases e153
                                      replace p153 := eq_true p153
                                      replace q153 := eq_true q153
                                      obtain ⟨Ao106, co106, eo106⟩ := Kd.R_slice HO_18.out
                                      subst eo106
                                      have p169 : 0 ≤ (x79_2 : Int) := of_decide_eq_true (by first | (with_reducible assumption) | assumption)
                                      have q169 : x79_2 < (t150.length : Int) := of_decide_eq_true (by first | (with_reducible assumption) | assumption)
                                      obtain ⟨ad169, e169, hx169_0⟩ := Kd.at_int (Kd.R_reads' HO_18.out).2.2 x79_2 p169 q169
                                      cases e169
                                      replace p169 := eq_true p169
                                      replace q169 := eq_true q169
                                      have p171 : 0 ≤ (x79_2 : Int) := of_decide_eq_true (by first | (with_reducible assumption) | assumption)
                                      have q171 : x79_2 < (y137.length : Int) := of_decide_eq_true (by first | (with_reducible assumption) | assumption)
                                      obtain ⟨ad171, e171, hx171_0⟩ := Kd.at_bool (Kd.R_reads' HO_11.out).2.2 x79_2 p171 q171
                                      (try rw [← Nbq93.out] at hx171_0)
                                      cases e171
                                      replace p171 := eq_true p171
                                      replace q171 := eq_true q171
                                      have p175 : 0 ≤ (x79_2 : Int) := of_decide_eq_true (by first | (with_reducible assumption) | assumption)
                                      have q175 : x79_2 < (t144.length : Int) := of_decide_eq_true (by first | (with_reducible assumption) | assumption)
                                      obtain ⟨ad175, e175, hx175_0⟩ := Kd.at_int (Kd.R_reads' HO_16.out).2.2 x79_2 p175 q175
                                      obtain rfl : ad153 = ad175 := (by injection e175)
                                      replace p175 := eq_true p175
                                      replace q175 := eq_true q175
                                      have p176 : 0 ≤ (x79_2 : Int) := of_decide_eq_true (by first | (with_reducible assumption) | assumption)
                                      have q176 : x79_2 < (t144.length : Int) := of_decide_eq_true (by first | (with_reducible assumption) | assumption)
                                      obtain ⟨ad176, e176, hx176_0⟩ := Kd.at_int (Kd.R_reads' HO_16.out).2.2 x79_2 p176 q176
                                      obtain rfl : ad153 = ad176 := (by injection e176)
                                      replace p176 := eq_true p176
                                      replace q176 := eq_true q176
                                      go_wp2
                                      go_roundg k2
                                      case measure => have := HJ16.out; have := HK2.out; omega
                                      case rel => exact ⟨(wrap64 (x79_2 + 1)), (by first | rfl | (simp; done) | (simp [*]; done)), H', ⟨by have := HJ16.out; have := HK2.out; omega⟩, ⟨by (with_reducible repeat (first | apply Kd.R_alloc | apply Kd.R_drewN | apply Kd.R_drew)); exact HO_11.out⟩, ⟨by (with_reducible repeat (first | apply Kd.R_alloc | apply Kd.R_drewN | apply Kd.R_drew)); exact HO_16.out⟩, ⟨by (with_reducible repeat (first | apply Kd.R_alloc | apply Kd.R_drewN | apply Kd.R_drew)); exact HO_17.out⟩, ⟨by (with_reducible repeat (first | apply Kd.R_alloc | apply Kd.R_drewN | apply Kd.R_drew)); exact HO_18.out⟩, ⟨by repeat (first | (with_reducible first | exact HB.out | apply below_alloc | apply pw_below_drewN | apply below_drew1) | exact HB.out)⟩⟩
                              · rw [if_neg c92] at H
                                exact absurd H (by simp)
                          · rw [if_neg c89] at H
                            exact absurd H (by simp)
                      · rw [if_neg c38] at H
                        exact absurd H (by simp)
                    · rw [if_neg c37] at H
                      exact absurd H (by simp)
                  · rw [if_neg c36] at H
                    have c36b0 : decide (x79_2 < (t144.length : Int)) = false := decide_eq_false c36
                    clear c36
                    by_cases c107 : 45 ≤ 281474976710656
                    · rw [if_pos c107] at H
                      have c107b0 := eq_true c107
                      have c107b1 : decide (45 ≤ 281474976710656) = true := decide_eq_true c107
                      clear c107
                      obtain ⟨y177, hy177⟩ : ∃ y_ : List Bool, y_ = (List.replicate 45 false) := ⟨_, rfl⟩
                      replace H : (klaxonlaw12_LifeMore.l1 k2 t140 t141 t142 y177 (y177.length : Int) 0) = some r := by first | (rw [hy177]; with_reducible exact H) | (have H2_ := (Option.bind_some _ _).symm.trans H; rw [hy177]; with_reducible exact H2_) | (have H2_ := (Option.bind_some _ _).symm.trans H; with_reducible exact H2_) | with_reducible exact H | (rw [hy177]; exact H) | exact H
                      have Ny177 := Aside0.mk hy177
                      clear hy177
                      have H' := Aside0.mk H
                      clear H
                      go_wp2_with (first | ((with_reducible refine gate_dst (N := 136) rfl ?_); (try (refine gate_guard (by rfl) ?_; dsimp only)); refine Kd.R_make Kd.bool _ 4 rfl (N := 136) rfl 44 _ _ rfl 45 rfl rfl Try.underlying44 (.bool false) 1 info4 rfl (by decide) (by omega) false (ok := fun _ => True) (okp := fun _ => True) rfl (fun _ hk => hk) trivial (by omega) (by omega) (Below.refl _ _) (Nat.le_refl _) ?_; intro v178 w108 ho109 hb hg_ hnew_; clear hg_ hnew_; (first | rw [← Ny177.out] at ho109 | (simp only [Int.reduceToNat] at ho109; rw [← Ny177.out] at ho109)); have n0_ := Aside0.mk (Kd.R_elder' (by (with_reducible repeat (first | apply Kd.R_alloc | apply Kd.R_drewN | apply Kd.R_drew)); exact HO_11.out) (Kd.R_base ho109) hb); have n1_ := Aside0.mk (Kd.R_below (by (with_reducible repeat (first | apply Kd.R_alloc | apply Kd.R_drewN | apply Kd.R_drew)); exact HO_16.out) hb); have n2_ := Aside0.mk (Kd.R_below (by (with_reducible repeat (first | apply Kd.R_alloc | apply Kd.R_drewN | apply Kd.R_drew)); exact HO_17.out) hb); have n3_ := Aside0.mk (Kd.R_below (by (with_reducible repeat (first | apply Kd.R_alloc | apply Kd.R_drewN | apply Kd.R_drew)); exact HO_18.out) hb); have n4_ := Aside0.mk (Kd.R_lower (Kd.R_new' ho109 (Kd.R_lt (by (with_reducible repeat (first | apply Kd.R_alloc | apply Kd.R_drewN | apply Kd.R_drew)); exact HO_11.out))) (below_size (by repeat (first | (with_reducible first | exact HB.out | apply below_alloc | apply pw_below_drewN | apply below_drew1) | exact HB.out)))); have n5_ := Aside0.mk (below_step (by repeat (first | (with_reducible first | exact HB.out | apply below_alloc | apply pw_below_drewN | apply below_drew1) | exact HB.out)) hb); clear HO_11; clear HO_16; clear HO_17; clear HO_18; clear HB; have HO_11 := n0_; have HO_16 := n1_; have HO_17 := n2_; have HO_18 := n3_; have HO179 := n4_; have HB := n5_; clear n0_ n1_ n2_ n3_ n4_ n5_; clear hb ho109; obtain ⟨Ao110, co110, eo110⟩ := Kd.R_slice HO179.out; subst eo110))
                      go_loopg [139] k2 (fun kq v139 w' => ∃ (x20_3 : List Bool) (x139_3 : Int), v139 = .int .i64 x139_3 ∧ Aside0 (klaxonlaw12_LifeMore.l1 kq t140 t141 t142 x20_3 (y177.length : Int) x139_3 = some r) ∧ Aside0 (kq ≤ k2) ∧ Aside0 (Kd.R Kd.bool 4 w' w.heap.size (fun _ => True) (.slice Ao110 y177.length co110) x20_3) ∧ Aside0 (Below w.heap.size w w'))
                      case atStart => exact ⟨(y177), (0), (by first | rfl | (simp; done) | (simp [*]; done)), H', ⟨Nat.le_refl _⟩, ⟨by (with_reducible repeat (first | apply Kd.R_alloc | apply Kd.R_drewN | apply Kd.R_drew)); exact Kd.R_mono HO179.out (fun _ hk => trivial)⟩, ⟨by repeat (first | (with_reducible first | exact HB.out | apply below_alloc | apply pw_below_drewN | apply below_drew1) | exact HB.out)⟩⟩
                      case round =>
                        clear H'
                        try clear c1
                        try clear p1
                        try clear q1
                        try clear hx1
                        try clear p2
                        try clear c3
                        try clear c4
                        try clear c6
                        try clear p6
                        try clear q6
                        try clear c8
                        try clear c9
                        try clear q9
                        try clear c10
                        try clear p15
                        try clear q15
                        try clear hx15
                        try clear p16
                        try clear q16
                        try clear hx16
                        try clear p17
                        try clear q17
                        try clear hx17
                        try clear c36
                        try clear c36b0
                        try clear c37
                        try clear c38
                        try clear c39
                        try clear c39b0
                        try clear c39b1
                        try clear c40
                        try clear c41
                        try clear c41b0
                        try clear c41b1
                        try clear c42
                        try clear p64
                        try clear c66
                        try clear q67
                        try clear c68
                        try clear c80
                        try clear c80b0
                        try clear c83
                        try clear c83b0
                        try clear c89
                        try clear c89b0
                        try clear c90
                        try clear c90b0
                        try clear c90b1
                        try clear c92
                        try clear c92b0
                        try clear q93
                        try clear c94
                        try clear c95
                        try clear c95b0
                        try clear c95b1
                        try clear c97
                        try clear c97b0
                        try clear c99
                        try clear c99b0
                        try clear c102
                        try clear c102b0
                        try clear c104
                        try clear c104b0
                        try clear c107
                        try clear c107b0
                        try clear c107b1
                        try clear hx153_0
                        try clear hx154_0
                        try clear hx155_0
                        try clear hx163_0
                        try clear hx164_0
                        try clear hx165_0
                        try clear hx166_0
                        try clear hx167_0
                        try clear hx168_0
                        try clear hx169_0
                        try clear hx170_0
                        try clear hx171_0
                        try clear hx172_0
                        try clear hx173_0
                        try clear hx174_0
                        try clear hx175_0
                        try clear hx176_0
                        try clear p153
                        try clear p154
                        try clear p155
                        try clear p163
                        try clear p164
                        try clear p165
                        try clear p166
                        try clear p167
                        try clear p168
                        try clear p169
                        try clear p170
                        try clear p171
                        try clear p172
                        try clear p173
                        try clear p174
                        try clear p175
                        try clear p176
                        try clear q153
                        try clear q154
                        try clear q155
                        try clear q163
                        try clear q164
                        try clear q165
                        try clear q166
                        try clear q167
                        try clear q168
                        try clear q169
                        try clear q170
                        try clear q171
                        try clear q172
                        try clear q173
                        try clear q174
                        try clear q175
                        try clear q176
                        obtain ⟨x20_3, x139_3, rfl, HA, HK3, HO_20, HB⟩ := hrel
                        have hl20_3 := (Kd.R_reads' HO_20.out).1
                        rw [hl20_3] at HO_20
                        (try simp only [hl20_3])
                        cases gk with
                        | zero => exact absurd HA.out (by simp [klaxonlaw12_LifeMore.l1])
                        | succ k3 =>
                          have H := HA.out
                          clear HA
                          simp only [klaxonlaw12_LifeMore.l1] at H
                          by_cases c111 : x139_3 < (y177.length : Int)
                          · rw [if_pos c111] at H
                            have c111b0 : decide (x139_3 < (y177.length : Int)) = true := decide_eq_true c111
                            clear c111
                            by_cases c112 : 0 ≤ x139_3
                            · rw [if_pos c112] at H
                              have c112b0 : decide (0 ≤ x139_3) = true := decide_eq_true c112
                              clear c112
                              by_cases c113 : x139_3 < (x20_3.length : Int)
                              · rw [if_pos c113] at H
                                have c113b0 : decide (x139_3 < (x20_3.length : Int)) = true := decide_eq_true c113
                                clear c113
                                obtain ⟨y180, hy180⟩ : ∃ y_ : List Bool, y_ = (x20_3.set (x139_3 : Int).toNat true) := ⟨_, rfl⟩
                                replace H : (klaxonlaw12_LifeMore.l1 k3 t140 t141 t142 y180 (y177.length : Int) (wrap64 (x139_3 + 1))) = some r := by first | (rw [hy180]; with_reducible exact H) | (have H2_ := (Option.bind_some _ _).symm.trans H; rw [hy180]; with_reducible exact H2_) | (have H2_ := (Option.bind_some _ _).symm.trans H; with_reducible exact H2_) | with_reducible exact H | (rw [hy180]; exact H) | exact H
                                have Ny180 := Aside0.mk hy180
                                clear hy180
                                have H' := Aside0.mk H
                                clear H
                                have p114 : 0 ≤ (x139_3 : Int) := of_decide_eq_true (by first | (with_reducible assumption) | assumption)
                                have q114 : (x139_3 : Int) < ((x20_3.length : Int) : Int) := of_decide_eq_true (by first | (with_reducible assumption) | assumption)
                                obtain ⟨go114, co114, eo114, gb114, gl114, cl114, HG114⟩ := Kd.R_form HO_20.out (by omega)
                                (first | cases eo114 | (injection eo114 with ea_ en_ ec_; (first | subst ea_ | (injection ea_ with ea_; subst ea_)); subst ec_; clear en_))
                                have GB114 := Aside0.mk gb114
                                have GG114 := Aside0.mk HG114
                                clear gb114 gl114 HG114
                                obtain ⟨hx114_0, hf114_0⟩ := Kd.R_celln false HO_20.out (x139_3 : Int) p114 q114
                                replace p114 := eq_true p114
                                replace q114 := eq_true q114
                                have HP115 := Kd.R_putg HO_20.out (x139_3 : Int) true
                                go_wp2_with (first | ((with_reducible refine gate_store (t := 4) (p := 144) rfl ?_); refine store_event (t := 4) (p := 144) (v := ?vo_w116) (w1 := (wr.setCell ⟨go114, (x139_3 : Int).toNat, none⟩ (.bool true))) ?hg ?ho ?hn ?hr ?_; (case ho => rfl); (case hg => rfl); (case hn => rfl); (case hr => first | (go_simp; done) | (go_simp; rfl)); intro w116 hw; have hg : wr.grownBy w116 (some go114) := (by rw [hw]; exact HP115.2); have hp_ : Kd.R Kd.bool 4 w116 w.heap.size (fun _ => True) (.slice (some ⟨go114, 0, none⟩) x20_3.length co110) y180 := (by rw [hw, Ny180.out]; exact HP115.1); clear HP115; have n0_ := Aside0.mk (hp_); have n1_ := Aside0.mk ((by rw [hw]; exact below_set (HB.out) GB114.out : Below w.heap.size w w116)); clear HO_20; clear HB; have HO_20 := n0_; have HB := n1_; clear n0_ n1_; clear hg hw hp_))
                                (try simp only [← hl20_3])
                                go_roundg k3
                                case measure => have := HJ16.out; have := HK2.out; have := HK3.out; omega
                                case rel => exact ⟨(y180), (wrap64 (x139_3 + 1)), (by first | rfl | (simp; done) | (simp [*]; done)), H', ⟨by have := HJ16.out; have := HK2.out; have := HK3.out; omega⟩, ⟨by (try simp only [hl20_3]); (with_reducible repeat (first | apply Kd.R_alloc | apply Kd.R_drewN | apply Kd.R_drew)); exact HO_20.out⟩, ⟨by repeat (first | (with_reducible first | exact HB.out | apply below_alloc | apply pw_below_drewN | apply below_drew1) | exact HB.out)⟩⟩
                              · rw [if_neg c113] at H
                                exact absurd H (by simp)
                            · rw [if_neg c112] at H
                              exact absurd H (by simp)
                          · rw [if_neg c111] at H
                            have c111b0 : decide (x139_3 < (y177.length : Int)) = false := decide_eq_false c111
                            have c111b9 : decide (x139_3 < (x20_3.length : Int)) = false := by rw [← hl20_3]; exact c111b0
                            clear c111
                            replace H := Option.bind_eq_some_iff.mp H
                            obtain ⟨t181, A1170, H⟩ := H
                            replace H : (if (t181.length : Int) = 45 then (klaxonlaw12_LifeMore.l2 k3 t140 t141 t181 (t181.length : Int) 0) else (some false)) = some r := H
                            have A117 := Aside0.mk A1170
                            clear A1170
                            by_cases c118 : (t181.length : Int) = 45
                            · rw [if_pos c118] at H
                              have c118b0 : ((t181.length : Int) == 45) = true := beq_iff_eq.mpr c118
                              have c118b1 : ((t181.length : Int) != 45) = false := bne_eq_false_iff_eq.mpr c118
                              clear c118
                              have H' := Aside0.mk H
                              clear H
                              go_wp2_with (first | ((with_reducible refine gate_callee (f := 24) rfl ?_); refine goesL_ (some 150) rfl rfl Try.func24 (by kernel_rfl) rfl #[.int .i64 t140, .int .i64 t141, .int .i64 t142, .slice Ao110 x20_3.length co110] rfl (by (try simp only [List.map_toArray, List.map_cons, List.map_nil]); first | done | rfl | (simp only [List.length_drop, List.length_take]; rfl)) ?_; (with_reducible refine (life_Run.calls k3 t140 t141 t142 _ _ x20_3 t181 _ ?side1 ?side2 A117.out).mono ?_); (case side1 => repeat (first | exact (Kd.R_reads' HO_20.out).2.2 | (with_reducible refine Kd.C_alloc ?_ _) | (with_reducible refine Kd.C_drewN ?_ _) | (with_reducible refine Kd.C_drew ?_))); (case side2 => exact (Kd.R_reads' HO_20.out).2.1); rintro e w119 ⟨v182, rfl, ho0, hb⟩; refine ⟨_, rfl, ?_⟩; have n0_ := Aside0.mk (Kd.R_below (by (with_reducible repeat (first | apply Kd.R_alloc | apply Kd.R_drewN | apply Kd.R_drew)); exact HO_20.out) hb); have n1_ := Aside0.mk (Kd.R_lower ho0 (below_size (by repeat (first | (with_reducible first | exact HB.out | apply below_alloc | apply pw_below_drewN | apply below_drew1) | exact HB.out)))); have n2_ := Aside0.mk (below_step (by repeat (first | (with_reducible first | exact HB.out | apply below_alloc | apply pw_below_drewN | apply below_drew1) | exact HB.out)) hb); clear HO_20; clear HB; have HO_20 := n0_; have HO183 := n1_; have HB := n2_; clear n0_ n1_ n2_; (try clear hb); (try clear hb2); (try clear hk); (try clear hi); (try clear ho0); obtain ⟨Ao120, co120, eo120⟩ := Kd.R_slice HO183.out; subst eo120))
                              go_loopg [156] k3 (fun kq v156 w' => ∃ (x156_4 : Int), v156 = .int .i64 x156_4 ∧ Aside0 (klaxonlaw12_LifeMore.l2 kq t140 t141 t181 (t181.length : Int) x156_4 = some r) ∧ Aside0 (kq ≤ k3) ∧ Aside0 (Kd.R (Kd.int .i64) 3 w' w.heap.size (fun _ => True) (.slice Ao120 t181.length co120) t181) ∧ Aside0 (Below w.heap.size w w'))
                              case atStart => exact ⟨(0), (by first | rfl | (simp; done) | (simp [*]; done)), H', ⟨Nat.le_refl _⟩, ⟨by (try simp only [hl20_3]); (with_reducible repeat (first | apply Kd.R_alloc | apply Kd.R_drewN | apply Kd.R_drew)); exact HO183.out⟩, ⟨by repeat (first | (with_reducible first | exact HB.out | apply below_alloc | apply pw_below_drewN | apply below_drew1) | exact HB.out)⟩⟩
                              case round =>
                                clear H'
                                try clear c1
                                try clear p1
                                try clear q1
                                try clear hx1
                                try clear c2
                                try clear p2
                                try clear c3
                                try clear c4
                                try clear c6
                                try clear p6
                                try clear q6
                                try clear c8
                                try clear c9
                                try clear q9
                                try clear c10
                                try clear c11
                                try clear p11
                                try clear q11
                                try clear hx11
                                try clear hf11
                                try clear p15
                                try clear q15
                                try clear hx15
                                try clear p16
                                try clear q16
                                try clear hx16
                                try clear p17
                                try clear q17
                                try clear hx17
                                try clear c24
                                try clear c36
                                try clear c36b0
                                try clear c37
                                try clear c38
                                try clear c39
                                try clear c39b0
                                try clear c39b1
                                try clear c40
                                try clear c41
                                try clear c41b0
                                try clear c41b1
                                try clear c42
                                try clear p64
                                try clear c66
                                try clear q67
                                try clear c68
                                try clear c80
                                try clear c80b0
                                try clear c83
                                try clear c83b0
                                try clear c89
                                try clear c89b0
                                try clear c90
                                try clear c90b0
                                try clear c90b1
                                try clear c92
                                try clear c92b0
                                try clear q93
                                try clear c94
                                try clear c95
                                try clear c95b0
                                try clear c95b1
                                try clear c97
                                try clear c97b0
                                try clear c99
                                try clear c99b0
                                try clear c102
                                try clear c102b0
                                try clear c104
                                try clear c104b0
                                try clear c107
                                try clear c107b0
                                try clear c107b1
                                try clear c111
                                try clear c111b0
                                try clear c112
                                try clear c112b0
                                try clear c113
                                try clear c113b0
                                try clear p114
                                try clear q114
                                try clear hx114
                                try clear hf114
                                try clear c118
                                try clear c118b0
                                try clear c118b1
                                try clear hx114_0
                                try clear hx153_0
                                try clear hx154_0
                                try clear hx155_0
                                try clear hx163_0
                                try clear hx164_0
                                try clear hx165_0
                                try clear hx166_0
                                try clear hx167_0
                                try clear hx168_0
                                try clear hx169_0
                                try clear hx170_0
                                try clear hx171_0
                                try clear hx172_0
                                try clear hx173_0
                                try clear hx174_0
                                try clear hx175_0
                                try clear hx176_0
                                try clear p1
                                try clear p114
                                try clear p15
                                try clear p153
                                try clear p154
                                try clear p155
                                try clear p16
                                try clear p163
                                try clear p164
                                try clear p165
                                try clear p166
                                try clear p167
                                try clear p168
                                try clear p169
                                try clear p17
                                try clear p170
                                try clear p171
                                try clear p172
                                try clear p173
                                try clear p174
                                try clear p175
                                try clear p176
                                try clear p2
                                try clear p6
                                try clear p64
                                try clear q1
                                try clear q114
                                try clear q15
                                try clear q153
                                try clear q154
                                try clear q155
                                try clear q16
                                try clear q163
                                try clear q164
                                try clear q165
                                try clear q166
                                try clear q167
                                try clear q168
                                try clear q169
                                try clear q17
                                try clear q170
                                try clear q171
                                try clear q172
                                try clear q173
                                try clear q174
                                try clear q175
                                try clear q176
                                try clear q6
                                try clear q67
                                try clear q9
                                try clear q93
                                obtain ⟨x156_4, rfl, HA, HK4, HO_22, HB⟩ := hrel
                                cases gk with
                                | zero => exact absurd HA.out (by simp [klaxonlaw12_LifeMore.l2])
                                | succ k4 =>
                                  have H := HA.out
                                  clear HA
                                  simp only [klaxonlaw12_LifeMore.l2] at H
                                  by_cases c121 : x156_4 < (t181.length : Int)
                                  · rw [if_pos c121] at H
                                    have c121b0 : decide (x156_4 < (t181.length : Int)) = true := decide_eq_true c121
                                    clear c121
                                    by_cases c122 : 0 ≤ x156_4
                                    · rw [if_pos c122] at H
                                      have c122b0 : decide (0 ≤ x156_4) = true := decide_eq_true c122
                                      clear c122
                                      by_cases c123 : x156_4 < (t181.length : Int)
                                      · rw [if_pos c123] at H
                                        have c123b0 : decide (x156_4 < (t181.length : Int)) = true := decide_eq_true c123
                                        clear c123
                                        by_cases c124 : (((rd t181 x156_4) == 2) != (decide ((wrap64 (x156_4 * t140)) ≥ t141))) = true
                                        · rw [if_pos c124] at H
                                          have c124b0 : (((rd t181 x156_4) == 2) != (decide ((wrap64 (x156_4 * t140)) ≥ t141))) = true := c124
                                          (try (have c124b1 : decide (((rd t181 x156_4) == 2) = (decide ((wrap64 (x156_4 * t140)) ≥ t141))) = false := by simpa using c124))
                                          (try (have c124b2 : (((rd t181 x156_4) == 2) == (decide ((wrap64 (x156_4 * t140)) ≥ t141))) = false := by simpa using c124))
                                          (try (have c124b3 : ¬ (((rd t181 x156_4) == 2) = (decide ((wrap64 (x156_4 * t140)) ≥ t141))) := by simpa using c124))
                                          clear c124
                                          obtain rfl := Option.some.inj H
                                          have p184 : 0 ≤ (x156_4 : Int) := of_decide_eq_true (by first | (with_reducible assumption) | assumption)
                                          have q184 : x156_4 < (t181.length : Int) := of_decide_eq_true (by first | (with_reducible assumption) | assumption)
                                          obtain ⟨ad184, e184, hx184_0⟩ := Kd.at_int (Kd.R_reads' HO_22.out).2.2 x156_4 p184 q184
                                          cases e184
                                          replace p184 := eq_true p184
                                          replace q184 := eq_true q184
                                          go_wp2
                                          go_ret
                                          exact ⟨by first | rfl | (simp [errW_none, errW_some] <;> rfl) | (simp only [← hji6]; first | rfl | (simp [errW_none, errW_some] <;> rfl)) | (simp [*, errW_none, errW_some] <;> rfl), by repeat (first | (with_reducible first | exact HB.out | apply below_alloc | apply pw_below_drewN | apply below_drew1) | exact HB.out)⟩
                                        · rw [if_neg c124] at H
                                          have c124b0 : (((rd t181 x156_4) == 2) != (decide ((wrap64 (x156_4 * t140)) ≥ t141))) = false := by simpa using c124
                                          (try (have c124b1 : decide (((rd t181 x156_4) == 2) = (decide ((wrap64 (x156_4 * t140)) ≥ t141))) = true := by simpa using c124))
                                          (try (have c124b2 : (((rd t181 x156_4) == 2) == (decide ((wrap64 (x156_4 * t140)) ≥ t141))) = true := by simpa using c124))
                                          clear c124
                                          have H' := Aside0.mk H
                                          clear H
                                          have p184 : 0 ≤ (x156_4 : Int) := of_decide_eq_true (by first | (with_reducible assumption) | assumption)
                                          have q184 : x156_4 < (t181.length : Int) := of_decide_eq_true (by first | (with_reducible assumption) | assumption)
                                          obtain ⟨ad184, e184, hx184_0⟩ := Kd.at_int (Kd.R_reads' HO_22.out).2.2 x156_4 p184 q184
                                          cases e184
                                          replace p184 := eq_true p184
                                          replace q184 := eq_true q184
                                          go_wp2
                                          go_roundg k4
                                          case measure => have := HJ16.out; have := HK2.out; have := HK3.out; have := HK4.out; omega
                                          case rel => exact ⟨(wrap64 (x156_4 + 1)), (by first | rfl | (simp; done) | (simp [*]; done)), H', ⟨by have := HJ16.out; have := HK2.out; have := HK3.out; have := HK4.out; omega⟩, ⟨by (try simp only [hl20_3]); (with_reducible repeat (first | apply Kd.R_alloc | apply Kd.R_drewN | apply Kd.R_drew)); exact HO_22.out⟩, ⟨by repeat (first | (with_reducible first | exact HB.out | apply below_alloc | apply pw_below_drewN | apply below_drew1) | exact HB.out)⟩⟩
                                      · rw [if_neg c123] at H
                                        exact absurd H (by simp)
                                    · rw [if_neg c122] at H
                                      exact absurd H (by simp)
                                  · rw [if_neg c121] at H
                                    have c121b0 : decide (x156_4 < (t181.length : Int)) = false := decide_eq_false c121
                                    clear c121
                                    replace H := Option.bind_eq_some_iff.mp H
                                    obtain ⟨t185, A1250, H⟩ := H
                                    replace H : (some t185) = some r := H
                                    have A125 := Aside0.mk A1250
                                    clear A1250
                                    obtain rfl := Option.some.inj H
                                    go_wp2_with (first | ((with_reducible refine gate_callee (f := 5) rfl ?_); refine goesL_ (some 171) rfl rfl Try.func5 (by kernel_rfl) rfl #[] rfl (by (try simp only [List.map_toArray, List.map_cons, List.map_nil]); first | done | rfl | (simp only [List.length_drop, List.length_take]; rfl)) ?_; (with_reducible refine (klaxonlaw12_LifeRuns.calls k4  t185 _ A125.out).mono ?_); rintro e w126 ⟨rfl, hb⟩; refine ⟨_, rfl, ?_⟩; have n0_ := Aside0.mk (Kd.R_below (by (with_reducible repeat (first | apply Kd.R_alloc | apply Kd.R_drewN | apply Kd.R_drew)); exact HO_22.out) hb); have n1_ := Aside0.mk (below_step (by repeat (first | (with_reducible first | exact HB.out | apply below_alloc | apply pw_below_drewN | apply below_drew1) | exact HB.out)) hb); clear HO_22; clear HB; have HO_22 := n0_; have HB := n1_; clear n0_ n1_; (try clear hb); (try clear hb2); (try clear hk); (try clear hi)))
                                    go_ret
                                    exact ⟨by first | rfl | (simp [errW_none, errW_some] <;> rfl) | (simp only [← hji6]; first | rfl | (simp [errW_none, errW_some] <;> rfl)) | (simp [*, errW_none, errW_some] <;> rfl), by repeat (first | (with_reducible first | exact HB.out | apply below_alloc | apply pw_below_drewN | apply below_drew1) | exact HB.out)⟩
                            · rw [if_neg c118] at H
                              have c118b0 : ((t181.length : Int) == 45) = false := beq_eq_false_iff_ne.mpr c118
                              have c118b1 : ((t181.length : Int) != 45) = true := bne_iff_ne.mpr c118
                              obtain rfl := Option.some.inj H
                              go_wp2_with (first | ((with_reducible refine gate_callee (f := 24) rfl ?_); refine goesL_ (some 150) rfl rfl Try.func24 (by kernel_rfl) rfl #[.int .i64 t140, .int .i64 t141, .int .i64 t142, .slice Ao110 x20_3.length co110] rfl (by (try simp only [List.map_toArray, List.map_cons, List.map_nil]); first | done | rfl | (simp only [List.length_drop, List.length_take]; rfl)) ?_; (with_reducible refine (life_Run.calls k3 t140 t141 t142 _ _ x20_3 t181 _ ?side1 ?side2 A117.out).mono ?_); (case side1 => repeat (first | exact (Kd.R_reads' HO_20.out).2.2 | (with_reducible refine Kd.C_alloc ?_ _) | (with_reducible refine Kd.C_drewN ?_ _) | (with_reducible refine Kd.C_drew ?_))); (case side2 => exact (Kd.R_reads' HO_20.out).2.1); rintro e w127 ⟨v182, rfl, ho0, hb⟩; refine ⟨_, rfl, ?_⟩; have n0_ := Aside0.mk (Kd.R_below (by (with_reducible repeat (first | apply Kd.R_alloc | apply Kd.R_drewN | apply Kd.R_drew)); exact HO_20.out) hb); have n1_ := Aside0.mk (Kd.R_lower ho0 (below_size (by repeat (first | (with_reducible first | exact HB.out | apply below_alloc | apply pw_below_drewN | apply below_drew1) | exact HB.out)))); have n2_ := Aside0.mk (below_step (by repeat (first | (with_reducible first | exact HB.out | apply below_alloc | apply pw_below_drewN | apply below_drew1) | exact HB.out)) hb); clear HO_20; clear HB; have HO_20 := n0_; have HO183 := n1_; have HB := n2_; clear n0_ n1_ n2_; (try clear hb); (try clear hb2); (try clear hk); (try clear hi); (try clear ho0); obtain ⟨Ao128, co128, eo128⟩ := Kd.R_slice HO183.out; subst eo128))
                              go_ret
                              exact ⟨by first | rfl | (simp [errW_none, errW_some] <;> rfl) | (simp only [← hji6]; first | rfl | (simp [errW_none, errW_some] <;> rfl)) | (simp [*, errW_none, errW_some] <;> rfl), by repeat (first | (with_reducible first | exact HB.out | apply below_alloc | apply pw_below_drewN | apply below_drew1) | exact HB.out)⟩
                    · rw [if_neg c107] at H
                      exact absurd H (by simp)
      · rw [if_neg c9] at H
        exact absurd H (by simp)
    · rw [if_neg c8] at H
      exact absurd H (by simp)
  · rw [if_neg c7] at H
    exact absurd H (by simp)

end Go.Proofs.Ytkppbflmlpabjaa.PLifeMore
