/- VecFilter: its plain law. -/
import Derived.Test.YtahdcmicifokgaaDoorQD6
import Derived.KernelRfl
namespace Go.Proofs.YtahdcmicifokgaaDoor.Dec
open Go.Ev
set_option linter.unusedVariables false
set_option linter.unusedSimpArgs false
set_option maxRecDepth 100000
set_option maxHeartbeats 20000000
theorem vfilter_len (l : VL) (f : PT1 → Bool) (h : l.length ≤ 8) : (l.filter f).length ≤ 8 := Nat.le_trans (List.length_filter_le f l) h
theorem mem_of_sort {l : VL} {p : PT1} (h : p ∈ sortG l) : p ∈ l := (perm_sort l).mem_iff.1 h
theorem filt_is {kind : Int} {a b : VL} (h1 : twiceG a = false) (h2 : twiceG b = false) : filtG kind a b = (sortG (a.filter (fpG kind b)), 0) := by
  unfold filtG
  rw [h1, h2, if_neg (by simp), if_neg (by simp)]
theorem log_and {a b : VL} (h1 : twiceG a = false) (h2 : twiceG b = false) : logG 14 a b = (sortG (a.filter fun p => hasK b (pkeyG p)), 0) := by
  unfold logG
  have e1 : b.filter (lqG 14 a) = [] := List.filter_eq_nil_iff.2 fun p _ => by rw [show lqG 14 a p = false from rfl]; simp
  have e2 : lpG 14 b = fun p => hasK b (pkeyG p) := funext fun p => by
    show (((14 : Int) == 15) || (hasK b (pkeyG p) == ((14 : Int) == 14))) = _
    cases hasK b (pkeyG p) <;> rfl
  rw [h1, h2, if_neg (by simp), if_neg (by simp), e1, List.append_nil, e2]
theorem cmp_opp (j : Nat) (hj : j < 3) (u v : Int) : cmpG (List.getD [(9 : Int), 13, 12] j 0) u v = !cmpG (List.getD [(8 : Int), 10, 11] j 0) u v := by
  match j, hj with
  | 0, _ => rfl
  | 1, _ =>
    show decide (u ≥ v) = !decide (u < v)
    by_cases h : u < v
    · rw [decide_eq_true h, decide_eq_false (by omega)]; rfl
    · rw [decide_eq_false h, decide_eq_true (by omega)]; rfl
  | 2, _ =>
    show decide (u > v) = !decide (u ≤ v)
    by_cases h : u ≤ v
    · rw [decide_eq_true h, decide_eq_false (by omega)]; rfl
    · rw [decide_eq_false h, decide_eq_true (by omega)]; rfl
theorem vfilter_pure (x0 x1 : (List (List Int × List Int)) × List Int) (x2 : Int) : ∃ m q, vfilter m x0 x1 x2 = some q := by
  obtain ⟨a1, a2, a3⟩ := vec_ok x0
  obtain ⟨b1, b2, b3⟩ := vec_ok x1
  have dx := D_of a2 a3
  generalize hX : vecG x0 = X at a1 a2 a3 dx
  generalize hY : vecG x1 = Y at b1 b2 b3
  have px := pre_of (show X.length < 20 by omega) a2
  have py := pre_of (show Y.length < 20 by omega) b2
  have vx := sort_v px
  have vy := sort_v py
  refine ⟨0, (), ?_⟩
  unfold vfilter
  rw [hX, hY, if_pos vx]
  by_cases t1 : twiceG X = true
  · rw [if_pos t1]
  · rw [if_neg t1, if_pos vy]
    by_cases t2 : twiceG Y = true
    · rw [if_pos t2]
    · rw [if_neg t2]
      have u1 : twiceG X = false := by simpa using t1
      have u2 : twiceG Y = false := by simpa using t2
      have kx := (twice_iff X).1 u1
      have hw : 0 ≤ withinI x2 (0) (2) ∧ withinI x2 (0) (2) < 3 := by unfold withinI; omega
      obtain ⟨j, hj, hj3⟩ : ∃ j : Nat, withinI x2 (0) (2) = (j : Int) ∧ j < 3 := ⟨(withinI x2 (0) (2)).toNat, by omega, by omega⟩
      have e1 : decide ((0 : Int) ≤ ((j : Nat) : Int)) = true := decide_eq_true (by omega)
      have e2 : decide (((j : Nat) : Int) < 3) = true := decide_eq_true (by omega)
      have e3 : decide (0 + j < 3) = true := decide_eq_true (by omega)
      have txy : twoPre X Y = true := by unfold twoPre; rw [px, py, decide_eq_true (by omega)]; rfl
      have opp := cmp_opp j hj3
      rw [hj, Int.toNat_natCast, if_pos e1, if_pos e2, if_pos e3, if_pos txy, Nat.zero_add]
      generalize List.getD [(8 : Int), 10, 11] j 0 = yes at opp
      generalize List.getD [(9 : Int), 13, 12] j 0 = no at opp
      rw [filt_is (kind := yes) u1 u2, filt_is (kind := no) u1 u2, log_and u1 u2]
      have hsub : ∀ p ∈ X.filter (fpG yes Y), p ∈ X := fun p h => (List.mem_filter.1 h).1
      have dF : DG (X.filter (fpG yes Y)) := dx.filter _
      have kF : KG (sortG (X.filter (fpG yes Y))) := KG_perm (perm_sort _).symm (kx.filter _)
      have u3 : twiceG (sortG (X.filter (fpG yes Y))) = false := (twice_iff _).2 kF
      have again : (sortG (X.filter (fpG yes Y))).filter (fpG yes Y) = sortG (X.filter (fpG yes Y)) := List.filter_eq_self.2 fun p h => (List.mem_filter.1 (mem_of_sort h)).2
      have ag : filtG yes (sortG (X.filter (fpG yes Y))) Y = (sortG (X.filter (fpG yes Y)), 0) := by rw [filt_is u3 u2, again, sort_sort dF]
      have split : (X.filter (fpG yes Y) ++ X.filter (fpG no Y)).Perm (X.filter fun p => hasK Y (pkeyG p)) := filter_split (fun p => by
        have h1 : fpG yes Y p = (hasK Y (pkeyG p) && cmpG yes p.2 (atK Y (pkeyG p))) := rfl
        have h2 : fpG no Y p = (hasK Y (pkeyG p) && cmpG no p.2 (atK Y (pkeyG p))) := rfl
        rw [h1, h2, opp]
        cases hasK Y (pkeyG p) <;> cases cmpG yes p.2 (atK Y (pkeyG p)) <;> exact ⟨rfl, rfl⟩) X
      rw [ag]
      have l1 := vfilter_len X (fpG yes Y) a1
      have l2 := vfilter_len X (fpG no Y) a1
      have l3 := split.length_eq
      rw [List.length_append] at l3
      have g1 : ∀ p ∈ X.filter (fpG yes Y), PG p := fun p h => a2 p (List.mem_filter.1 h).1
      have g2 : ∀ p ∈ X.filter (fpG no Y), PG p := fun p h => a2 p (List.mem_filter.1 h).1
      have hd : DG (X.filter fun p => hasK Y (pkeyG p)) := dx.filter _
      generalize X.filter (fpG yes Y) = F1 at *
      generalize X.filter (fpG no Y) = F2 at *
      generalize X.filter (fun p => hasK Y (pkeyG p)) = F3 at *
      have ps : ∀ l : VL, l.length < 20 → (∀ p ∈ l, PG p) → sortPre (sortG l) = true := fun l h1 h2 => pre_of (l := sortG l) (by rw [len_sortG]; exact h1) (fun p hp => h2 p (mem_of_sort hp))
      have s1 := ps F1 (by omega) g1
      have v1 : ptsPre (sortG F1) = true := sort_v s1
      have tF : twoPre (sortG F1) Y = true := by unfold twoPre; rw [s1, py, len_sortG, decide_eq_true (by omega)]; rfl
      have perm2 : (sortG F1 ++ sortG F2).Perm F3 := ((perm_sort F1).append (perm_sort F2)).trans split
      have g3 : ∀ p ∈ sortG F1 ++ sortG F2, PG p := fun p hp => by
        rcases List.mem_append.1 hp with h | h
        · exact g1 p (mem_of_sort h)
        · exact g2 p (mem_of_sort h)
      have len12 : (sortG F1 ++ sortG F2).length < 20 := by rw [List.length_append, len_sortG, len_sortG]; omega
      have s2 := pre_of len12 g3
      have s3 : ptsPre (sortG (sortG F1 ++ sortG F2)) = true := sort_v (ps _ len12 g3)
      have cat : sortG (sortG F1 ++ sortG F2) = sortG F3 := sort_perm perm2 (DG_perm perm2.symm hd)
      have d1 : decide (((0 + F1.length) * 32) ≤ 70368744177664) = true := decide_eq_true (by omega)
      have d2 : decide ((((0 + F1.length) + F2.length) * 32) ≤ 70368744177664) = true := decide_eq_true (by omega)
      have d3 : decide ((0 + F1.length) = F1.length) = true := decide_eq_true (by omega)
      have d4 : decide ((0 + ((0 + F1.length) + F2.length)) ≤ (sortG F1 ++ sortG F2).length) = true := decide_eq_true (by rw [List.length_append, len_sortG, len_sortG]; omega)
      have d5 : List.take ((0 + F1.length) + F2.length) (sortG F1 ++ sortG F2) = sortG F1 ++ sortG F2 := List.take_of_length_le (by rw [List.length_append, len_sortG, len_sortG]; omega)
      have bq : ((0 : Int) != 0) = false := rfl
      have z : (IntKind.wrap .i64 (((F1.length : Nat) : Int) + ((F2.length : Nat) : Int)) == ((F3.length : Nat) : Int)) = true := by
        rw [wrap_id (by omega) (by omega), beq_iff_eq]; omega
      have r1 : ((show List (List (Q4 × Q4) × Int) from sortG F1) == sortG F1) = true := beq_self_eq_true (sortG F1)
      rw [cat] at s3
      simp only [bq, tF, v1, len_sortG, d1, d2, d3, d4, d5, List.drop_zero, s2, s3, cat, z, r1, ↓reduceIte, Bool.false_eq_true, beq_self_eq_true]
theorem vfilter_law (x0 x1 : (List (List Int × List Int)) × List Int) (x2 : Int) : ∃ g B', CallAt Tryd.prog 6 g ∧ (g [argAV true (.pair (.sl (.pair (.sl (.int .i64)) (.sl (.int .i64)))) (.sl (.int .i64))) x0, argAV true (.pair (.sl (.pair (.sl (.int .i64)) (.sl (.int .i64)))) (.sl (.int .i64))) x1, argAV false (.int .i64) x2] []).run = some (.d (.bool true), B') := vfilter_at x0 x1 x2 (vfilter_pure x0 x1 x2)

end Go.Proofs.YtahdcmicifokgaaDoor.Dec
