/- For every two ints NumTells returns true: the walk of the law's own function, this session's own, over the contracts of its callees. No condition. -/
import Derived.Test.YtkppbflmlpabjaaPNumTellsx1
import Derived.Test.YtkppbflmlpabjaaPNumTellsx2
namespace Go.Proofs.Ytkppbflmlpabjaa.Tells
open Go.RowKit Go.Proofs.Ytkppbflmlpabjaa.PNumTells Go.Proofs.YtkppbflmlpabjaaW.PrintWords Go.Proofs.YtkppbflmlpabjaaW.PrintLast Go.Proofs.YtkppbflmlpabjaaW.PrintMore
def inr (x : Int) : Prop := -9223372036854775808 ≤ x ∧ x ≤ 9223372036854775807
instance (x : Int) : Decidable (inr x) := by unfold inr; infer_instance
theorem wrap_in {x : Int} (h : inr x) : wrap64 x = x := by unfold inr at h; unfold wrap64; omega
theorem wrap_inr (x : Int) : inr (wrap64 x) := by unfold inr wrap64; omega
theorem wrap_ex (x : Int) : ∃ m : Int, wrap64 x = x + 18446744073709551616 * m := ⟨-((x + 9223372036854775808) / 18446744073709551616), by unfold wrap64; omega⟩
theorem tmod_lt (p a : Int) : (0 < a → -a < Int.tmod p a ∧ Int.tmod p a < a) ∧ (a < 0 → a < Int.tmod p a ∧ Int.tmod p a < -a) := by
  refine ⟨fun h => ⟨Int.lt_tmod_of_pos p h, Int.tmod_lt_of_pos p h⟩, fun h => ?_⟩
  have h1 := Int.lt_tmod_of_pos p (show 0 < -a by omega)
  have h2 := Int.tmod_lt_of_pos p (show 0 < -a by omega)
  rw [Int.tmod_neg] at h1 h2
  omega
theorem mul_key {a b : Int} (ha : inr a) (hb : inr b) (h0 : a ≠ 0) (hn : ¬ (a = -1 ∧ b = -9223372036854775808)) :
    wrap64 (Int.tdiv (wrap64 (a * b)) a) = b ↔ inr (a * b) := by
  constructor
  · intro h
    obtain ⟨m, hm⟩ := wrap_ex (a * b)
    have hp := wrap_inr (a * b)
    have hd := Int.mul_tdiv_add_tmod (wrap64 (a * b)) a
    have ht := tmod_lt (wrap64 (a * b)) a
    have hq : (Int.tdiv (wrap64 (a * b)) a).natAbs ≤ (wrap64 (a * b)).natAbs := Int.natAbs_tdiv_le_natAbs _ _
    generalize Int.tmod (wrap64 (a * b)) a = r at *
    generalize hqq : Int.tdiv (wrap64 (a * b)) a = q at *
    generalize hpp : wrap64 (a * b) = p at *
    by_cases e : q = 9223372036854775808
    · subst e
      have hw : wrap64 9223372036854775808 = -9223372036854775808 := by unfold wrap64; omega
      rw [hw] at h
      unfold inr at *
      exfalso
      rcases Int.lt_or_gt_of_ne h0 with hl | hg
      · have := ht.2 hl; omega
      · have := ht.1 hg; omega
    · have hqi : inr q := by unfold inr at *; omega
      rw [wrap_in hqi] at h
      subst h
      unfold inr at *
      rcases Int.lt_or_gt_of_ne h0 with hl | hg
      · have := ht.2 hl; omega
      · have := ht.1 hg; omega
  · intro h
    rw [wrap_in h, Int.mul_tdiv_cancel_left b h0, wrap_in hb]
theorem wf_inr {n : Int} (h : (Go.Lit.int .i64 n).wf = true) : inr n := by
  simp [Go.Lit.wf, Go.IntKind.min, Go.IntKind.max, Go.IntKind.signed, Go.IntKind.bits] at h
  unfold inr; omega

theorem add_spec {a b : Int} (ha : inr a) (hb : inr b) : num_Add.f a b = some (if inr (a + b) then (a + b, 0) else (0, 3)) := by
  unfold num_Add.f
  by_cases h : inr (a + b)
  · rw [if_pos h, wrap_in h]
    rw [if_neg (by by_cases hb0 : b > 0 <;> simp [hb0] <;> omega)]
  · rw [if_neg h]
    have : ¬ (b = 0) := by rintro rfl; simp at h; exact h ha
    rw [if_pos (by
      unfold inr at *
      by_cases hb0 : b > 0
      · have hw : wrap64 (a + b) = a + b - 18446744073709551616 := by unfold wrap64; omega
        simp [hb0, hw]; omega
      · have hw : wrap64 (a + b) = a + b + 18446744073709551616 := by unfold wrap64; omega
        simp [hb0, hw]; omega), if_neg this]
theorem sub_in {a b : Int} (ha : inr a) (hb : inr b) : ((decide (wrap64 (a - b) < a)) == (decide (b > 0))) = decide (inr (a - b)) := by
  by_cases h : inr (a - b)
  · rw [wrap_in h]
    by_cases hb0 : b > 0 <;> simp [hb0, h] <;> omega
  · have : ¬ (b = 0) := by rintro rfl; simp at h; exact h ha
    by_cases hb0 : b > 0
    · have hw : wrap64 (a - b) = a - b + 18446744073709551616 := by unfold inr wrap64 at *; omega
      simp [hb0, hw, h]; unfold inr at *; omega
    · have hw : wrap64 (a - b) = a - b - 18446744073709551616 := by unfold inr wrap64 at *; omega
      simp [hb0, hw, h]; unfold inr at *; omega
theorem sub_spec {a b : Int} (ha : inr a) (hb : inr b) : num_Sub.f a b = some (if inr (a - b) then (a - b, 0) else (0, 3)) := by
  unfold num_Sub.f
  have h2 := sub_in ha hb
  rw [bne, h2]
  by_cases h : inr (a - b)
  · rw [if_pos h, wrap_in h]; simp [h]
  · have : ¬ (b = 0) := by rintro rfl; simp at h; exact h ha
    simp [h, this]
theorem mul_spec {a b : Int} (ha : inr a) (hb : inr b) : num_Mul.f a b = some (if inr (a * b) then (a * b, 0) else (0, 3)) := by
  unfold num_Mul.f
  by_cases a0 : a = 0
  · subst a0
    have : inr (0 * b) := by simp [inr]
    rw [if_pos this]; simp [wrap64]
  · by_cases e : a = -1 ∧ b = -9223372036854775808
    · obtain ⟨rfl, rfl⟩ := e
      decide +kernel
    · have key := mul_key ha hb a0 e
      by_cases h : inr (a * b)
      · have k2 := key.2 h
        rw [if_pos h]
        have w1 := wrap_in h
        have e2 : ¬ (a = -9223372036854775808 ∧ b = -1) := by rintro ⟨rfl, rfl⟩; revert h; decide
        by_cases c1 : a = -9223372036854775808 <;> by_cases c2 : b = -1 <;> by_cases c3 : b = -9223372036854775808 <;> by_cases c4 : a = -1 <;> simp_all
      · have k2 : ¬ _ := fun x => h (key.1 x)
        rw [if_neg h]
        by_cases c1 : a = -9223372036854775808 <;> by_cases c2 : b = -1 <;> by_cases c3 : b = -9223372036854775808 <;> by_cases c4 : a = -1 <;> simp_all
theorem rmul_spec {a b : Int} (ha : inr a) (hb : inr b) (k : Nat) : klaxonref1_Mul.f (k + 2) a b = some (if inr (a * b) then (a * b, true) else (0, false)) := by
  unfold klaxonref1_Mul.f
  by_cases a0 : a = 0
  · subst a0
    have : inr (0 * b) := by simp [inr]
    rw [if_pos this, if_pos rfl]; simp [klaxonref1_Mul.j0]
  · rw [if_neg a0]
    by_cases b0 : b = 0
    · subst b0
      have : inr (a * 0) := by simp [inr]
      rw [if_pos this]; simp [klaxonref1_Mul.j0]
    · have hb0 : (b == 0) = false := by simp [b0]
      rw [hb0]
      simp only [klaxonref1_Mul.j0, klaxonref1_Mul.j1]
      by_cases e1 : a = -9223372036854775808 ∧ b = -1
      · obtain ⟨rfl, rfl⟩ := e1; decide +kernel
      · by_cases e2 : b = -9223372036854775808 ∧ a = -1
        · obtain ⟨rfl, rfl⟩ := e2; decide +kernel
        · have key := mul_key hb ha b0 (by rintro ⟨rfl, rfl⟩; exact e1 ⟨rfl, rfl⟩)
          rw [Int.mul_comm b a] at key
          have fin : (if (wrap64 (Int.tdiv (wrap64 (a * b)) b)) = a then (if (Int.tmod (wrap64 (a * b)) b) = 0 then (some (wrap64 (a * b), true)) else (some (0, false))) else (some ((0 : Int), false))) = some (if inr (a * b) then (a * b, true) else (0, false)) := by
            by_cases h : inr (a * b)
            · rw [if_pos (key.2 h), if_pos h, wrap_in h, if_pos (Int.mul_tmod_left a b)]
            · rw [if_neg (fun x => h (key.1 x)), if_neg h]
          by_cases c1 : a = -9223372036854775808 <;> by_cases c2 : b = -1 <;> by_cases c3 : b = -9223372036854775808 <;> by_cases c4 : a = -1 <;> simp_all
theorem radd_spec {a b : Int} (ha : inr a) (hb : inr b) : klaxonref1_Add.f a b = some (if inr (a + b) then (a + b, true) else (0, false)) := by
  unfold klaxonref1_Add.f
  by_cases h : inr (a + b)
  · rw [if_pos h, wrap_in h]
    unfold inr at *
    by_cases c1 : a > 0 <;> by_cases c2 : b > 0 <;> by_cases c3 : a < 0 <;> by_cases c4 : b < 0 <;> simp [c1, c2, c3, c4] <;> omega
  · rw [if_neg h]
    unfold inr at *
    by_cases c1 : a > 0
    · have c2 : b > 0 := by omega
      have hw : wrap64 (a + b) < 0 := by unfold wrap64; omega
      rw [if_pos c1, if_pos c2, if_pos hw]
    · have c3 : a < 0 := by omega
      have c4 : b < 0 := by omega
      have hw : wrap64 (a + b) ≥ 0 := by unfold wrap64; omega
      rw [if_neg c1, if_pos c3, if_pos c4, if_pos hw]


def Told (w : World) (e : Ending) (w' : World) : Prop := e = .returned (.bool true) ∧ Drawn0 w w'
theorem runs_true (k : Nat) : klaxonlaw1_NumRuns.f (k + 1) = some true := at_rounds klaxonlaw1_NumRuns.mono (k := 1) (by omega) (by decide +kernel)
theorem two_of (c : Prop) [Decidable c] (x : Int) (g : Option (Int × Int)) (h : g = some (if c then (x, 0) else (0, 3))) :
    ∃ s e, g = some (s, e) ∧ ((c ∧ s = x ∧ e = 0) ∨ (¬ c ∧ s = 0 ∧ e = 3)) := by
  by_cases hc : c
  · exact ⟨x, 0, by rw [h, if_pos hc], .inl ⟨hc, rfl, rfl⟩⟩
  · exact ⟨0, 3, by rw [h, if_neg hc], .inr ⟨hc, rfl, rfl⟩⟩
theorem ref_of (c : Prop) [Decidable c] (x : Int) (g : Option (Int × Bool)) (h : g = some (if c then (x, true) else (0, false))) :
    ∃ s e, g = some (s, e) ∧ ((c ∧ s = x ∧ e = true) ∨ (¬ c ∧ s = 0 ∧ e = false)) := by
  by_cases hc : c
  · exact ⟨x, true, by rw [h, if_pos hc], .inl ⟨hc, rfl, rfl⟩⟩
  · exact ⟨0, false, by rw [h, if_neg hc], .inr ⟨hc, rfl, rfl⟩⟩
set_option maxHeartbeats 4000000 in
set_option maxRecDepth 100000 in
theorem tells_any (a b : Int) (w : World) (ha : inr a) (hb : inr b) :
    Calls Try.prog 11 #[.int .i64 a, .int .i64 b] w (Told w) := by
  obtain ⟨s, e, A10, E10⟩ := two_of _ _ _ (add_spec ha hb)
  obtain ⟨d, f, A20, E20⟩ := two_of _ _ _ (sub_spec ha hb)
  obtain ⟨p, g, A30, E30⟩ := two_of _ _ _ (mul_spec ha hb)
  obtain ⟨x, ok, A40, E40⟩ := ref_of _ _ _ (radd_spec ha hb)
  obtain ⟨y, is, A50, E50⟩ := ref_of _ _ _ (rmul_spec ha hb 0)
  have A1 := Aside0.mk A10; have A2 := Aside0.mk A20; have A3 := Aside0.mk A30; have A4 := Aside0.mk A40; have A5 := Aside0.mk A50
  have E1 := Aside0.mk E10; have E2 := Aside0.mk E20; have E3 := Aside0.mk E30; have E4 := Aside0.mk E40; have E5 := Aside0.mk E50
  clear A10 A20 A30 A40 A50 E10 E20 E30 E40 E50
  obtain ⟨iN, I0, EI0⟩ : ∃ iN, (decide (wrap64 (a - b) < a) == decide (0 < b)) = iN ∧ ((inr (a - b) ∧ iN = true) ∨ (¬ inr (a - b) ∧ iN = false)) := by
    have h : (decide (wrap64 (a - b) < a) == decide (0 < b)) = decide (inr (a - b)) := sub_in ha hb
    by_cases hc : inr (a - b)
    · exact ⟨true, by rw [h, decide_eq_true hc], .inl ⟨hc, rfl⟩⟩
    · exact ⟨false, by rw [h, decide_eq_false hc], .inr ⟨hc, rfl⟩⟩
  have I := Aside0.mk I0
  have EI := Aside0.mk EI0
  have WA := Aside0.mk (fun h => wrap_in (x := a - b) h)
  have HA := Aside0.mk ha
  have HB := Aside0.mk hb
  have RT := Aside0.mk (runs_true 0)
  clear ha hb I0 EI0
  go_enter Try.func11, Try.ntmps11
  go_upto_if 63 with (first
    | (go_at_call 15; (with_reducible refine (num_Add.calls a b _ _ _ A1.out).mono ?_); rintro e w' ⟨rfl, ⟨nd, rfl⟩⟩)
    | (go_at_call 29; (with_reducible refine (num_Sub.calls a b _ _ _ A2.out).mono ?_); rintro e w' ⟨rfl, ⟨nd, rfl⟩⟩)
    | (go_at_call 30; (with_reducible refine (num_Mul.calls a b _ _ _ A3.out).mono ?_); rintro e w' ⟨rfl, ⟨nd, rfl⟩⟩)
    | (go_at_call 21; (with_reducible refine (klaxonref1_Add.calls a b _ _ _ A4.out).mono ?_); rintro e w' ⟨rfl, ⟨nd, rfl⟩⟩)
    | (go_at_call 31; (with_reducible refine (klaxonref1_Mul.calls _ a b _ _ _ A5.out).mono ?_); rintro e w' ⟨rfl, ⟨nd, rfl⟩⟩))
  rw [I.out]
  go_cut [15] (fun v15 wc => v15 = .int .i64 d ∧ Drawn0 w wc)
  case first =>
    rcases EI.out with ⟨hc, rfl⟩ | ⟨hc, rfl⟩ <;> rcases E2.out with ⟨h2, rfl, rfl⟩ | ⟨h2, rfl, rfl⟩
    all_goals first | exact absurd hc h2 | exact absurd h2 hc | skip
    · have W2 := Aside0.mk (WA.out hc)
      clear E2 hc h2
      go_wp2
      go_meet
      case rel => exact ⟨by rw [W2.out], by repeat (first | exact Drawn0.refl _ | apply Drawn0.step)⟩
    · clear E2 hc h2
      go_wp2
      go_meet
      case rel => exact ⟨rfl, by repeat (first | exact Drawn0.refl _ | apply Drawn0.step)⟩
  case rest =>
    obtain ⟨rfl, ⟨mc, rfl⟩⟩ := hcut
    go_upto_region 9 with (fail)
    go_cut [118] (fun v118 wc => v118 = .bool false ∧ Drawn0 w wc)
    case first =>
      have e1 := E1.out
      have eI := EI.out
      have e2 := E2.out
      have e3 := E3.out
      have e4 := E4.out
      have e5 := E5.out
      clear E1 E2 E3 E4 E5 A1 A2 A3 A4 A5 EI I
      rcases eI with ⟨hI, rfl⟩ | ⟨hI, rfl⟩ <;> rcases e1 with ⟨h1, rfl, rfl⟩ | ⟨h1, rfl, rfl⟩ <;> rcases e2 with ⟨h2, rfl, rfl⟩ | ⟨h2, rfl, rfl⟩ <;> rcases e3 with ⟨h3, rfl, rfl⟩ | ⟨h3, rfl, rfl⟩ <;> rcases e4 with ⟨h4, rfl, rfl⟩ | ⟨h4, rfl, rfl⟩ <;> rcases e5 with ⟨h5, rfl, rfl⟩ | ⟨h5, rfl, rfl⟩
      all_goals first | exact absurd hI h2 | exact absurd h2 hI | exact absurd h1 h4 | exact absurd h4 h1 | exact absurd h3 h5 | exact absurd h5 h3 | skip
      all_goals
        clear hI h1 h2 h3 h4 h5
        go_wp2
        go_meet
        case rel => exact ⟨rfl, by repeat (first | exact Drawn0.refl _ | apply Drawn0.step)⟩
    case rest =>
      obtain ⟨rfl, ⟨md, rfl⟩⟩ := hcut
      clear E1 E2 E3 E4 E5 A1 A2 A3 A4 A5 EI I WA HA HB
      by_cases b0 : b = 0
      · have D := Aside0.mk (show num_Div.f a b = some (0, 4) by unfold num_Div.f; rw [if_pos b0])
        have M := Aside0.mk (show num_Mod.f a b = some (0, 4) by unfold num_Mod.f; rw [if_pos b0])
        have T1 : (b == 0) = true := by simpa using b0
        clear b0
        go_wp2_with (first
          | (go_at_call 16; (with_reducible refine (num_Div.calls a b _ _ _ D.out).mono ?_); rintro e w' ⟨rfl, ⟨nd, rfl⟩⟩)
          | (go_at_call 17; (with_reducible refine (num_Mod.calls a b _ _ _ M.out).mono ?_); rintro e w' ⟨rfl, ⟨nd, rfl⟩⟩)
          | (go_at_call 3; (with_reducible refine (klaxonlaw1_NumRuns.calls 1 true _ RT.out).mono ?_); rintro e w' ⟨rfl, ⟨nd, rfl⟩⟩))
        go_ret
        exact ⟨rfl, by repeat (first | exact Drawn0.refl _ | apply Drawn0.step)⟩
      · have M := Aside0.mk (show num_Mod.f a b = some (Int.tmod a b, 0) by unfold num_Mod.f; rw [if_neg b0])
        have T1 : (b == 0) = false := by simpa using b0
        by_cases e : a = -9223372036854775808 ∧ b = -1
        · have D := Aside0.mk (show num_Div.f a b = some (0, 3) by unfold num_Div.f; rw [if_neg b0, if_pos e.1, if_pos e.2])
          have Mz : Int.tmod a b = 0 := by rw [e.1, e.2]; decide
          have M2 := Aside0.mk (show num_Mod.f a b = some (0, 0) by rw [M.out, Mz])
          have T2 : (a == -9223372036854775808) = true := by simpa using e.1
          have T3 : (b == -1) = true := by simpa using e.2
          clear b0 e Mz M
          go_wp2_with (first
            | (go_at_call 16; (with_reducible refine (num_Div.calls a b _ _ _ D.out).mono ?_); rintro e w' ⟨rfl, ⟨nd, rfl⟩⟩)
            | (go_at_call 17; (with_reducible refine (num_Mod.calls a b _ _ _ M2.out).mono ?_); rintro e w' ⟨rfl, ⟨nd, rfl⟩⟩)
            | (go_at_call 3; (with_reducible refine (klaxonlaw1_NumRuns.calls 1 true _ RT.out).mono ?_); rintro e w' ⟨rfl, ⟨nd, rfl⟩⟩))
          go_ret
          exact ⟨rfl, by repeat (first | exact Drawn0.refl _ | apply Drawn0.step)⟩
        · have D := Aside0.mk (show num_Div.f a b = some (wrap64 (Int.tdiv a b), 0) by
            unfold num_Div.f; rw [if_neg b0]
            by_cases c1 : a = -9223372036854775808
            · rw [if_pos c1, if_neg (fun c2 => e ⟨c1, c2⟩)]
            · rw [if_neg c1])
          by_cases c1 : a = -9223372036854775808
          · have T2 : (a == -9223372036854775808) = true := by simpa using c1
            have T3 : (b == -1) = false := by simpa using (fun c2 => e ⟨c1, c2⟩)
            clear e c1
            go_wp2_with (first
              | (go_at_call 16; (with_reducible refine (num_Div.calls a b _ _ _ D.out).mono ?_); rintro e w' ⟨rfl, ⟨nd, rfl⟩⟩)
              | (go_at_call 17; (with_reducible refine (num_Mod.calls a b _ _ _ M.out).mono ?_); rintro e w' ⟨rfl, ⟨nd, rfl⟩⟩)
              | (go_at_call 3; (with_reducible refine (klaxonlaw1_NumRuns.calls 1 true _ RT.out).mono ?_); rintro e w' ⟨rfl, ⟨nd, rfl⟩⟩))
            go_ret
            exact ⟨rfl, by repeat (first | exact Drawn0.refl _ | apply Drawn0.step)⟩
          · have T2 : (a == -9223372036854775808) = false := by simpa using c1
            clear e c1
            go_wp2_with (first
              | (go_at_call 16; (with_reducible refine (num_Div.calls a b _ _ _ D.out).mono ?_); rintro e w' ⟨rfl, ⟨nd, rfl⟩⟩)
              | (go_at_call 17; (with_reducible refine (num_Mod.calls a b _ _ _ M.out).mono ?_); rintro e w' ⟨rfl, ⟨nd, rfl⟩⟩)
              | (go_at_call 3; (with_reducible refine (klaxonlaw1_NumRuns.calls 1 true _ RT.out).mono ?_); rintro e w' ⟨rfl, ⟨nd, rfl⟩⟩))
            go_ret
            exact ⟨rfl, by repeat (first | exact Drawn0.refl _ | apply Drawn0.step)⟩
/-- What the row asks of the walk. -/
theorem tells_row (a b : Int) (w : World) (ha : (Lit.int .i64 a).wf = true) (hb : (Lit.int .i64 b).wf = true) :
    Calls Try.prog 11 #[.int .i64 a, .int .i64 b] w fun e w' => e = .returned (.bool true) ∧ Below w.heap.size w w' :=
  (tells_any a b w (wf_inr ha) (wf_inr hb)).mono fun _ _ h => ⟨h.1, h.2.below⟩
end Go.Proofs.Ytkppbflmlpabjaa.Tells
