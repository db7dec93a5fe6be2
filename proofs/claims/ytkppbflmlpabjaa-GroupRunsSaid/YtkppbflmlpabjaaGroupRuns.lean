/- GroupRuns, a closed sentence: its walk, this session's own, over the contracts of the group's methods. -/
import Derived.Test.YtkppbflmlpabjaaGrp
namespace Go.Proofs.Ytkppbflmlpabjaa.Grp
open Go.RowKit Go.Proofs.Ytkppbflmlpabjaa.PGroupRuns Go.Proofs.Ytkppbflmlpabjaa.Copy Go.Proofs.YtkppbflmlpabjaaW.PrintWords Go.Proofs.YtkppbflmlpabjaaW.PrintLast Go.Proofs.YtkppbflmlpabjaaW.PrintMore
set_option linter.unusedVariables false
set_option linter.unusedSimpArgs false
theorem GS.below {w w1 : World} {base gb : Nat} {g : G} (h : GS w base gb g) (hb : Below w.heap.size w w1) : GS w1 base gb g := by
  obtain ⟨h1, v, h2, h3⟩ := h
  exact ⟨h1, v, blk_below h2 hb, Kd.R_below h3 hb⟩
/-- A row of another element type is written: the group stays. -/
theorem GS.grown {w w1 : World} {base gb : Nat} {g : G} {α : Type} {d : Kd α} {e : Nat} {b : Nat} {ok : Nat → Prop} {v : Value} {xs : List α} (h : GS w base gb g) (hv : d.R e w b ok v xs) (hg : w.grownBy w1 v.ownBlock) (h1 : e ≠ 65) (h2 : e ≠ 9) : GS w1 base gb g := by
  obtain ⟨hgb, v9, hblk, hR⟩ := h
  refine ⟨hgb, v9, blk_grown hblk hg (Kd.R_ne hv hblk h1), Kd.R_grown2 hR rfl hg ?_⟩
  intro k hk hk9
  obtain ⟨i1, o1⟩ := Kd.R_own hv
  obtain ⟨i2, o2⟩ := Kd.R_own hR
  exact ne_types o1 o2 h2 k hk hk9.symm
/-- A row of the call's own texts can be read whatever becomes of the group's block. -/
theorem reads_R {w : World} {base b gb : Nat} {g : G} {A : Option Addr} {n c : Nat} {l : List ByteArray} {ok : Nat → Prop} (hG : GS w base gb g) (h : Kd.R Kd.string 9 w b ok (.slice A n c) l) : Reads w gb A l := by
  obtain ⟨_, v9, hblk, _⟩ := hG
  intro w' hg
  have hne := Kd.R_ne h hblk (by decide)
  have h2 := Kd.R_grown2 h rfl hg (fun k hk => by injection hk with hk; rw [← hk]; exact hne)
  obtain ⟨A', c', e, _, hC⟩ := Kd.R_reads h2
  injection e with ea _ _
  rw [ea]; exact hC
theorem reads_nil (w : World) (gb : Nat) : Reads w gb none [] := fun _ _ => ⟨rfl, by simp, fun h => by simp at h⟩
/-- Another row stays while the group's block is written. -/
theorem R_tick {w w1 : World} {base gb : Nat} {g : G} {α : Type} {d : Kd α} {e : Nat} {b : Nat} {ok : Nat → Prop} {v : Value} {xs : List α} (hG : GS w base gb g) (h : d.R e w b ok v xs) (hE : d.E = []) (hg : w.grownBy w1 (some gb)) (h1 : e ≠ 65) : d.R e w1 b ok v xs := by
  obtain ⟨_, v9, hblk, _⟩ := hG
  exact Kd.R_grown2 h hE hg (fun k hk => by injection hk with hk; rw [← hk]; exact Kd.R_ne h hblk h1)
theorem below_tick {w0 w w1 : World} {base gb : Nat} {g : G} (hG : GS w base gb g) (h : Below base w0 w) (hb : base ≤ w.heap.size) (hg : w.grownBy w1 (some gb)) : Below base w0 w1 :=
  h.grown hg hb (fun k hk => by injection hk with hk; rw [← hk]; exact hG.1)
theorem tick_to {base gb : Nat} {g g' : G} {t : Int} {al out : List ByteArray} {b : Bool} {w : World} {e : Ending} {w' : World} (h : TickPost base gb g t al w e w') (he : tickG g t al = (g', out, b)) :
    ∃ A c, e = .returned (.tuple #[.slice A out.length c, .bool b]) ∧ GS w' base gb g' ∧ Kd.R Kd.string 9 w' w.heap.size (fun _ => True) (.slice A out.length c) out ∧ w.grownBy w' (some gb) := by
  obtain ⟨v, h1, h2, h3, h4⟩ := h
  rw [he] at h1 h2 h3
  obtain ⟨A, c, rfl⟩ := Kd.R_slice h3
  exact ⟨A, c, h1, h2, h3, h4⟩
def sa : ByteArray := ⟨#[97]⟩
def alR (i : Nat) : List ByteArray := if i < 7 then [sa] else []
def stR : Nat → G
  | 0 => fresh 10 5 20
  | i + 1 => (tickG (stR i) (5 * (i : Int)) (alR i)).1
def atR : Nat → List Int
  | 0 => []
  | i + 1 => if (tickG (stR i) (5 * (i : Int)) (alR i)).2.2 = true then atR i ++ [5 * (i : Int)] else atR i
theorem atR_len (i : Nat) : (atR i).length ≤ i := by
  induction i with
  | zero => simp [atR]
  | succ i ih =>
    unfold atR
    split
    · rw [List.length_append]; simp; omega
    · omega
theorem infoI : (Try.prog.info? 3).map (fun i => (i.zero, i.size, i.bytes)) = some (some (.int .i64 0), 1, 8) := by kernel_rfl
set_option maxHeartbeats 8000000 in
set_option maxRecDepth 100000 in
theorem runs_walk (w : World) (hbd : ∀ i, i < 9 → Bd (stR i) (5 * (i : Int))) (hat : atR 9 = [10, 30, 35]) (hidle : (stR 9).busy = false) (hnew : group_Right.f 10 5 20 = some true)
    (kS : Nat) (hS : klaxonbook_Same_int.f kS [10, 30, 35] [10, 30, 35] = some true) :
    Calls Try.prog 14 #[] w fun e w' => e = .returned (.bool true) ∧ Below w.heap.size w w' := by
  have HBD := Aside0.mk hbd
  have HAT := Aside0.mk hat
  have HID := Aside0.mk hidle
  have HNEW := Aside0.mk hnew
  have HSAME := Aside0.mk hS
  clear hbd hat hidle hnew hS
  go_enter Try.func14, Try.ntmps14
  go_wp2_with (go_at_call 32; go_loud (refine (new_ok 10 5 20 _ HNEW.out).mono ?_); rintro e w1 ⟨gb, rfl, hG, hb⟩; have HG := Aside0.mk hG; have HB := Aside0.mk hb; clear hG hb)
  go_loopg [2, 3] 10 (fun kq v2 v3 w' => ∃ (i : Nat) (T : Int), v3 = .int .i64 T ∧ Aside0 (i ≤ 9 ∧ T = 5 * (i : Int) ∧ kq + i = 10) ∧ Aside0 (Kd.R (Kd.int .i64) 3 w' w.heap.size (fun _ => True) v2 (atR i)) ∧ Aside0 (GS w' w.heap.size gb (stR i)) ∧ Aside0 (Below w.heap.size w w'))
  case atStart => exact ⟨0, 0, rfl, ⟨by omega, by simp, by omega⟩, ⟨Kd.R_nil _ _ _ _ _⟩, HG, HB⟩
  case round =>
    clear HG HB
    obtain ⟨i, T, rfl, HI, HO, HG, HB⟩ := hrel
    have h0 : (0 : Int) ≤ T := by have := HI.out; omega
    have h1 : T ≤ 45 := by have := HI.out; omega
    obtain ⟨A2, c2, ev2⟩ := Kd.R_slice HO.out
    subst ev2
    have hlen := atR_len i
    have hlen9 : (atR i).length ≤ 9 := by have := HI.out; omega
    clear hlen
    by_cases hT : T ≤ 40
    · have d1 : decide (T ≤ 40) = true := decide_eq_true hT
      have HI9 := Aside0.mk (show i + 1 ≤ 9 by have := HI.out; omega)
      by_cases hS : 35 ≤ T
      · have d2 : decide (35 ≤ T) = true := decide_eq_true hS
        have HAL : alR i = [] := by unfold alR; rw [if_neg (by have := HI.out; omega)]
        have HALS := Aside0.mk HAL
        have HBD1 := Aside0.mk (HBD.out i (by have := HI.out; omega))
        have HTI := Aside0.mk (show T = 5 * (i : Int) from HI.out.2.1)
        have HTE0 : tickG (stR i) T [] = (stR (i + 1), (tickG (stR i) T []).2.1, (tickG (stR i) T []).2.2) := by
          have e1 : stR (i + 1) = (tickG (stR i) T []).1 := by rw [HTI.out, ← HAL]; rfl
          rw [e1]
        obtain ⟨out, hout⟩ : ∃ out, out = (tickG (stR i) T []).2.1 := ⟨_, rfl⟩
        have hat : atR (i + 1) = if (tickG (stR i) T []).2.2 = true then atR i ++ [T] else atR i := by
          rw [HTI.out, ← HAL]; rfl
        rw [← hout] at HTE0
        clear hout
        cases hb : (tickG (stR i) T []).2.2 with
        | true =>
          rw [hb] at HTE0 hat
          have HTE := Aside0.mk HTE0
          have HATI := Aside0.mk (hat.trans (if_pos rfl))
          clear hb HAL HALS hT hS HTE0 hat
          go_wp2_with (first
            | ((with_reducible refine gate_dst (N := 15) rfl ?_); go_loud (refine Kd.R_lit Kd.string wr.heap.size 9 ?hg (N := 15) ?hd (w0 := wr) (xs := [sa]) (inner := [.string sa]) (ok := fun _ => True) (okp := fun _ => True) ?hr ?hp (fun _ hk => hk) trivial (Below.refl _ _) (Nat.le_refl _) (by simp) ?_); (case hd => rfl); (case hg => rfl); (case hr => first | (go_simp; done) | (go_simp; rfl)); (case hp => exact (Reps.one (show Kd.M Kd.string _ _ _ sa [.string sa] from rfl) (Reps.none _ _))); intro v5 w5 ho hb hg_ hnew_; clear hg_ hnew_; obtain ⟨A5, c5, e5⟩ := Kd.R_slice ho; subst e5; have HO5 := Aside0.mk ho; have HB5 := Aside0.mk hb; clear ho hb; have HG5 := Aside0.mk (HG.out.below HB5.out); have HO25 := Aside0.mk (Kd.R_below HO.out HB5.out); have HB6 := Aside0.mk (below_then HB.out HB.out.size HB5.out); clear HG HO HB)
            | (go_at_call 33; go_loud (refine (tick w.heap.size gb (stR i) T [] none 0 _ HG5.out HB6.out.size (by rw [HTI.out]; exact HBD1.out) (by simp) (reads_nil _ gb) (by simp)).mono ?_); rintro e w6 htp; obtain ⟨A6, c6, rfl, hG6, hR6, hg6⟩ := tick_to htp HTE.out; have HG6 := Aside0.mk hG6; have HO6 := Aside0.mk (R_tick HG5.out HO25.out rfl hg6 (by decide)); have HB7 := Aside0.mk (below_tick HG5.out HB6.out HB6.out.size hg6); clear htp hG6 hR6 hg6 HG5 HO25 HB6)
            | ((with_reducible refine gate_builtin (b := .append) (xs := #[.tmp 26, .tmp 28]) rfl ?_); at_builtin; go_loud (refine Kd.R_append (Kd.int .i64) (w0 := w) w.heap.size rfl (.tmp 26) (.tmp 28) 27 3 (.int .i64 0) 8 rfl Try.underlying27 infoI rfl (show 0 < 1 from Nat.one_pos) (by omega) (.slice A2 (atR i).length c2) (atR i) T [.int .i64 T] (fun _ => True) (fun _ => False) rfl rfl ?aP (fun _ hk => hk.elim) ?aF ?aO ?aB ?aS ?aL ?_); (case aP => exact rfl); (case aB => exact HB7.out); (case aF => exact (fun _ _ => trivial)); (case aO => exact HO6.out); (case aS => exact HB7.out.size); (case aL => omega); intro v8 w8 ho hb hg hat; have HO8 := Aside0.mk ho; have HB8 := Aside0.mk hb; have HG8 := Aside0.mk (GS.grown HG6.out HO6.out hg (by decide) (by decide)); clear ho hb hg hat HO6 HB7 HG6))
          go_roundg (gk - 1)
          case measure => have := HI.out; omega
          case rel => exact ⟨i + 1, T + 5, rfl, ⟨HI9.out, by have := HI.out; omega, by have := HI.out; omega⟩, ⟨by rw [HATI.out]; exact HO8.out⟩, HG8, HB8⟩
        | false =>
          rw [hb] at HTE0 hat
          have HTE := Aside0.mk HTE0
          have HATI := Aside0.mk (hat.trans (if_neg (by decide)))
          clear hb HAL HALS hT hS HTE0 hat
          go_wp2_with (first
            | ((with_reducible refine gate_dst (N := 15) rfl ?_); go_loud (refine Kd.R_lit Kd.string wr.heap.size 9 ?hg (N := 15) ?hd (w0 := wr) (xs := [sa]) (inner := [.string sa]) (ok := fun _ => True) (okp := fun _ => True) ?hr ?hp (fun _ hk => hk) trivial (Below.refl _ _) (Nat.le_refl _) (by simp) ?_); (case hd => rfl); (case hg => rfl); (case hr => first | (go_simp; done) | (go_simp; rfl)); (case hp => exact (Reps.one (show Kd.M Kd.string _ _ _ sa [.string sa] from rfl) (Reps.none _ _))); intro v5 w5 ho hb hg_ hnew_; clear hg_ hnew_; obtain ⟨A5, c5, e5⟩ := Kd.R_slice ho; subst e5; have HO5 := Aside0.mk ho; have HB5 := Aside0.mk hb; clear ho hb; have HG5 := Aside0.mk (HG.out.below HB5.out); have HO25 := Aside0.mk (Kd.R_below HO.out HB5.out); have HB6 := Aside0.mk (below_then HB.out HB.out.size HB5.out); clear HG HO HB)
            | (go_at_call 33; go_loud (refine (tick w.heap.size gb (stR i) T [] none 0 _ HG5.out HB6.out.size (by rw [HTI.out]; exact HBD1.out) (by simp) (reads_nil _ gb) (by simp)).mono ?_); rintro e w6 htp; obtain ⟨A6, c6, rfl, hG6, hR6, hg6⟩ := tick_to htp HTE.out; have HG6 := Aside0.mk hG6; have HO6 := Aside0.mk (R_tick HG5.out HO25.out rfl hg6 (by decide)); have HB7 := Aside0.mk (below_tick HG5.out HB6.out HB6.out.size hg6); clear htp hG6 hR6 hg6 HG5 HO25 HB6))
          go_roundg (gk - 1)
          case measure => have := HI.out; omega
          case rel => exact ⟨i + 1, T + 5, rfl, ⟨HI9.out, by have := HI.out; omega, by have := HI.out; omega⟩, ⟨by rw [HATI.out]; exact HO6.out⟩, HG6, HB7⟩
      · have d2 : decide (35 ≤ T) = false := decide_eq_false hS
        have HAL : alR i = [sa] := by unfold alR; rw [if_pos (by have := HI.out; omega)]
        have HALS := Aside0.mk HAL
        have HBD1 := Aside0.mk (HBD.out i (by have := HI.out; omega))
        have HTI := Aside0.mk (show T = 5 * (i : Int) from HI.out.2.1)
        have HTE0 : tickG (stR i) T [sa] = (stR (i + 1), (tickG (stR i) T [sa]).2.1, (tickG (stR i) T [sa]).2.2) := by
          have e1 : stR (i + 1) = (tickG (stR i) T [sa]).1 := by rw [HTI.out, ← HAL]; rfl
          rw [e1]
        obtain ⟨out, hout⟩ : ∃ out, out = (tickG (stR i) T [sa]).2.1 := ⟨_, rfl⟩
        have hat : atR (i + 1) = if (tickG (stR i) T [sa]).2.2 = true then atR i ++ [T] else atR i := by
          rw [HTI.out, ← HAL]; rfl
        rw [← hout] at HTE0
        clear hout
        cases hb : (tickG (stR i) T [sa]).2.2 with
        | true =>
          rw [hb] at HTE0 hat
          have HTE := Aside0.mk HTE0
          have HATI := Aside0.mk (hat.trans (if_pos rfl))
          clear hb HAL HALS hT hS HTE0 hat
          go_wp2_with (first
            | ((with_reducible refine gate_dst (N := 15) rfl ?_); go_loud (refine Kd.R_lit Kd.string wr.heap.size 9 ?hg (N := 15) ?hd (w0 := wr) (xs := [sa]) (inner := [.string sa]) (ok := fun _ => True) (okp := fun _ => True) ?hr ?hp (fun _ hk => hk) trivial (Below.refl _ _) (Nat.le_refl _) (by simp) ?_); (case hd => rfl); (case hg => rfl); (case hr => first | (go_simp; done) | (go_simp; rfl)); (case hp => exact (Reps.one (show Kd.M Kd.string _ _ _ sa [.string sa] from rfl) (Reps.none _ _))); intro v5 w5 ho hb hg_ hnew_; clear hg_ hnew_; obtain ⟨A5, c5, e5⟩ := Kd.R_slice ho; subst e5; have HO5 := Aside0.mk ho; have HB5 := Aside0.mk hb; clear ho hb; have HG5 := Aside0.mk (HG.out.below HB5.out); have HO25 := Aside0.mk (Kd.R_below HO.out HB5.out); have HB6 := Aside0.mk (below_then HB.out HB.out.size HB5.out); clear HG HO HB)
            | (go_at_call 33; go_loud (refine (tick w.heap.size gb (stR i) T [sa] A5 c5 _ HG5.out HB6.out.size (by rw [HTI.out]; exact HBD1.out) (by simp) (reads_R HG5.out HO5.out) ((Kd.R_reads' HO5.out).2.1)).mono ?_); rintro e w6 htp; obtain ⟨A6, c6, rfl, hG6, hR6, hg6⟩ := tick_to htp HTE.out; have HG6 := Aside0.mk hG6; have HO6 := Aside0.mk (R_tick HG5.out HO25.out rfl hg6 (by decide)); have HB7 := Aside0.mk (below_tick HG5.out HB6.out HB6.out.size hg6); clear htp hG6 hR6 hg6 HG5 HO25 HB6)
            | ((with_reducible refine gate_builtin (b := .append) (xs := #[.tmp 26, .tmp 28]) rfl ?_); at_builtin; go_loud (refine Kd.R_append (Kd.int .i64) (w0 := w) w.heap.size rfl (.tmp 26) (.tmp 28) 27 3 (.int .i64 0) 8 rfl Try.underlying27 infoI rfl (show 0 < 1 from Nat.one_pos) (by omega) (.slice A2 (atR i).length c2) (atR i) T [.int .i64 T] (fun _ => True) (fun _ => False) rfl rfl ?aP (fun _ hk => hk.elim) ?aF ?aO ?aB ?aS ?aL ?_); (case aP => exact rfl); (case aB => exact HB7.out); (case aF => exact (fun _ _ => trivial)); (case aO => exact HO6.out); (case aS => exact HB7.out.size); (case aL => omega); intro v8 w8 ho hb hg hat; have HO8 := Aside0.mk ho; have HB8 := Aside0.mk hb; have HG8 := Aside0.mk (GS.grown HG6.out HO6.out hg (by decide) (by decide)); clear ho hb hg hat HO6 HB7 HG6))
          go_roundg (gk - 1)
          case measure => have := HI.out; omega
          case rel => exact ⟨i + 1, T + 5, rfl, ⟨HI9.out, by have := HI.out; omega, by have := HI.out; omega⟩, ⟨by rw [HATI.out]; exact HO8.out⟩, HG8, HB8⟩
        | false =>
          rw [hb] at HTE0 hat
          have HTE := Aside0.mk HTE0
          have HATI := Aside0.mk (hat.trans (if_neg (by decide)))
          clear hb HAL HALS hT hS HTE0 hat
          go_wp2_with (first
            | ((with_reducible refine gate_dst (N := 15) rfl ?_); go_loud (refine Kd.R_lit Kd.string wr.heap.size 9 ?hg (N := 15) ?hd (w0 := wr) (xs := [sa]) (inner := [.string sa]) (ok := fun _ => True) (okp := fun _ => True) ?hr ?hp (fun _ hk => hk) trivial (Below.refl _ _) (Nat.le_refl _) (by simp) ?_); (case hd => rfl); (case hg => rfl); (case hr => first | (go_simp; done) | (go_simp; rfl)); (case hp => exact (Reps.one (show Kd.M Kd.string _ _ _ sa [.string sa] from rfl) (Reps.none _ _))); intro v5 w5 ho hb hg_ hnew_; clear hg_ hnew_; obtain ⟨A5, c5, e5⟩ := Kd.R_slice ho; subst e5; have HO5 := Aside0.mk ho; have HB5 := Aside0.mk hb; clear ho hb; have HG5 := Aside0.mk (HG.out.below HB5.out); have HO25 := Aside0.mk (Kd.R_below HO.out HB5.out); have HB6 := Aside0.mk (below_then HB.out HB.out.size HB5.out); clear HG HO HB)
            | (go_at_call 33; go_loud (refine (tick w.heap.size gb (stR i) T [sa] A5 c5 _ HG5.out HB6.out.size (by rw [HTI.out]; exact HBD1.out) (by simp) (reads_R HG5.out HO5.out) ((Kd.R_reads' HO5.out).2.1)).mono ?_); rintro e w6 htp; obtain ⟨A6, c6, rfl, hG6, hR6, hg6⟩ := tick_to htp HTE.out; have HG6 := Aside0.mk hG6; have HO6 := Aside0.mk (R_tick HG5.out HO25.out rfl hg6 (by decide)); have HB7 := Aside0.mk (below_tick HG5.out HB6.out HB6.out.size hg6); clear htp hG6 hR6 hg6 HG5 HO25 HB6))
          go_roundg (gk - 1)
          case measure => have := HI.out; omega
          case rel => exact ⟨i + 1, T + 5, rfl, ⟨HI9.out, by have := HI.out; omega, by have := HI.out; omega⟩, ⟨by rw [HATI.out]; exact HO6.out⟩, HG6, HB7⟩
    · have d1 : decide (T ≤ 40) = false := decide_eq_false hT
      have i9 : i = 9 := by have := HI.out; omega
      subst i9
      have HO3 : Aside0 (Kd.R (Kd.int .i64) 3 wr w.heap.size (fun _ => True) (.slice A2 (atR 9).length c2) (atR 9)) := HO
      have e3 : (atR 9).length = 3 := by rw [HAT.out]; rfl
      rw [e3, HAT.out] at HO3
      rw [e3]
      have hGG := HG.out
      have IDLE : ∀ W, GS W w.heap.size gb (stR 9) → Calls Try.prog 34 #[.pointer (some ⟨gb, 0, none⟩)] W fun e w' => e = .returned (.bool true) ∧ Drawn0 W w' := by
        intro W hW
        obtain ⟨_, v, hblk, _⟩ := hW
        have := idle gb (stR 9) v W hblk
        rw [HID.out] at this
        exact this
      have NEXT : ∀ W, GS W w.heap.size gb (stR 9) → Calls Try.prog 35 #[.pointer (some ⟨gb, 0, none⟩)] W fun e w' => e = .returned (.int .i64 (-1)) ∧ Drawn0 W w' := by
        intro W hW
        obtain ⟨_, v, hblk, _⟩ := hW
        have := next_ gb (stR 9) v W hblk
        rw [HID.out] at this
        simpa using this
      have HIDLE := Aside0.mk IDLE
      have HNEXT := Aside0.mk NEXT
      clear IDLE NEXT hGG hT e3 HO hlen9
      go_wp2_with (first
        | ((with_reducible refine gate_dst (N := 31) rfl ?_); go_loud (refine Kd.R_lit (Kd.int .i64) wr.heap.size 3 ?hg (N := 31) ?hd (w0 := wr) (xs := [10, 30, 35]) (inner := [.int .i64 10, .int .i64 30, .int .i64 35]) (ok := fun _ => True) (okp := fun _ => True) ?hr ?hp (fun _ hk => hk) trivial (Below.refl _ _) (Nat.le_refl _) (by simp) ?_); (case hd => rfl); (case hg => rfl); (case hr => first | (go_simp; done) | (go_simp; rfl)); (case hp => exact (Reps.one (show Kd.M (Kd.int .i64) _ _ _ 10 [.int .i64 10] from rfl) (Reps.one (show Kd.M (Kd.int .i64) _ _ _ 30 [.int .i64 30] from rfl) (Reps.one (show Kd.M (Kd.int .i64) _ _ _ 35 [.int .i64 35] from rfl) (Reps.none _ _))))); intro v5 w5 ho hb hg_ hnew_; clear hg_ hnew_; obtain ⟨A5, c5, e5⟩ := Kd.R_slice ho; subst e5; have HO5 := Aside0.mk ho; have HB5 := Aside0.mk hb; clear ho hb; have HG5 := Aside0.mk (HG.out.below HB5.out); have HO25 := Aside0.mk (Kd.R_below HO3.out HB5.out); have HB6 := Aside0.mk (below_then HB.out HB.out.size HB5.out); clear HG HO3 HB)
        | (go_at_call 25; go_loud (refine (klaxonbook_Same_int.calls kS A2 c2 [10, 30, 35] A5 c5 [10, 30, 35] true w5 (Kd.R_reads' HO25.out).2.2 (Kd.R_reads' HO25.out).2.1 (Kd.R_reads' HO5.out).2.2 (Kd.R_reads' HO5.out).2.1 HSAME.out).mono ?_); rintro e w6 ⟨rfl, hd⟩; have HG6 := Aside0.mk (HG5.out.below hd.below); have HB7 := Aside0.mk (below_then HB6.out HB6.out.size hd.below); clear hd HG5 HB6 HO25 HO5)
        | (go_at_call 34; go_loud (refine (HIDLE.out _ HG6.out).mono ?_); rintro e w7 ⟨rfl, hd⟩; have HG7 := Aside0.mk (HG6.out.below hd.below); have HB8 := Aside0.mk (below_then HB7.out HB7.out.size hd.below); clear hd HG6 HB7)
        | (go_at_call 35; go_loud (refine (HNEXT.out _ HG7.out).mono ?_); rintro e w8 ⟨rfl, hd⟩; have HB9 := Aside0.mk (below_then HB8.out HB8.out.size hd.below); clear hd HG7 HB8))
      go_ret
      exact ⟨rfl, HB9.out⟩
def bdB (g : G) (t : Int) : Bool := decide (0 ≤ t) && decide (t ≤ 1000000) && decide (0 ≤ g.wt) && decide (g.wt ≤ 1000000) && decide (0 ≤ g.iv) && decide (g.iv ≤ 1000000) && decide (0 ≤ g.sn) && decide (g.sn ≤ 1000000)
theorem bd_of {g : G} {t : Int} (h : bdB g t = true) : Bd g t := by
  simp only [bdB, Bool.and_eq_true, decide_eq_true_eq] at h
  obtain ⟨⟨⟨⟨⟨⟨⟨a, b⟩, c⟩, d⟩, e⟩, f⟩, g⟩, h⟩ := h
  exact ⟨a, b, c, d, e, f, g, h⟩
theorem all_bd : ∀ i, i < 9 → bdB (stR i) (5 * (i : Int)) = true := by decide +kernel
theorem at9 : atR 9 = [10, 30, 35] := by decide +kernel
theorem idle9 : (stR 9).busy = false := by decide +kernel
theorem right0 : group_Right.f 10 5 20 = some true := by decide +kernel
theorem same0 : klaxonbook_Same_int.f 5 [10, 30, 35] [10, 30, 35] = some true := by decide +kernel
theorem runs_row (w : World) : Calls Try.prog 14 #[] w fun e w' => e = .returned (.bool true) ∧ Below w.heap.size w w' :=
  runs_walk w (fun i hi => bd_of (all_bd i hi)) at9 idle9 right0 5 same0
end Go.Proofs.Ytkppbflmlpabjaa.Grp
