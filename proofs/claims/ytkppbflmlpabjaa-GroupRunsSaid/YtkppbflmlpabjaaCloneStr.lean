/- slices.Clone at one element type: what comes back is a row of the call's own that reads as the list. This session's own walk. -/
import Derived.Test.YtkppbflmlpabjaaProg
import Derived.Test.YtkppbflmlpabjaaCopy
import Derived.WalkSpells
import Derived.Lib.LazyBuf
import Derived.WalkKit
import Derived.KernelRfl
import Derived.OwnWalk

namespace Go.Proofs.Ytkppbflmlpabjaa.CloneStr
open Go.RowKit Go.Proofs.Ytkppbflmlpabjaa.Copy Go.Proofs.YtkppbflmlpabjaaW.PrintWords Go.Proofs.YtkppbflmlpabjaaW.PrintLast Go.Proofs.YtkppbflmlpabjaaW.PrintMore

set_option linter.unusedVariables false
set_option linter.unusedSimpArgs false
theorem infoE : (Try.prog.info? 9).map (fun i => (i.zero, i.size, i.bytes)) = some (some (.string ⟨#[]⟩), 1, 16) := by kernel_rfl
set_option maxHeartbeats 8000000 in
set_option maxRecDepth 100000 in
theorem clone (A0 : Option Addr) (c0 : Nat) (l : List (ByteArray)) (w : World) (hr : Kd.C (Kd.string) w A0 l.length l) (hb : l.length * 16 ≤ 140737488355328) :
    Calls Try.prog 45 #[.slice A0 l.length c0] w fun e w' => ∃ v0_ : Value, e = .returned (v0_) ∧ Kd.R (Kd.string) 9 w' w.heap.size (fun _ => True) v0_ l ∧ Below w.heap.size w w' := by
  have HR := Aside0.mk hr
  rcases A0 with _ | ad
  · have hl : l = [] := by
      rcases Nat.eq_zero_or_pos l.length with h0 | h0
      · exact List.eq_nil_of_length_eq_zero h0
      · obtain ⟨ad, h, _⟩ := hr.2.2 h0
        cases h
    subst hl
    clear hr HR hb
    have hnil : ∀ w : World, (binOp .eql 58 (.slice none 0 c0) (.slice none 0 0)).run Try.prog w = .ok (.bool true) w := fun w => run_eql_slice_nil w 58 9 none 0 c0 Try.underlying58
    go_enter Try.func45, Try.ntmps45
    go_wp2
    go_ret
    exact ⟨_, rfl, Kd.R_nil _ _ _ _ _, by repeat (first | exact Below.refl _ _ | apply pw_below_drewN | apply below_drew1)⟩
  · have HB := Aside0.mk (Below.refl w.heap.size w)
    have hnil : ∀ w : World, (binOp .eql 58 (.slice (some ad) l.length c0) (.slice none 0 0)).run Try.prog w = .ok (.bool false) w := fun w => run_eql_slice_nil w 58 9 (some ad) _ c0 Try.underlying58
    have HL := Aside0.mk hb
    clear hr hb
    go_enter Try.func45, Try.ntmps45
    go_wp2_with (first
      | ((with_reducible refine gate_dst (N := 5) rfl ?_); (try (refine gate_guard (by rfl) ?_; dsimp only)); go_loud (refine Kd.R_lit (Kd.string) w.heap.size 9 ?hg (N := 5) ?hd (w0 := w) (xs := []) (inner := []) (ok := fun _ => True) (okp := fun _ => True) ?hr ?hp (fun _ hk => hk) trivial (Below.refl _ _) (Nat.le_refl _) (by simp) ?_); (case hd => rfl); (case hg => rfl); (case hr => first | (go_simp; done) | (go_simp; rfl)); (case hp => exact (Reps.none _ _)); intro v1 w1 ho hb hg_ hnew_; clear hg_ hnew_; have HO := Aside0.mk ho; have HB1 := Aside0.mk hb; clear ho hb)
      | ((with_reducible refine gate_builtin (b := .append) (xs := #[.tmp 5, .tmp 6]) rfl ?_); at_builtin; go_loud (refine Kd.R_append_rows (Kd.string) (Rr := (Kd.string).K w) (w0 := w) w.heap.size rfl (.tmp 5) (.tmp 6) 58 9 (.string ⟨#[]⟩) 16 rfl Try.underlying58 infoE rfl (show 0 < 1 by omega) (by omega) v1 [] l (some ad) l.length c0 (fun _ => True) (fun _ => False) rfl rfl ?aO ?aR (fun x cs hh => flat_string w _ _ _ x cs hh) (fun _ h => h.elim) ?aF ?aB ?aS ?aL ?_); (case aR => exact ReadsRow.imp_ HR.out HB1.out (fun _ _ hp => hp)); (case aB => exact HB1.out); (case aF => exact (fun _ _ => trivial)); (case aO => exact HO.out); (case aS => exact HB1.out.size); (case aL => have := HL.out; simp; omega); intro v2 w2 ho hb hg hat; have HO2 := Aside0.mk ho; have HB2 := Aside0.mk hb; clear ho hb hg hat HO HB1))
    go_ret
    exact ⟨_, rfl, by have h := HO2.out; rw [List.nil_append] at h; exact h, HB2.out⟩
end Go.Proofs.Ytkppbflmlpabjaa.CloneStr
