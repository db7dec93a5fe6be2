/- VecGroups: at every input it returns true; its tied card. No condition. -/
import Derived.Test.YtahdcmicifokgaaDoorQF7
import Derived.Test.YtahdcmicifokgaaDoorRows
import Derived.Test.YtahdcmicifokgaaDoorCards
import Derived.Test.YtahdcmicifokgaaDoorTie
import Derived.WalkKit
import Derived.ProofKit
import Derived.OpenShut
import Derived.ShutString
import Derived.ChangeOld
import Derived.Below
import Derived.SizedLaws
import Derived.Carry
import Derived.LaidMore
import Derived.Lay
import Derived.SevenTiedAt
import Derived.Stop.Joined
namespace Go.Proofs.YtahdcmicifokgaaDoor.vecGroups
open Go.ChangeShapes Go.WideShapes Go.ChangeAt Go.RowKit
set_option linter.unusedVariables false
theorem own : ownKnob Tryd.prog.godebug = none := by kernel_rfl
theorem laidOut : laidOutB Tryd.prog = true := by kernel_rfl
set_option maxRecDepth 100000 in
theorem lifted (os : Os) (started : os.Started) (H : Type) (enc : TypeId × Value → H) :
    ReturnsInHanded {} Tryd.checked os 4 .any (fun w args => (Rows.vecGroupsSpec.pre enc Tryd.prog Tryd.f4 [] false w args ∧ laidMetH Tryd.prog Rows.vecGroupsRow.laid w) ∧ sizedMet enc Tryd.prog Tryd.f4 (OpenSpec.ofChange Rows.vecGroupsSpec) false w args)
      (Rows.vecGroupsSpec.post enc Tryd.prog Tryd.f4 false true false false) := by
  refine returnsInHanded_of_change_and (C := Tryd.checked) (X := fun w _ => laidMetH Tryd.prog Rows.vecGroupsRow.laid w) (fun _ _ _ hh h => h.of_heap hh) own started (by kernel_rfl) Tryd.func4
    (ChangeSpec.witness_shaped (enc := enc) (C := Tryd.checked) (os := os) (X := fun w _ => laidMetH Tryd.prog Rows.vecGroupsRow.laid w) false (World.laidAll Tryd.prog os Rows.vecGroupsRow.laid) #[.agg #[.slice none 0 0, .slice none 0 0], .slice none 0 0] 8 (World.laidAll_os _ _ _)
      (World.shaped_of_ZipB (by kernel_rfl) (by kernel_rfl)) (by kernel_rfl) (by kernel_rfl) (by kernel_rfl)
      (by rw [MakeChecks.laidMetH_plain _ _ _ (by kernel_rfl)]; exact laidMet_laidAll _ (by kernel_rfl) (by kernel_rfl))) ?_
  intro W base args ds gs before hval0 hW _ hsz0 hL _
  have hval : ∀ (j : Nat) t v, Tryd.f4.params[j]? = some t → args[j]? = some v → Value.okWide Tryd.prog W .any base t v := hval0
  have hW' := hW
  obtain ⟨p, q, hA0, hV, rfl, hfz, hnd⟩ := hW
  have hA : DataW.TrodAll enc Tryd.prog W 0 (fun _ => true) true Tryd.f4.params.toList args.toList ds p := hA0
  rw [Tryd.params4] at hA hval
  obtain ⟨v0, vs0, d0, ds0, p0, q0, hargs, rfl, rfl, h0, r0⟩ := trodAll_cons hA
  obtain ⟨v1, vs1, d1, ds1, p1, q1, rfl, rfl, rfl, h1, r1⟩ := trodAll_cons r0
  obtain ⟨rfl, rfl, rfl⟩ := trodAll_nil r1
  obtain rfl : args = #[v0, v1] := by cases args; simp_all
  obtain ⟨rfl, rfl⟩ := trodVars_none hV
  have lt0 : ∀ x ∈ p0, x.block < W.heap.size := by obtain ⟨m, hm⟩ := h0; exact DataW.trod_lt m _ _ _ hm
  obtain ⟨x0, ok0, hv0⟩ := Go.Ev.arg_at (n := 40) (t := (.pair (.sl (.pair (.sl (.int .i64)) (.sl (.int .i64)))) (.sl (.int .i64)))) (agg := true) (by kernel_rfl) (by kernel_rfl) (hval 0 47 v0 rfl rfl) h0
  have lt1 : ∀ x ∈ p1, x.block < W.heap.size := by obtain ⟨m, hm⟩ := h1; exact DataW.trod_lt m _ _ _ hm
  obtain ⟨x1, ok1, hv1⟩ := Go.Ev.arg_at (n := 40) (t := (.sl .str)) (agg := false) (by kernel_rfl) (by kernel_rfl) (hval 1 38 v1 rfl rfl) h1
  clear hA0 hval0 hsz0
  obtain ⟨g, B1, hg, hrun⟩ := Dec.vgroups_law x0 x1
  refine (Go.Ev.law_atC hg hrun W ⟨trivial, fun _ h => h.elim⟩ [v0, v1] (by unfold Go.Ev.VRs; exact ⟨hv0, (by unfold Go.Ev.VRs; exact ⟨hv1, (by unfold Go.Ev.VRs; trivial)⟩)⟩)).mono fun e W' ⟨he, bel⟩ => ?_
  subst he
  exact ⟨_, rfl, _, _, _, [], _, [], hW', trodAll_mk1 (shut_bool Tryd.underlying4 _), (trodAll_cons_mk (Below.trod laidOut (by kernel_rfl) (of_decide_eq_true (by kernel_rfl)) h0 bel lt0) (trodAll_cons_mk (Below.trod laidOut (by kernel_rfl) (of_decide_eq_true (by kernel_rfl)) h1 bel lt1) trodAll_mk0)), rfl, bel.frame _, fun h => by cases h⟩
theorem over : Rows.vecGroupsRow.holds Tryd.pinned (OpenSpec.ofChange Rows.vecGroupsSpec) :=
  OpenClaim.holds_of_wide 4 Tryd.f4 rfl rfl rfl rfl rfl rfl rfl ⟨rfl, rfl, rfl, rfl, rfl⟩ rfl rfl rfl rfl rfl (by kernel_rfl) Tryd.func4 (by kernel_rfl)
    (of_decide_eq_true (by kernel_rfl)) (by unfold Func.isWrapper; first | (rw [if_pos (by decide +kernel)]; kernel_rfl) | (rw [if_neg (by decide +kernel)]; exact ⟨rfl, rfl⟩))
    (fun os started H enc _ => lifted os started H enc)
theorem w38 : Tryd.prog.wantsStandIn 38 = false := by kernel_rfl
theorem w47 : Tryd.prog.wantsStandIn 47 = false := by kernel_rfl
theorem proved : Rows.VecGroupsCardSaid :=
  Claim7.holds_tied_plain_at .later [] [.data, .pinned] true (true, "df3c8101d6b22ae2d139e69a10525c8fb80548a755a4032d0abd006a6361bcea") false over (fun _ h => by cases h) (by kernel_rfl) (fun _ h => by cases h) vecGroups_row_tie rfl ⟨rfl, rfl⟩ (by kernel_rfl) rfl
    (fun f fn hf hfn => by
      obtain rfl : f = 4 := Option.some.inj ((show Tryd.prog.funcNamed "klaxon/klaxonlaw9.VecGroups" = some 4 by kernel_rfl).symm.trans hf) |>.symm
      obtain rfl : fn = Tryd.f4 := (Option.some.inj (Tryd.func4.symm.trans hfn)).symm
      exact ⟨by kernel_rfl, fun j t ht => by
        rw [Tryd.params4] at ht
        match j with
        | 0 => exact (by simp at ht; subst ht; exact w47)
        | 1 => exact (by simp at ht; subst ht; exact w38)
        | j + 2 => simp at ht⟩)
    (by kernel_rfl)
#print axioms proved
end Go.Proofs.YtahdcmicifokgaaDoor.vecGroups
namespace Go.Proofs.YtahdcmicifokgaaDoor
/-- The statement, under a short name, for the claim. -/
theorem vecGroups_holds : Rows.VecGroupsCardSaid := vecGroups.proved
end Go.Proofs.YtahdcmicifokgaaDoor
