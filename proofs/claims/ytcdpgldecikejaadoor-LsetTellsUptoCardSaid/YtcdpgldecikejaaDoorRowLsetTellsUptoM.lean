/- LsetTells, where what it reads is of bulk at most 1048576: it returns true; its tied card. Condition: that bulk. -/
import Derived.Test.YtcdpgldecikejaaDoorQF8
import Derived.Test.YtcdpgldecikejaaDoorRows
import Derived.Test.YtcdpgldecikejaaDoorCards
import Derived.Test.YtcdpgldecikejaaDoorTie
import Derived.WalkKit
import Derived.ProofKit
import Derived.OpenShut
import Derived.ShutString
import Derived.ChangeOld
import Derived.Below
import Derived.SizedLaws
import Derived.Carry
import Derived.LaidMore
import Derived.Lay
import Derived.SevenTiedAt
import Derived.Stop.Joined
import Derived.Deep.DeepHandedRow
import Derived.ChangeMaps5
namespace Go.Proofs.YtcdpgldecikejaaDoor.lsetTellsUpto
open Go.ChangeShapes Go.WideShapes Go.ChangeAt Go.RowKit
set_option linter.unusedVariables false
theorem own : ownKnob Tryd.prog.godebug = none := by kernel_rfl
theorem laidOut : laidOutB Tryd.prog = true := by kernel_rfl
set_option maxRecDepth 100000 in
theorem lifted (os : Os) (started : os.Started) (H : Type) (enc : TypeId × Value → H) (F : Stop.Interp) :
    ReturnsInHanded {} Tryd.checked os 6 .any ((Rows.OpenSpec.upto Rows.lsetTellsSpec).preRow enc Tryd.prog Tryd.f6 [] false Rows.lsetTellsUptoRow.laid) (((Rows.OpenSpec.upto Rows.lsetTellsSpec).at F).post enc Tryd.prog Tryd.f6 false true false false) := by
  refine returnsInHanded_of_row (C := Tryd.checked) (s := (Rows.OpenSpec.upto Rows.lsetTellsSpec)) own started (by kernel_rfl) Tryd.func6
    ⟨World.laidAll Tryd.prog os Rows.lsetTellsUptoRow.laid, fun _ _ => 0, ⟨#[], #[.slice none 0 0, .string ⟨#[]⟩, .slice none 0 0], []⟩, World.laidAll_os _ _ _, World.shaped_of_ZipB (by kernel_rfl) (by kernel_rfl), rfl, (Input.okWide_of_okWideB (by kernel_rfl)).2,
      ⟨⟨(OpenSpec.pre_some (k := Rows.uptoSmall) rfl _ _ _ _).2 ⟨[.nil, .lit (.string []), .nil], [], [], DataW.Whole_of_whole (x := ([.nil, .lit (.string []), .nil], [], [])) (fuel := 8) (by kernel_rfl), by kernel_rfl, by kernel_rfl⟩,
        by rw [MakeChecks.laidMetH_plain _ _ _ (by kernel_rfl)]; exact laidMet_laidAll _ (by kernel_rfl) (by kernel_rfl)⟩, sizedMet_of_sizedB (s := (Rows.OpenSpec.upto Rows.lsetTellsSpec).bare) (fuel := 8) (by kernel_rfl)⟩,
      by simp only [Assume.holds]; exact ⟨by simp, by simp, fun _ => Modest.zero, by simp, by simp⟩⟩ ?_
  intro W base args ds gs before hval0 hW _ hk hsz0 hL _ _
  have hval : ∀ (j : Nat) t v, Tryd.f6.params[j]? = some t → args[j]? = some v → Value.okWide Tryd.prog W .any base t v := hval0
  have hW' := hW
  obtain ⟨p, q, hA0, hV, rfl, hfz, hnd⟩ := hW
  have hA : DataW.TrodAll enc Tryd.prog W 0 (fun _ => true) true Tryd.f6.params.toList args.toList ds p := hA0
  rw [Tryd.params6] at hA hval
  obtain ⟨v0, vs0, d0, ds0, p0, q0, hargs, rfl, rfl, h0, r0⟩ := trodAll_cons hA
  obtain ⟨v1, vs1, d1, ds1, p1, q1, rfl, rfl, rfl, h1, r1⟩ := trodAll_cons r0
  obtain ⟨v2, vs2, d2, ds2, p2, q2, rfl, rfl, rfl, h2, r2⟩ := trodAll_cons r1
  obtain ⟨rfl, rfl, rfl⟩ := trodAll_nil r2
  obtain rfl : args = #[v0, v1, v2] := by cases args; simp_all
  obtain ⟨rfl, rfl⟩ := trodVars_none hV
  have lt0 : ∀ x ∈ p0, x.block < W.heap.size := by obtain ⟨m, hm⟩ := h0; exact DataW.trod_lt m _ _ _ hm
  obtain ⟨x0, ok0, hv0⟩ := Go.Ev.arg_at (n := 40) (t := (.sl (.pair .str .str))) (agg := false) (by kernel_rfl) (by kernel_rfl) (hval 0 24 v0 rfl rfl) h0
  have lt1 : ∀ x ∈ p1, x.block < W.heap.size := by obtain ⟨m, hm⟩ := h1; exact DataW.trod_lt m _ _ _ hm
  obtain ⟨x1, ok1, hv1⟩ := Go.Ev.arg_at (n := 40) (t := .str) (agg := false) (by kernel_rfl) (by kernel_rfl) (hval 1 9 v1 rfl rfl) h1
  have lt2 : ∀ x ∈ p2, x.block < W.heap.size := by obtain ⟨m, hm⟩ := h2; exact DataW.trod_lt m _ _ _ hm
  obtain ⟨x2, ok2, hv2⟩ := Go.Ev.arg_at (n := 40) (t := (.sl .str)) (agg := false) (by kernel_rfl) (by kernel_rfl) (hval 2 44 v2 rfl rfl) h2
  clear hA0 hval0 hsz0
  have hb : decide (Rows.uptoBulkAll [d0, d1, d2] ≤ 1048576) = true := hk Rows.uptoSmall rfl
  have hb := of_decide_eq_true hb
  have hx : x1.length ≤ 1048576 := by
    obtain ⟨z, hz1, hz2, _, _⟩ := Go.ChangeMaps.open_string Tryd.underlying9 (hval 1 9 v1 rfl rfl) h1
    obtain ⟨z', hz3, hz4⟩ := Go.Ev.VR.d_iff.1 hv1
    rw [hz1] at hz3
    cases hz3
    rw [hz2] at hb
    rw [← hz4]
    simp only [Rows.uptoBulkAll, Rows.uptoBulk] at hb
    omega
  obtain ⟨g, B1, hg, hrun⟩ := Dec.ltells_law x0 x1 x2 ok0 ok1 ok2 hx
  refine (Go.Ev.law_atC hg hrun W ⟨trivial, fun _ h => h.elim⟩ [v0, v1, v2] (by unfold Go.Ev.VRs; exact ⟨hv0, (by unfold Go.Ev.VRs; exact ⟨hv1, (by unfold Go.Ev.VRs; exact ⟨hv2, (by unfold Go.Ev.VRs; trivial)⟩)⟩)⟩)).mono fun e W' ⟨he, bel⟩ => ?_
  subst he
  exact ⟨_, rfl, _, _, _, [], _, [], hW', trodAll_mk1 (shut_bool Tryd.underlying4 _), (trodAll_cons_mk (Below.trod laidOut (by kernel_rfl) (of_decide_eq_true (by kernel_rfl)) h0 bel lt0) (trodAll_cons_mk (Below.trod laidOut (by kernel_rfl) (of_decide_eq_true (by kernel_rfl)) h1 bel lt1) (trodAll_cons_mk (Below.trod laidOut (by kernel_rfl) (of_decide_eq_true (by kernel_rfl)) h2 bel lt2) trodAll_mk0))), rfl, bel.frame _, fun h => by cases h⟩
theorem over : Rows.lsetTellsUptoRow.holds Tryd.pinned (Rows.OpenSpec.upto Rows.lsetTellsSpec) :=
  OpenClaim.holds_of_cond 6 Tryd.f6 rfl rfl rfl rfl rfl rfl rfl ⟨rfl, rfl, rfl, rfl, rfl⟩ rfl rfl rfl rfl rfl (by kernel_rfl) Tryd.func6 (by kernel_rfl)
    (of_decide_eq_true (by kernel_rfl)) (by unfold Func.isWrapper; first | (rw [if_pos (by decide +kernel)]; kernel_rfl) | (rw [if_neg (by decide +kernel)]; exact ⟨rfl, rfl⟩))
    (fun os started H enc _ F => by rw [OpenClaim.pre_eq_preRow]; exact lifted os started H enc F)
theorem w9 : Tryd.prog.wantsStandIn 9 = false := by kernel_rfl
theorem w24 : Tryd.prog.wantsStandIn 24 = false := by kernel_rfl
theorem w44 : Tryd.prog.wantsStandIn 44 = false := by kernel_rfl
theorem proved : Rows.LsetTellsUptoCardSaid :=
  Claim7.holds_tied_plain_at .later [] [.data, .pinned] true (true, "3f9ee12b7e065ccea552f4d7dad995e1276f920eb5da6a5f4ff0bc6b0a8ebe49") false over (fun _ h => by cases h) (by kernel_rfl) (fun _ h => by cases h) lsetTellsUpto_row_tie rfl ⟨rfl, rfl⟩ (by kernel_rfl) rfl
    (fun f fn hf hfn => by
      obtain rfl : f = 6 := Option.some.inj ((show Tryd.prog.funcNamed "klaxon/klaxonlaw2.LsetTells" = some 6 by kernel_rfl).symm.trans hf) |>.symm
      obtain rfl : fn = Tryd.f6 := (Option.some.inj (Tryd.func6.symm.trans hfn)).symm
      exact ⟨by kernel_rfl, fun j t ht => by
        rw [Tryd.params6] at ht
        match j with
        | 0 => exact (by simp at ht; subst ht; exact w24)
        | 1 => exact (by simp at ht; subst ht; exact w9)
        | 2 => exact (by simp at ht; subst ht; exact w44)
        | j + 3 => simp at ht⟩)
    (by kernel_rfl)
#print axioms proved
end Go.Proofs.YtcdpgldecikejaaDoor.lsetTellsUpto
namespace Go.Proofs.YtcdpgldecikejaaDoor
/-- The statement, under a short name, for the claim. -/
theorem lsetTellsUpto_holds : Rows.LsetTellsUptoCardSaid := lsetTellsUpto.proved
end Go.Proofs.YtcdpgldecikejaaDoor
