/- ExprDeep: as deep as may be is read, one deeper is told: it returns true at every input; its tied card. Conditions: none. -/
import Derived.Test.YtnmakkgomplchaaGreatDoorRows
import Derived.Test.YtnmakkgomplchaaGreatDoorCards
import Derived.Test.YtnmakkgomplchaaGreatDoorTie
import Derived.Test.YtnmakkgomplchaaGreatDoorExprDeep
import Derived.Test.YtnmakkgomplchaaGreatDoorEvZn
import Derived.WalkKit
import Derived.ProofKit
import Derived.OpenShut
import Derived.ShutString
import Derived.ChangeOld
import Derived.Below
import Derived.SizedLaws
import Derived.Carry
import Derived.LaidMore
import Derived.Lay
import Derived.SevenTiedAt
import Derived.Stop.Joined
namespace Go.Proofs.YtnmakkgomplchaaGreatDoor.exprDeep
open Go.ChangeShapes Go.WideShapes Go.ChangeAt Go.RowKit
set_option linter.unusedVariables false
theorem own : ownKnob Tryz.prog.godebug = none := by kernel_rfl
theorem laidOut : laidOutB Tryz.prog = true := by kernel_rfl
set_option maxRecDepth 100000 in
theorem lifted (os : Os) (started : os.Started) (H : Type) (enc : TypeId × Value → H) :
    ReturnsInHanded {} Tryz.checked os 3 .any (fun w args => (Rows.exprDeepSpec.pre enc Tryz.prog Tryz.f3 [] false w args ∧ laidMetH Tryz.prog Rows.exprDeepRow.laid w) ∧ sizedMet enc Tryz.prog Tryz.f3 (OpenSpec.ofChange Rows.exprDeepSpec) false w args)
      (Rows.exprDeepSpec.post enc Tryz.prog Tryz.f3 false true false false) := by
  refine returnsInHanded_of_change_and (C := Tryz.checked) (X := fun w _ => laidMetH Tryz.prog Rows.exprDeepRow.laid w) (fun _ _ _ hh h => h.of_heap hh) own started (by kernel_rfl) Tryz.func3
    (ChangeSpec.witness_shaped (enc := enc) (C := Tryz.checked) (os := os) (X := fun w _ => laidMetH Tryz.prog Rows.exprDeepRow.laid w) false (World.laidAll Tryz.prog os Rows.exprDeepRow.laid) #[.int .i64 0, .bool false] 8 (World.laidAll_os _ _ _)
      (World.shaped_of_ZipB (by kernel_rfl) (by kernel_rfl)) (by kernel_rfl) (by kernel_rfl) (by kernel_rfl)
      (by rw [MakeChecks.laidMetH_plain _ _ _ (by kernel_rfl)]; exact laidMet_laidAll _ (by kernel_rfl) (by kernel_rfl))) ?_
  intro W base args ds gs before hval0 hW _ hsz0 hL _
  have hval : ∀ (j : Nat) t v, Tryz.f3.params[j]? = some t → args[j]? = some v → Value.okWide Tryz.prog W .any base t v := hval0
  have hW' := hW
  obtain ⟨p, q, hA0, hV, rfl, hfz, hnd⟩ := hW
  have hA : DataW.TrodAll enc Tryz.prog W 0 (fun _ => true) true Tryz.f3.params.toList args.toList ds p := hA0
  rw [Tryz.params3] at hA hval
  obtain ⟨v0, vs0, d0, ds0, p0, q0, hargs, rfl, rfl, h0, r0⟩ := trodAll_cons hA
  obtain ⟨v1, vs1, d1, ds1, p1, q1, rfl, rfl, rfl, h1, r1⟩ := trodAll_cons r0
  obtain ⟨rfl, rfl, rfl⟩ := trodAll_nil r1
  obtain rfl : args = #[v0, v1] := by cases args; simp_all
  obtain ⟨rfl, rfl⟩ := trodVars_none hV
  have lt0 : ∀ x ∈ p0, x.block < W.heap.size := by obtain ⟨m, hm⟩ := h0; exact DataW.trod_lt m _ _ _ hm
  obtain ⟨x0, ok0, hv0⟩ := Go.Ev.arg_at (n := 40) (t := (.int .i64)) (agg := false) (by kernel_rfl) (by kernel_rfl) (hval 0 3 v0 rfl rfl) h0
  have lt1 : ∀ x ∈ p1, x.block < W.heap.size := by obtain ⟨m, hm⟩ := h1; exact DataW.trod_lt m _ _ _ hm
  obtain ⟨x1, ok1, hv1⟩ := Go.Ev.arg_at (n := 40) (t := .bool) (agg := false) (by kernel_rfl) (by kernel_rfl) (hval 1 4 v1 rfl rfl) h1
  clear hA0 hval0 hsz0
  rw [MakeChecks.laidMetH_plain _ _ _ (by kernel_rfl)] at hL
  have hI : Go.Ev.StrconvInv Tryz.prog 4 5 W := ⟨Go.Ev.tabIs_of_reads EvS.gPow (t := 140) (e := 124) (n := 20) (by kernel_rfl) Tryz.underlying140 Tryz.underlying124 (by kernel_rfl) (by kernel_rfl) (Lib.laidMet.reads hL (List.mem_of_getElem? (show Rows.exprDeepRow.laid[2]? = some ("internal/strconv.uint64pow10", Lib.tabData .u64 Lib.pow10Tab) from by kernel_rfl))),
    Go.Ev.errVar_of_reads EvS.gSyn (t := 82) (by kernel_rfl) Tryz.underlying82 (Lib.laidMet.reads hL (List.mem_of_getElem? (show Rows.exprDeepRow.laid[5]? = some ("strconv.ErrSyntax", Rows.laid_strconv_ErrSyntax) from by kernel_rfl))),
    Go.Ev.errVar_of_reads EvS.gRan (t := 82) (by kernel_rfl) Tryz.underlying82 (Lib.laidMet.reads hL (List.mem_of_getElem? (show Rows.exprDeepRow.laid[4]? = some ("strconv.ErrRange", Rows.laid_strconv_ErrRange) from by kernel_rfl)))⟩
  obtain ⟨n, B1, S1, hS1, hrun⟩ := EvS.ExprDeep.law x0 x1
  refine (Go.Ev.law_at EvS.mixed hS1 hrun W ⟨hI, Go.Ev.StrconvInv.lt EvS.gPow hI⟩ [v0, v1] (by unfold Go.Ev.VRs; exact ⟨hv0, (by unfold Go.Ev.VRs; exact ⟨hv1, (by unfold Go.Ev.VRs; trivial)⟩)⟩)).mono fun e W' ⟨he, bel⟩ => ?_
  subst he
  exact ⟨_, rfl, _, _, _, [], _, [], hW', trodAll_mk1 (shut_bool Tryz.underlying4 _), (trodAll_cons_mk (Below.trod laidOut (by kernel_rfl) (of_decide_eq_true (by kernel_rfl)) h0 bel lt0) (trodAll_cons_mk (Below.trod laidOut (by kernel_rfl) (of_decide_eq_true (by kernel_rfl)) h1 bel lt1) trodAll_mk0)), rfl, bel.frame _, fun h => by cases h⟩
theorem over : Rows.exprDeepRow.holds Tryz.pinned (OpenSpec.ofChange Rows.exprDeepSpec) :=
  OpenClaim.holds_of_wide 3 Tryz.f3 rfl rfl rfl rfl rfl rfl rfl ⟨rfl, rfl, rfl, rfl, rfl⟩ rfl rfl rfl rfl rfl (by kernel_rfl) Tryz.func3 (by kernel_rfl)
    (of_decide_eq_true (by kernel_rfl)) (by unfold Func.isWrapper; first | (rw [if_pos (by decide +kernel)]; kernel_rfl) | (rw [if_neg (by decide +kernel)]; exact ⟨rfl, rfl⟩))
    (fun os started H enc _ => lifted os started H enc)
theorem w3 : Tryz.prog.wantsStandIn 3 = false := by kernel_rfl
theorem w4 : Tryz.prog.wantsStandIn 4 = false := by kernel_rfl
theorem proved : Rows.ExprDeepCardSaid :=
  Claim7.holds_tied_plain_at .later [] [.data, .data, .data, .data, .sentinel, .sentinel, .pinned] true (true, "2432b3469b366181df09b64872c74cbc5dd6c54482affc360b9f6f09adec88b0") true over (fun _ h => by cases h) (by kernel_rfl) (fun _ h => by cases h) exprDeep_row_tie rfl ⟨rfl, rfl⟩ (by kernel_rfl) rfl
    (fun f fn hf hfn => by
      obtain rfl : f = 3 := Option.some.inj ((show Tryz.prog.funcNamed "klaxon/klaxonlaw8.ExprDeep" = some 3 by kernel_rfl).symm.trans hf) |>.symm
      obtain rfl : fn = Tryz.f3 := (Option.some.inj (Tryz.func3.symm.trans hfn)).symm
      exact ⟨by kernel_rfl, fun j t ht => by
        rw [Tryz.params3] at ht
        match j with
        | 0 => exact (by simp at ht; subst ht; exact w3)
        | 1 => exact (by simp at ht; subst ht; exact w4)
        | j + 2 => simp at ht⟩)
    (by kernel_rfl)
#print axioms proved
end Go.Proofs.YtnmakkgomplchaaGreatDoor.exprDeep
namespace Go.Proofs.YtnmakkgomplchaaGreatDoor
/-- The statement, under a short name, for the claim. -/
theorem exprDeep_holds : Rows.ExprDeepCardSaid := exprDeep.proved
end Go.Proofs.YtnmakkgomplchaaGreatDoor
