/- RuleRuns, a closed sentence: it returns true; its tied card. Conditions: none. -/
import Derived.Test.YtmlmbjgnfobhcaaGreatDoorRows
import Derived.Test.YtmlmbjgnfobhcaaGreatDoorCards
import Derived.Test.YtmlmbjgnfobhcaaGreatDoorTie
import Derived.Test.YtmlmbjgnfobhcaaGreatDoorRuleRuns
import Derived.WalkKit
import Derived.ProofKit
import Derived.OpenShut
import Derived.ShutString
import Derived.ChangeOld
import Derived.Below
import Derived.SizedLaws
import Derived.LaidMore
import Derived.Lay
import Derived.SevenTiedAt
import Derived.Stop.Joined
namespace Go.Proofs.YtmlmbjgnfobhcaaGreatDoor.ruleRuns
open Go.ChangeShapes Go.WideShapes Go.ChangeAt Go.RowKit
set_option linter.unusedVariables false
theorem own : ownKnob Tryz.prog.godebug = none := by kernel_rfl
set_option maxRecDepth 100000 in
theorem lifted (os : Os) (started : os.Started) (H : Type) (enc : TypeId × Value → H) :
    ReturnsInHanded {} Tryz.checked os 5 .any (fun w args => (Rows.ruleRunsSpec.pre enc Tryz.prog Tryz.f5 [] false w args ∧ laidMetH Tryz.prog Rows.ruleRunsRow.laid w) ∧ sizedMet enc Tryz.prog Tryz.f5 (OpenSpec.ofChange Rows.ruleRunsSpec) false w args)
      (Rows.ruleRunsSpec.post enc Tryz.prog Tryz.f5 false true false false) := by
  refine returnsInHanded_of_change_and (C := Tryz.checked) (X := fun w _ => laidMetH Tryz.prog Rows.ruleRunsRow.laid w) (fun _ _ _ hh h => h.of_heap hh) own started (by kernel_rfl) Tryz.func5
    (ChangeSpec.witness_shaped (enc := enc) (C := Tryz.checked) (os := os) (X := fun w _ => laidMetH Tryz.prog Rows.ruleRunsRow.laid w) false (World.laidAll Tryz.prog os Rows.ruleRunsRow.laid) #[] 8 (World.laidAll_os _ _ _)
      (World.shaped_of_ZipB (by kernel_rfl) (by kernel_rfl)) (by kernel_rfl) (by kernel_rfl) (by kernel_rfl)
      (by rw [MakeChecks.laidMetH_plain _ _ _ (by kernel_rfl)]; exact laidMet_laidAll _ (by kernel_rfl) (by kernel_rfl))) ?_
  intro W base args ds gs before hval0 hW _ _ hL _
  have hval : ∀ (j : Nat) t v, Tryz.f5.params[j]? = some t → args[j]? = some v → Value.okWide Tryz.prog W .any base t v := hval0
  have hW' := hW
  obtain ⟨p, q, hA0, hV, rfl, hfz, hnd⟩ := hW
  have hA : DataW.TrodAll enc Tryz.prog W 0 (fun _ => true) true Tryz.f5.params.toList args.toList ds p := hA0
  rw [Tryz.params5] at hA hval
  obtain ⟨rfl, rfl, rfl⟩ := trodAll_none hA
  obtain ⟨rfl, rfl⟩ := trodVars_none hV
  clear hA0 hval0
  rw [MakeChecks.laidMetH_plain _ _ _ (by kernel_rfl)] at hL
  have hI : Go.Ev.StrconvInv Tryz.prog 4 5 W := ⟨Go.Ev.tabIs_of_reads EvS.gPow (t := 217) (e := 134) (n := 20) (by kernel_rfl) Tryz.underlying217 Tryz.underlying134 (by kernel_rfl) (by kernel_rfl) (Lib.laidMet.reads hL (List.mem_of_getElem? (show Rows.ruleRunsRow.laid[2]? = some ("internal/strconv.uint64pow10", Lib.tabData .u64 Lib.pow10Tab) from by kernel_rfl))),
    Go.Ev.errVar_of_reads EvS.gSyn (t := 108) (by kernel_rfl) Tryz.underlying108 (Lib.laidMet.reads hL (List.mem_of_getElem? (show Rows.ruleRunsRow.laid[5]? = some ("strconv.ErrSyntax", Rows.laid_strconv_ErrSyntax) from by kernel_rfl))),
    Go.Ev.errVar_of_reads EvS.gRan (t := 108) (by kernel_rfl) Tryz.underlying108 (Lib.laidMet.reads hL (List.mem_of_getElem? (show Rows.ruleRunsRow.laid[4]? = some ("strconv.ErrRange", Rows.laid_strconv_ErrRange) from by kernel_rfl)))⟩
  refine (EvS.rowRuleRuns W hI).mono fun e W' ⟨he, bel⟩ => ?_
  subst he
  exact ⟨_, rfl, _, _, _, [], _, [], hW', trodAll_mk1 (shut_bool Tryz.underlying4 _), trodAll_mk0, rfl, bel.frame _, fun h => by cases h⟩
theorem over : Rows.ruleRunsRow.holds Tryz.pinned (OpenSpec.ofChange Rows.ruleRunsSpec) :=
  OpenClaim.holds_of_wide 5 Tryz.f5 rfl rfl rfl rfl rfl rfl rfl ⟨rfl, rfl, rfl, rfl, rfl⟩ rfl rfl rfl rfl rfl (by kernel_rfl) Tryz.func5 (by kernel_rfl)
    (of_decide_eq_true (by kernel_rfl)) (by unfold Func.isWrapper; first | (rw [if_pos (by decide +kernel)]; kernel_rfl) | (rw [if_neg (by decide +kernel)]; exact ⟨rfl, rfl⟩))
    (fun os started H enc _ => lifted os started H enc)
theorem card : Rows.RuleRunsCardSaid :=
  Claim7.holds_tied_plain_at .later [] [.data, .data, .data, .data, .sentinel, .sentinel, .pinned] true (true, "51648bfbc82195dc01389758d6348afd059049d31f05d7deca0d881a1d4008c9") true over (fun _ h => by cases h) (by kernel_rfl) (fun _ h => by cases h) ruleRuns_row_tie rfl ⟨rfl, rfl⟩ (by kernel_rfl) rfl
    (fun f fn hf hfn => by
      obtain rfl : f = 5 := Option.some.inj ((show Tryz.prog.funcNamed "klaxon/klaxonlaw11.RuleRuns" = some 5 by kernel_rfl).symm.trans hf) |>.symm
      obtain rfl : fn = Tryz.f5 := (Option.some.inj (Tryz.func5.symm.trans hfn)).symm
      exact ⟨by kernel_rfl, fun j t ht => by
        rw [Tryz.params5] at ht
        simp at ht⟩)
    (by kernel_rfl)
#print axioms card
end Go.Proofs.YtmlmbjgnfobhcaaGreatDoor.ruleRuns
namespace Go.Proofs.YtmlmbjgnfobhcaaGreatDoor
/-- The card, under a short name, for the claim. -/
theorem ruleRuns_holds : Rows.RuleRunsCardSaid := ruleRuns.card
end Go.Proofs.YtmlmbjgnfobhcaaGreatDoor
