/- LifeRuns, a closed sentence, returns true: chapter 12 runs. No condition. -/
import Derived.Test.YtkppbflmlpabjaaMLifeRunsx1
namespace Go.Proofs.Ytkppbflmlpabjaa.Pure
open Go.RowKit Go.Proofs.Ytkppbflmlpabjaa.PLifeRuns Go.Proofs.YtkppbflmlpabjaaW.PrintWords Go.Proofs.YtkppbflmlpabjaaW.PrintLast

/-- YOURS: ∃ k, klaxonlaw12_LifeRuns.f k  = some true
What it reaches (each with k first where it has rounds; `.mono`: more rounds tell the same; `.l0`, ..: its loops, with `.mono_l`): life_most.f, life_least.f, life_Life_Next.f, life_Run.f, klaxonbook_Same_int.f, life_Turns.f, klaxonlaw12_LifeRuns.f -/
theorem LifeRuns : klaxonlaw12_LifeRuns.Pure := by
  exact ⟨60, by decide +kernel⟩

end Go.Proofs.Ytkppbflmlpabjaa.Pure
