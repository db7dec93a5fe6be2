/- NumRuns, a closed sentence, returns true: chapter 1's runs. No condition. -/
import Derived.Test.YtkppbflmlpabjaaPNumRunsx1
namespace Go.Proofs.Ytkppbflmlpabjaa.Pure
open Go.RowKit Go.Proofs.Ytkppbflmlpabjaa.PNumRuns Go.Proofs.YtkppbflmlpabjaaW.PrintWords Go.Proofs.YtkppbflmlpabjaaW.PrintLast

/-- YOURS: ∃ k, klaxonlaw1_NumRuns.f k  = some true
What it reaches (each with k first where it has rounds; `.mono`: more rounds tell the same; `.l0`, ..: its loops, with `.mono_l`): num_Add.f, num_Div.f, num_Mod.f, num_Up.f, klaxonlaw1_NumRuns.f -/
theorem NumRuns : klaxonlaw1_NumRuns.Pure := by
  exact ⟨5, by decide +kernel⟩

end Go.Proofs.Ytkppbflmlpabjaa.Pure
