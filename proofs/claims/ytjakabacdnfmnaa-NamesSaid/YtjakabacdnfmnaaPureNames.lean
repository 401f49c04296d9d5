/- Names, pure: the constants have the document's numbers: the printed function answers true after forty rounds. A closed sentence. -/
import Derived.Test.YtjakabacdnfmnaaPNamesx2
namespace Go.Proofs.Ytjakabacdnfmnaa.Pure
open Go.RowKit Go.Proofs.Ytjakabacdnfmnaa.PNames Go.Proofs.YtjakabacdnfmnaaW.PrintWords Go.Proofs.YtjakabacdnfmnaaW.PrintLast

/-- YOURS: ∃ k, rostertop_Names.f k  = some true
What it reaches (each with k first where it has rounds; `.mono`: more rounds tell the same; `.l0`, ..: its loops, with `.mono_l`): rostertop_runs.f, rostertop_errnos.f, rostertop_namesOfErrors.f, rostertop_namesOfForms.f, rostertop_namesOfMessages.f, rostertop_Names.f -/
theorem Names : rostertop_Names.Pure := by
  exact ⟨40, by kernel_rfl⟩

end Go.Proofs.Ytjakabacdnfmnaa.Pure
