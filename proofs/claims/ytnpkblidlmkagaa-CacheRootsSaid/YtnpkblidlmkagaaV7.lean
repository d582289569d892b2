/- An eighth of a turn, by the numbers. -/
import Derived.Test.YtnpkblidlmkagaaV4
set_option linter.unusedSimpArgs false
set_option linter.unusedVariables false
namespace Go.Proofs.Ytnpkblidlmkagaa
open Go.RowKit Fl

/-- An eighth of a turn, by the numbers. -/
theorem near88 : ∃ c, nearF 8 8 = some (c, c) ∧ c = (4604544271217802189, 13586195916631729237) := by
  refine ⟨_, ?_, rfl⟩
  unfold nearF
  kernel_rfl

end Go.Proofs.Ytnpkblidlmkagaa
