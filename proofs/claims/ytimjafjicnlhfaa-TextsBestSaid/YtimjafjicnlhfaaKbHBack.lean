/- TextsBack: what is written is read again. Plain, and the walk joined. -/
import Derived.Test.YtimjafjicnlhfaaKbAx0
import Derived.Test.YtimjafjicnlhfaaKbAx13
import Derived.Test.YtimjafjicnlhfaaKbAx6
import Derived.Test.YtimjafjicnlhfaaKbHRead
import Derived.Test.YtimjafjicnlhfaaKbHWith
import Derived.Test.YtimjafjicnlhfaaKbHLivesI
namespace Go.Proofs.Ytimjafjicnlhfaa.A
open Go.RowKit Go.Proofs.YtimjafjicnlhfaaW.PrintWords Go.Proofs.YtimjafjicnlhfaaW.PrintLast Go.Proofs.YtimjafjicnlhfaaW.PrintMore
set_option linter.unusedVariables false
set_option linter.unusedSimpArgs false
theorem with_err (l : List ByteArray) (codec : Int) (hc : codec = 0 ∨ codec = 1) : (withP l codec).2 = 0 ∧ longP l = false ∨ withP l codec = (⟨#[]⟩, 3) ∧ longP l = true := by
  unfold withP
  rw [if_neg (by omega)]
  by_cases h1 : longP l = true
  · rw [if_pos h1]; exact .inr ⟨rfl, h1⟩
  · rw [if_neg h1]
    left
    refine ⟨?_, by simpa using h1⟩
    by_cases h2 : codec = 0
    · rw [if_pos h2]
    · rw [if_neg h2]
end Go.Proofs.Ytimjafjicnlhfaa.A
