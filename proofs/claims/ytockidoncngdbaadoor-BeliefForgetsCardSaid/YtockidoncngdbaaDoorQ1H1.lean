/- Layer 27 (belief), plainly: what the reference lays is what the program lays. No condition. -/
import Derived.Test.YtockidoncngdbaaDoorQ1B7
namespace Go.Proofs.YtockidoncngdbaaDoor
set_option linter.unusedSimpArgs false
set_option linter.unusedVariables false
set_option linter.unusedSectionVars false
set_option maxHeartbeats 4000000
open Go Go.RowKit
set_option maxRecDepth 100000
theorem up_ok {k a : Int} (hk : k = 3 ∨ k = 4 ∨ k = 5 ∨ k = 6) (ha : 1 ≤ a ∧ a ≤ 80) : isCmd (k, a, 0, 0) = true := by
  simp only [isCmd]
  rw [if_neg (by omega), if_neg (by omega), if_pos (by omega)]; simp; omega
end Go.Proofs.YtockidoncngdbaaDoor
