/- Layer 2 (wide): rows. No condition. -/
import Derived.Test.YtplabpjkkcillaaDoorW3
namespace Go.Proofs.YtplabpjkkcillaaDoor
set_option linter.unusedSimpArgs false
set_option linter.unusedVariables false
set_option linter.unusedSectionVars false
set_option maxHeartbeats 4000000
open Go Go.RowKit
variable {T0 : Gh} [TabS T0]
attribute [local irreducible] thenA inBlockA AW AL AO QY varO rowO rsA Opd OpdN vA gvA tupA aggA slA slcA ipA rpA EqK LnK IxK LdK FaK FdK
set_option maxRecDepth 100000

/-! ### rows -/
def rowM (l : List Int) : List Cell := l.flatMap cellsM
theorem rowM_len (l : List Int) : l.length ≤ (rowM l).length ∧ (rowM l).length ≤ 2 * l.length := by
  induction l with
  | nil => simp [rowM]
  | cons r l ih =>
    have := cellsM_len r
    simp only [rowM, List.flatMap_cons, List.length_append, List.length_cons] at ih ⊢
    omega
theorem rowM_snoc (l : List Int) (k : Nat) (h : k < l.length) : rowM (l.take (k + 1)) = rowM (l.take k) ++ cellsM l[k] := by
  rw [rowM, rowM, List.take_succ_eq_append_getElem h, List.flatMap_append]; simp only [List.flatMap_cons, List.flatMap_nil, List.append_nil]

end Go.Proofs.YtplabpjkkcillaaDoor
