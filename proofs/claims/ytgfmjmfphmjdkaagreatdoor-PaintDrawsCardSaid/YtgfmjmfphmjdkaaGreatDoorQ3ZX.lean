/- Several texts in one: see the comment ahead of each. No condition. -/
import Derived.Test.YtgfmjmfphmjdkaaGreatDoorQ3ZV
/- Layer 5 (vt): waits, the references' costs, the example, the laws of Put and of costs. No condition. -/
namespace Go.Proofs.YtgfmjmfphmjdkaaGreatDoor
set_option linter.unusedSimpArgs false
set_option linter.unusedVariables false
set_option linter.unusedSectionVars false
set_option maxHeartbeats 4000000
section
open Go Go.RowKit
variable {T0 : Gh}
set_option maxRecDepth 100000
attribute [local irreducible] thenA inBlockA AW AL AO QY varO rowO rsA Opd OpdN vA gvA tupA aggA slA slcA ipA rpA EqK LnK IxK LdK FaK FdK
end
/- Layer 5 (vt): the laws of costs. No condition. -/
section
open Go Go.RowKit
variable {T0 : Gh}
set_option maxRecDepth 100000
attribute [local irreducible] thenA inBlockA AW AL AO QY varO rowO rsA Opd OpdN vA gvA tupA aggA slA slcA ipA rpA EqK LnK IxK LdK FaK FdK
theorem f_ref05Cost (l : List Cmd) (hl : l.length ≤ 100000) : AP Tryz.prog T0 111 [slA cmdT l] (I (costM l)) := by
  refine af_intro Tryz.func111 rfl (by decide) Tryz.ntmps111 rfl ?_
  repeat' (first
  | refine g7_ ?_ | (refine aw_if ?_ ?_ <;> intro hb <;> try exact no_) | (refine sx_ ?_ <;> intro bb) | (refine su_ ?_ <;> intro u hu1 hu2) | fail)
  refine aw_lf (fun k : Nat => [(3, I (costM (l.take k))), (4, I k)]) (fun k => k ≤ l.length) (fun k => l.length - k) 0 (Nat.zero_le _) ?_
  rintro k i1
  have hle := costM_le (l.take k)
  rw [List.length_take] at hle
  by_cases hlt : k < l.length
  · have hn := costM_snoc l k hlt
    have h8 : (putR' l[k]).1.length ≤ 8 := lenC_le l[k]
    repeat' (first
    | refine g7_ ?_ | (refine aw_if ?_ ?_ <;> intro hb <;> try exact no_) | (refine sx_ ?_ <;> intro bb) | (refine su_ ?_ <;> intro u hu1 hu2) | fail)
    exact ⟨k + 1, by omega, by omega, by rw [hn]; exact wx_, sl_⟩
  · repeat' (first
    | refine g7_ ?_ | (refine aw_if ?_ ?_ <;> intro hb <;> try exact no_) | (refine sx_ ?_ <;> intro bb) | (refine su_ ?_ <;> intro u hu1 hu2) | fail)
    exact ⟨_, [], rs_, List.nil_sublist _, Sub.eq (by rw [List.take_of_length_le (by omega)]), rfl⟩
end
end Go.Proofs.YtgfmjmfphmjdkaaGreatDoor
