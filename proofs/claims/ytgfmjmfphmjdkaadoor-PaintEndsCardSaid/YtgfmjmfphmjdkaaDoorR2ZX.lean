/- Several texts in one: see the comment ahead of each. No condition. -/
import Derived.Test.YtgfmjmfphmjdkaaDoorR2ZV
/- Layer 5 (vt): waits, the references' costs, the example, the laws of Put and of costs. No condition. -/
namespace Go.Proofs.YtgfmjmfphmjdkaaDoor
set_option linter.unusedSimpArgs false
set_option linter.unusedVariables false
set_option linter.unusedSectionVars false
set_option maxHeartbeats 4000000
section
open Go Go.RowKit
variable {T0 : Gh}
set_option maxRecDepth 100000
attribute [local irreducible] thenA inBlockA AW AL AO QY varO rowO rsA Opd OpdN vA gvA tupA aggA slA slcA ipA rpA EqK LnK IxK LdK FaK FdK
theorem f_vtPads (l : List Cmd) (hl : l.length ≤ 100000) : AP Tryd.prog T0 11 [slA cmdT l] (I (padsM l)) := by
  refine af_intro Tryd.func11 rfl (by decide) Tryd.ntmps11 rfl ?_
  repeat' (first
  | refine g2_ ?_ | (refine aw_if ?_ ?_ <;> intro hb <;> try exact no_) | (refine sx_ ?_ <;> intro bb) | (refine su_ ?_ <;> intro u hu1 hu2) | fail)
  refine aw_lf (fun k : Nat => [(3, I (padsM (l.take k))), (8, I k)]) (fun k => k ≤ l.length) (fun k => l.length - k) 0 (Nat.zero_le _) ?_
  rintro k i1
  have hle := padsM_le (l.take k)
  rw [List.length_take] at hle
  by_cases hlt : k < l.length
  · have hn := padsM_snoc l k hlt
    unfold padC at hn
    repeat' (first
    | refine g2_ ?_ | (refine aw_if ?_ ?_ <;> intro hb <;> try exact no_) | (refine sx_ ?_ <;> intro bb) | (refine su_ ?_ <;> intro u hu1 hu2) | fail)
    · rw [if_neg (by rw [hb]; decide)] at hn
      exact ⟨k + 1, by omega, by omega, by rw [hn]; exact wx_, sl_⟩
    · rename_i e1; rw [if_pos e1, if_pos hb] at hn
      exact ⟨k + 1, by omega, by omega, by rw [hn]; exact wx_, sl_⟩
    · rename_i e1 e2; rw [if_pos e1, if_neg e2, if_pos hb] at hn
      exact ⟨k + 1, by omega, by omega, by rw [hn]; exact wx_, sl_⟩
    · rename_i e1 e2; rw [if_pos e1, if_neg e2, if_neg hb] at hn
      exact ⟨k + 1, by omega, by omega, by rw [hn]; exact wx_, sl_⟩
  · repeat' (first
    | refine g2_ ?_ | (refine aw_if ?_ ?_ <;> intro hb <;> try exact no_) | (refine sx_ ?_ <;> intro bb) | (refine su_ ?_ <;> intro u hu1 hu2) | fail)
    exact ⟨_, [], rs_, List.nil_sublist _, Sub.eq (by rw [List.take_of_length_le (by omega)]), rfl⟩
end
/- Layer 5 (vt): the laws of costs. No condition. -/
section
open Go Go.RowKit
variable {T0 : Gh}
set_option maxRecDepth 100000
attribute [local irreducible] thenA inBlockA AW AL AO QY varO rowO rsA Opd OpdN vA gvA tupA aggA slA slcA ipA rpA EqK LnK IxK LdK FaK FdK
end
end Go.Proofs.YtgfmjmfphmjdkaaDoor
