/- Layer 5 (vt): of two commands the bytes of the one begin those of the other one just if they are the same. No condition. -/
import Derived.Test.YthkdpddfmnbijaaDoorV9
namespace Go.Proofs.YthkdpddfmnbijaaDoor
set_option linter.unusedSimpArgs false
set_option linter.unusedVariables false
set_option maxHeartbeats 4000000
open Go Go.RowKit
set_option maxRecDepth 100000
theorem unlike {c d : Cmd} (hc : isCmd c = true) (hd : isCmd d = true) : c = d ↔ (bytesB d).take (bytesB c).length = bytesB c := by
  constructor
  · rintro rfl; exact List.take_length
  · intro h
    have e : bytesB c ++ (bytesB d).drop (bytesB c).length = bytesB d ++ [] := by
      rw [List.append_nil]
      conv => lhs; lhs; rw [← h]
      exact List.take_append_drop _ _
    exact (shape_sep (shape_of hc) (shape_of hd) e).1
attribute [local irreducible] thenA inBlockA AW AL AO QY varO rowO rsA Opd OpdN vA gvA tupA aggA slA slcA ipA rpA EqK LnK IxK LdK FaK FdK
theorem l_VtUnlike (c d : Cmd) : AP Tryd.prog tab0 5 [cmdA c, cmdA d] (B true) := by
  have hu := fun (h1 : isCmd c = true) (h2 : isCmd d = true) => unlike h1 h2
  have l1 : (putR' c).1 = if isCmd c = true then bytesB c else [] := by unfold putR'; split <;> rfl
  have c1 : AP Tryd.prog tab0 15 [cmdA c] (tupA [SA (putR' c).1, I (putR' c).2]) := f_vtPut c
  have c2 : AP Tryd.prog tab0 15 [cmdA d] (tupA [SA (putR' d).1, I (putR' d).2]) := f_vtPut d
  refine af_intro Tryd.func5 rfl (by decide) Tryd.ntmps5 rfl ?_
  repeat' (first
  | fail
  | refine s_y ?_
    | refine c_ ?_
    | (refine aw_if ?_ ?_ <;> intro hb <;> try (exfalso; first | assumption | omega))
    | refine s_call ?_ (c := by first | exact f_told | exact c1 | exact c2 | fail)
    | refine s_op ?_ (hy := by first | fail | fail)
    | refine s_yg ?_
    | refine s_callg ?_ (c := by intro hk hk2; first | exact f_told | exact c1 | exact c2 | fail)
    | refine s_opg ?_ (hy := by intro hk hk2; first | fail | fail)
    | refine s_skip ?_
    | ((first | refine w_alloc ?_ | refine w_box ?_) <;> intro bb)
    | ((first | refine w_emp ?_ | refine w_make ?_ | refine w_app ?_) <;> intro u hu1 hu2)
    | refine w_stv ?_ | refine w_str ?_ | refine w_cpr ?_ | refine w_cps ?_
    | refine al_last (by kernel_rfl) ?_
  | fail)
  · exact ⟨_, [], rs_, List.nil_sublist _, Sub.refl _, rfl⟩
  · refine ⟨_, [], rs_, List.nil_sublist _, Sub.eq (congrArg B ?_), rfl⟩
    have h1 : isCmd c = true := by
      have := hb.1.1; unfold putR' at this; split at this
      · assumption
      · simp at this
    have h2 : isCmd d = true := by
      have := hb.1.2; unfold putR' at this; split at this
      · assumption
      · simp at this
    have h3 := hu h1 h2
    simp only [putR', if_pos h1, if_pos h2]
    by_cases e : c = d
    · have e2 := h3.1 e
      simp [e] at e2 ⊢
    · have e2 : ¬ (bytesB d).take (bytesB c).length = bytesB c := fun x => e (h3.2 x)
      simp [e, e2]
end Go.Proofs.YthkdpddfmnbijaaDoor
