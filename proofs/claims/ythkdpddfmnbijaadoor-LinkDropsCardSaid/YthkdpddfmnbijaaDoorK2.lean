/- Layer 9 (link): a new link, bytes of commands, is a link right, by the program. No condition. -/
import Derived.Test.YthkdpddfmnbijaaDoorK1
namespace Go.Proofs.YthkdpddfmnbijaaDoor
set_option linter.unusedSimpArgs false
set_option linter.unusedVariables false
set_option maxHeartbeats 4000000
open Go Go.RowKit
set_option maxRecDepth 100000
theorem sub_nilC : Sub (vA (.slice none 0 0)) (slA cmdT []) := fun _ _ h => by
  rw [h.eq]; exact .of ⟨none, 0, 0, rfl, rfl, Nat.le_refl _, Nat.zero_le _, fun _ => rfl, fun h => absurd rfl h⟩
theorem sub_link {r s p : Int} {o : Bool} : Sub (aggA [I r, vA (.slice none 0 0), I s, I p, B o]) (linkA r [] s p o) := sub_agg (subl1 (Sub.refl _) (subl1 sub_nilC (subl1 (Sub.refl _) (subl1 (Sub.refl _) (subl1 (Sub.refl _) subl0)))))
def newL (room : Int) : AV := if 8 ≤ room ∧ room ≤ 48 then tupA [linkA room [] 0 0 false, I 0] else tupA [linkA 0 [] 0 0 false, I 4]
attribute [local irreducible] thenA inBlockA AW AL AO QY varO rowO rsA Opd OpdN vA gvA tupA aggA slA slcA ipA rpA EqK LnK IxK LdK FaK FdK
theorem f_linkNew (room : Int) : AP Tryd.prog tab0 27 [I room] (newL room) := by
  refine af_intro Tryd.func27 rfl (by decide) Tryd.ntmps27 rfl ?_
  repeat' (first
  | fail
  | refine s_y ?_
    | refine c_ ?_
    | (refine aw_if ?_ ?_ <;> intro hb <;> try (exfalso; first | assumption | omega | (simp only [or_self, and_self, not_true_eq_false, not_false_eq_true, or_false, false_or, and_false, false_and] at hb; done)))
    | refine s_call ?_ (c := by first | fail | fail)
    | refine s_op ?_ (hy := by first | fail | fail)
    | refine s_yg ?_
    | refine s_callg ?_ (c := by intro hk hk2; first | fail | fail)
    | refine s_opg ?_ (hy := by intro hk hk2; first | fail | fail)
    | refine s_skip ?_
    | ((first | refine w_alloc ?_ | refine w_box ?_) <;> intro bb)
    | ((first | refine w_emp ?_ | refine w_make ?_ | refine w_app ?_) <;> intro u hu1 hu2)
    | refine w_stv ?_ | refine w_str ?_ | refine w_cpr ?_ | refine w_cps ?_
    | refine al_last (by kernel_rfl) ?_
  | fail)
  · refine ⟨_, [], rs_, List.nil_sublist _, ?_, rfl⟩
    rw [newL, if_neg (by omega)]; exact sub_tup (subl1 sub_link (subl1 (Sub.refl _) subl0))
  · refine ⟨_, [], rs_, List.nil_sublist _, ?_, rfl⟩
    rw [newL, if_pos (by omega)]; exact sub_tup (subl1 sub_link (subl1 (Sub.refl _) subl0))
theorem f_ref09New (room : Int) : AP Tryd.prog tab0 28 [I room] (newL room) := by
  refine af_intro Tryd.func28 rfl (by decide) Tryd.ntmps28 rfl ?_
  repeat' (first
  | fail
  | refine s_y ?_
    | refine c_ ?_
    | (refine aw_if ?_ ?_ <;> intro hb <;> try (exfalso; first | assumption | omega | (simp only [or_self, and_self, not_true_eq_false, not_false_eq_true, or_false, false_or, and_false, false_and] at hb; done)))
    | refine s_call ?_ (c := by first | fail | fail)
    | refine s_op ?_ (hy := by first | fail | fail)
    | refine s_yg ?_
    | refine s_callg ?_ (c := by intro hk hk2; first | fail | fail)
    | refine s_opg ?_ (hy := by intro hk hk2; first | fail | fail)
    | refine s_skip ?_
    | ((first | refine w_alloc ?_ | refine w_box ?_) <;> intro bb)
    | ((first | refine w_emp ?_ | refine w_make ?_ | refine w_app ?_) <;> intro u hu1 hu2)
    | refine w_stv ?_ | refine w_str ?_ | refine w_cpr ?_ | refine w_cps ?_
    | refine al_last (by kernel_rfl) ?_
  | fail)
  · refine ⟨_, [], rs_, List.nil_sublist _, ?_, rfl⟩
    rw [newL, if_neg (by omega)]; exact sub_tup (subl1 sub_link (subl1 (Sub.refl _) subl0))
  · refine ⟨_, [], rs_, List.nil_sublist _, ?_, rfl⟩
    rw [newL, if_pos (by omega)]; exact sub_tup (subl1 sub_link (subl1 (Sub.refl _) subl0))
theorem f_linkBytes (l : List Cmd) (hl : l.length ≤ 100000) : AP Tryd.prog tab0 53 [slA cmdT l] (SA (bytesM l)) := by
  refine af_intro Tryd.func53 rfl (by decide) Tryd.ntmps53 rfl ?_
  repeat' (first
  | fail
  | refine s_y ?_
    | refine c_ ?_
    | (refine aw_if ?_ ?_ <;> intro hb <;> try (exfalso; first | assumption | omega | (simp only [or_self, and_self, not_true_eq_false, not_false_eq_true, or_false, false_or, and_false, false_and] at hb; done)))
    | refine s_call ?_ (c := by first | exact f_vtPut _ | exact f_ref05Put _ | exact f_vtIs _ | exact f_ref05Is _ | fail)
    | refine s_op ?_ (hy := by first | fail | fail)
    | refine s_yg ?_
    | refine s_callg ?_ (c := by intro hk hk2; first | exact f_vtPut _ | exact f_ref05Put _ | exact f_vtIs _ | exact f_ref05Is _ | fail)
    | refine s_opg ?_ (hy := by intro hk hk2; first | fail | fail)
    | refine s_skip ?_
    | ((first | refine w_alloc ?_ | refine w_box ?_) <;> intro bb)
    | ((first | refine w_emp ?_ | refine w_make ?_ | refine w_app ?_) <;> intro u hu1 hu2)
    | refine w_stv ?_ | refine w_str ?_ | refine w_cpr ?_ | refine w_cps ?_
    | refine al_last (by kernel_rfl) ?_
  | fail)
  refine aw_lf (fun k : Nat => [(3, SA (bytesM (l.take k))), (10, I k)]) (fun k => k ≤ l.length) (fun k => l.length - k) 0 (Nat.zero_le _) ?_
  rintro k i1
  have hle := costM_le (l.take k)
  rw [List.length_take, ← bytesM_len] at hle
  by_cases hlt : k < l.length
  · have hn := bytesM_snoc l k hlt
    have h8 : (putR' l[k]).1.length ≤ 8 := lenC_le l[k]
    repeat' (first
    | fail
    | refine s_y ?_
      | refine c_ ?_
      | (refine aw_if ?_ ?_ <;> intro hb <;> try (exfalso; first | assumption | omega | (simp only [or_self, and_self, not_true_eq_false, not_false_eq_true, or_false, false_or, and_false, false_and] at hb; done)))
      | refine s_call ?_ (c := by first | exact f_vtPut _ | exact f_ref05Put _ | exact f_vtIs _ | exact f_ref05Is _ | fail)
      | refine s_op ?_ (hy := by first | fail | fail)
      | refine s_yg ?_
      | refine s_callg ?_ (c := by intro hk hk2; first | exact f_vtPut _ | exact f_ref05Put _ | exact f_vtIs _ | exact f_ref05Is _ | fail)
      | refine s_opg ?_ (hy := by intro hk hk2; first | fail | fail)
      | refine s_skip ?_
      | ((first | refine w_alloc ?_ | refine w_box ?_) <;> intro bb)
      | ((first | refine w_emp ?_ | refine w_make ?_ | refine w_app ?_) <;> intro u hu1 hu2)
      | refine w_stv ?_ | refine w_str ?_ | refine w_cpr ?_ | refine w_cps ?_
      | refine al_last (by kernel_rfl) ?_
    | fail)
    exact ⟨k + 1, by omega, by omega, by rw [hn]; exact wx_, sl_⟩
  · repeat' (first
    | fail
    | refine s_y ?_
      | refine c_ ?_
      | (refine aw_if ?_ ?_ <;> intro hb <;> try (exfalso; first | assumption | omega | (simp only [or_self, and_self, not_true_eq_false, not_false_eq_true, or_false, false_or, and_false, false_and] at hb; done)))
      | refine s_call ?_ (c := by first | exact f_vtPut _ | exact f_ref05Put _ | exact f_vtIs _ | exact f_ref05Is _ | fail)
      | refine s_op ?_ (hy := by first | fail | fail)
      | refine s_yg ?_
      | refine s_callg ?_ (c := by intro hk hk2; first | exact f_vtPut _ | exact f_ref05Put _ | exact f_vtIs _ | exact f_ref05Is _ | fail)
      | refine s_opg ?_ (hy := by intro hk hk2; first | fail | fail)
      | refine s_skip ?_
      | ((first | refine w_alloc ?_ | refine w_box ?_) <;> intro bb)
      | ((first | refine w_emp ?_ | refine w_make ?_ | refine w_app ?_) <;> intro u hu1 hu2)
      | refine w_stv ?_ | refine w_str ?_ | refine w_cpr ?_ | refine w_cps ?_
      | refine al_last (by kernel_rfl) ?_
    | fail)
    exact ⟨_, [], rs_, List.nil_sublist _, Sub.eq (by rw [List.take_of_length_le (by omega)]), rfl⟩
theorem f_ref05Bytes (l : List Cmd) (hl : l.length ≤ 100000) : AP Tryd.prog tab0 44 [slA cmdT l] (SA (bytesM l)) := by
  refine af_intro Tryd.func44 rfl (by decide) Tryd.ntmps44 rfl ?_
  repeat' (first
  | fail
  | refine s_y ?_
    | refine c_ ?_
    | (refine aw_if ?_ ?_ <;> intro hb <;> try (exfalso; first | assumption | omega | (simp only [or_self, and_self, not_true_eq_false, not_false_eq_true, or_false, false_or, and_false, false_and] at hb; done)))
    | refine s_call ?_ (c := by first | exact f_vtPut _ | exact f_ref05Put _ | exact f_vtIs _ | exact f_ref05Is _ | fail)
    | refine s_op ?_ (hy := by first | fail | fail)
    | refine s_yg ?_
    | refine s_callg ?_ (c := by intro hk hk2; first | exact f_vtPut _ | exact f_ref05Put _ | exact f_vtIs _ | exact f_ref05Is _ | fail)
    | refine s_opg ?_ (hy := by intro hk hk2; first | fail | fail)
    | refine s_skip ?_
    | ((first | refine w_alloc ?_ | refine w_box ?_) <;> intro bb)
    | ((first | refine w_emp ?_ | refine w_make ?_ | refine w_app ?_) <;> intro u hu1 hu2)
    | refine w_stv ?_ | refine w_str ?_ | refine w_cpr ?_ | refine w_cps ?_
    | refine al_last (by kernel_rfl) ?_
  | fail)
  refine aw_lf (fun k : Nat => [(3, SA (bytesM (l.take k))), (4, I k)]) (fun k => k ≤ l.length) (fun k => l.length - k) 0 (Nat.zero_le _) ?_
  rintro k i1
  have hle := costM_le (l.take k)
  rw [List.length_take, ← bytesM_len] at hle
  by_cases hlt : k < l.length
  · have hn := bytesM_snoc l k hlt
    have h8 : (putR' l[k]).1.length ≤ 8 := lenC_le l[k]
    repeat' (first
    | fail
    | refine s_y ?_
      | refine c_ ?_
      | (refine aw_if ?_ ?_ <;> intro hb <;> try (exfalso; first | assumption | omega | (simp only [or_self, and_self, not_true_eq_false, not_false_eq_true, or_false, false_or, and_false, false_and] at hb; done)))
      | refine s_call ?_ (c := by first | exact f_vtPut _ | exact f_ref05Put _ | exact f_vtIs _ | exact f_ref05Is _ | fail)
      | refine s_op ?_ (hy := by first | fail | fail)
      | refine s_yg ?_
      | refine s_callg ?_ (c := by intro hk hk2; first | exact f_vtPut _ | exact f_ref05Put _ | exact f_vtIs _ | exact f_ref05Is _ | fail)
      | refine s_opg ?_ (hy := by intro hk hk2; first | fail | fail)
      | refine s_skip ?_
      | ((first | refine w_alloc ?_ | refine w_box ?_) <;> intro bb)
      | ((first | refine w_emp ?_ | refine w_make ?_ | refine w_app ?_) <;> intro u hu1 hu2)
      | refine w_stv ?_ | refine w_str ?_ | refine w_cpr ?_ | refine w_cps ?_
      | refine al_last (by kernel_rfl) ?_
    | fail)
    exact ⟨k + 1, by omega, by omega, by rw [hn]; exact wx_, sl_⟩
  · repeat' (first
    | fail
    | refine s_y ?_
      | refine c_ ?_
      | (refine aw_if ?_ ?_ <;> intro hb <;> try (exfalso; first | assumption | omega | (simp only [or_self, and_self, not_true_eq_false, not_false_eq_true, or_false, false_or, and_false, false_and] at hb; done)))
      | refine s_call ?_ (c := by first | exact f_vtPut _ | exact f_ref05Put _ | exact f_vtIs _ | exact f_ref05Is _ | fail)
      | refine s_op ?_ (hy := by first | fail | fail)
      | refine s_yg ?_
      | refine s_callg ?_ (c := by intro hk hk2; first | exact f_vtPut _ | exact f_ref05Put _ | exact f_vtIs _ | exact f_ref05Is _ | fail)
      | refine s_opg ?_ (hy := by intro hk hk2; first | fail | fail)
      | refine s_skip ?_
      | ((first | refine w_alloc ?_ | refine w_box ?_) <;> intro bb)
      | ((first | refine w_emp ?_ | refine w_make ?_ | refine w_app ?_) <;> intro u hu1 hu2)
      | refine w_stv ?_ | refine w_str ?_ | refine w_cpr ?_ | refine w_cps ?_
      | refine al_last (by kernel_rfl) ?_
    | fail)
    exact ⟨_, [], rs_, List.nil_sublist _, Sub.eq (by rw [List.take_of_length_le (by omega)]), rfl⟩
end Go.Proofs.YthkdpddfmnbijaaDoor
