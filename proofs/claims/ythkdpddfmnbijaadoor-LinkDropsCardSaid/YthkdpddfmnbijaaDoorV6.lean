/- Layer 5 (vt): the laws of costs. No condition. -/
import Derived.Test.YthkdpddfmnbijaaDoorV5
namespace Go.Proofs.YthkdpddfmnbijaaDoor
set_option linter.unusedSimpArgs false
set_option linter.unusedVariables false
set_option maxHeartbeats 4000000
open Go Go.RowKit
set_option maxRecDepth 100000
attribute [local irreducible] thenA inBlockA AW AL AO QY varO rowO rsA Opd OpdN vA gvA tupA aggA slA slcA ipA rpA EqK LnK IxK LdK FaK FdK
theorem f_ref05Cost (l : List Cmd) (hl : l.length ≤ 100000) : AP Tryd.prog tab0 21 [slA cmdT l] (I (costM l)) := by
  refine af_intro Tryd.func21 rfl (by decide) Tryd.ntmps21 rfl ?_
  repeat' (first
  | fail
  | refine s_y ?_
    | refine c_ ?_
    | (refine aw_if ?_ ?_ <;> intro hb <;> try (exfalso; first | assumption | omega))
    | refine s_call ?_ (c := by first | exact f_vtPut _ | exact f_ref05Put _ | exact f_vtIs _ | exact f_ref05Is _ | fail)
    | refine s_op ?_ (hy := by first | fail | fail)
    | refine s_yg ?_
    | refine s_callg ?_ (c := by intro hk hk2; first | exact f_vtPut _ | exact f_ref05Put _ | exact f_vtIs _ | exact f_ref05Is _ | fail)
    | refine s_opg ?_ (hy := by intro hk hk2; first | fail | fail)
    | refine s_skip ?_
    | ((first | refine w_alloc ?_ | refine w_box ?_) <;> intro bb)
    | ((first | refine w_emp ?_ | refine w_make ?_ | refine w_app ?_) <;> intro u hu1 hu2)
    | refine w_stv ?_ | refine w_str ?_ | refine w_cpr ?_ | refine w_cps ?_
    | refine al_last (by kernel_rfl) ?_
  | fail)
  refine aw_lf (fun k : Nat => [(3, I (costM (l.take k))), (4, I k)]) (fun k => k ≤ l.length) (fun k => l.length - k) 0 (Nat.zero_le _) ?_
  rintro k i1
  have hle := costM_le (l.take k)
  rw [List.length_take] at hle
  by_cases hlt : k < l.length
  · have hn := costM_snoc l k hlt
    have h8 : (putR' l[k]).1.length ≤ 8 := lenC_le l[k]
    repeat' (first
    | fail
    | refine s_y ?_
      | refine c_ ?_
      | (refine aw_if ?_ ?_ <;> intro hb <;> try (exfalso; first | assumption | omega))
      | refine s_call ?_ (c := by first | exact f_vtPut _ | exact f_ref05Put _ | exact f_vtIs _ | exact f_ref05Is _ | fail)
      | refine s_op ?_ (hy := by first | fail | fail)
      | refine s_yg ?_
      | refine s_callg ?_ (c := by intro hk hk2; first | exact f_vtPut _ | exact f_ref05Put _ | exact f_vtIs _ | exact f_ref05Is _ | fail)
      | refine s_opg ?_ (hy := by intro hk hk2; first | fail | fail)
      | refine s_skip ?_
      | ((first | refine w_alloc ?_ | refine w_box ?_) <;> intro bb)
      | ((first | refine w_emp ?_ | refine w_make ?_ | refine w_app ?_) <;> intro u hu1 hu2)
      | refine w_stv ?_ | refine w_str ?_ | refine w_cpr ?_ | refine w_cps ?_
      | refine al_last (by kernel_rfl) ?_
    | fail)
    exact ⟨k + 1, by omega, by omega, by rw [hn]; exact wx_, sl_⟩
  · repeat' (first
    | fail
    | refine s_y ?_
      | refine c_ ?_
      | (refine aw_if ?_ ?_ <;> intro hb <;> try (exfalso; first | assumption | omega))
      | refine s_call ?_ (c := by first | exact f_vtPut _ | exact f_ref05Put _ | exact f_vtIs _ | exact f_ref05Is _ | fail)
      | refine s_op ?_ (hy := by first | fail | fail)
      | refine s_yg ?_
      | refine s_callg ?_ (c := by intro hk hk2; first | exact f_vtPut _ | exact f_ref05Put _ | exact f_vtIs _ | exact f_ref05Is _ | fail)
      | refine s_opg ?_ (hy := by intro hk hk2; first | fail | fail)
      | refine s_skip ?_
      | ((first | refine w_alloc ?_ | refine w_box ?_) <;> intro bb)
      | ((first | refine w_emp ?_ | refine w_make ?_ | refine w_app ?_) <;> intro u hu1 hu2)
      | refine w_stv ?_ | refine w_str ?_ | refine w_cpr ?_ | refine w_cps ?_
      | refine al_last (by kernel_rfl) ?_
    | fail)
    exact ⟨_, [], rs_, List.nil_sublist _, Sub.eq (by rw [List.take_of_length_le (by omega)]), rfl⟩
theorem f_ref05Pads (l : List Cmd) (hl : l.length ≤ 100000) : AP Tryd.prog tab0 23 [slA cmdT l] (I (padsM l)) := by
  refine af_intro Tryd.func23 rfl (by decide) Tryd.ntmps23 rfl ?_
  repeat' (first
  | fail
  | refine s_y ?_
    | refine c_ ?_
    | (refine aw_if ?_ ?_ <;> intro hb <;> try (exfalso; first | assumption | omega))
    | refine s_call ?_ (c := by first | exact f_vtPut _ | exact f_ref05Put _ | exact f_vtIs _ | exact f_ref05Is _ | fail)
    | refine s_op ?_ (hy := by first | fail | fail)
    | refine s_yg ?_
    | refine s_callg ?_ (c := by intro hk hk2; first | exact f_vtPut _ | exact f_ref05Put _ | exact f_vtIs _ | exact f_ref05Is _ | fail)
    | refine s_opg ?_ (hy := by intro hk hk2; first | fail | fail)
    | refine s_skip ?_
    | ((first | refine w_alloc ?_ | refine w_box ?_) <;> intro bb)
    | ((first | refine w_emp ?_ | refine w_make ?_ | refine w_app ?_) <;> intro u hu1 hu2)
    | refine w_stv ?_ | refine w_str ?_ | refine w_cpr ?_ | refine w_cps ?_
    | refine al_last (by kernel_rfl) ?_
  | fail)
  refine aw_lf (fun k : Nat => [(3, I (padsM (l.take k))), (4, I k)]) (fun k => k ≤ l.length) (fun k => l.length - k) 0 (Nat.zero_le _) ?_
  rintro k i1
  have hle := padsM_le (l.take k)
  rw [List.length_take] at hle
  by_cases hlt : k < l.length
  · have hn := padsM_snoc l k hlt
    unfold padC at hn
    have hat : l[k]? = some l[k] := List.getElem?_eq_getElem hlt
    repeat' (first
    | fail
    | refine s_y ?_
      | refine c_ ?_
      | (refine aw_if ?_ ?_ <;> intro hb <;> try (exfalso; first | assumption | omega))
      | refine s_call ?_ (c := by first | exact f_vtPut _ | exact f_ref05Put _ | exact f_vtIs _ | exact f_ref05Is _ | fail)
      | refine s_op ?_ (hy := by first | fail | fail)
      | refine s_yg ?_
      | refine s_callg ?_ (c := by intro hk hk2; first | exact f_vtPut _ | exact f_ref05Put _ | exact f_vtIs _ | exact f_ref05Is _ | fail)
      | refine s_opg ?_ (hy := by intro hk hk2; first | fail | fail)
      | refine s_skip ?_
      | ((first | refine w_alloc ?_ | refine w_box ?_) <;> intro bb)
      | ((first | refine w_emp ?_ | refine w_make ?_ | refine w_app ?_) <;> intro u hu1 hu2)
      | refine w_stv ?_ | refine w_str ?_ | refine w_cpr ?_ | refine w_cps ?_
      | refine al_last (by kernel_rfl) ?_
    | fail)
    · have hn2 : ((padsM (l.take (k + 1)) : Nat) : Int) = (padsM (l.take k) : Nat) + l[k].1 - 6 := by
        obtain ⟨q1, q2⟩ := hb
        rw [if_pos q1] at hn
        rcases q2 with q2 | q2
        · rw [if_pos q2] at hn; omega
        · rw [if_neg (by omega), if_pos q2] at hn; omega
      exact ⟨k + 1, by omega, by omega, by rw [hn2]; exact wx_, sl_⟩
    · have hn2 : padsM (l.take (k + 1)) = padsM (l.take k) := by
        rcases hb with q1 | ⟨q1, q2⟩
        · rw [if_neg (by rw [q1]; decide)] at hn; exact hn
        · rw [hn, if_neg q1, if_neg q2]; simp
      exact ⟨k + 1, by omega, by omega, by rw [hn2]; exact wx_, sl_⟩
  · repeat' (first
    | fail
    | refine s_y ?_
      | refine c_ ?_
      | (refine aw_if ?_ ?_ <;> intro hb <;> try (exfalso; first | assumption | omega))
      | refine s_call ?_ (c := by first | exact f_vtPut _ | exact f_ref05Put _ | exact f_vtIs _ | exact f_ref05Is _ | fail)
      | refine s_op ?_ (hy := by first | fail | fail)
      | refine s_yg ?_
      | refine s_callg ?_ (c := by intro hk hk2; first | exact f_vtPut _ | exact f_ref05Put _ | exact f_vtIs _ | exact f_ref05Is _ | fail)
      | refine s_opg ?_ (hy := by intro hk hk2; first | fail | fail)
      | refine s_skip ?_
      | ((first | refine w_alloc ?_ | refine w_box ?_) <;> intro bb)
      | ((first | refine w_emp ?_ | refine w_make ?_ | refine w_app ?_) <;> intro u hu1 hu2)
      | refine w_stv ?_ | refine w_str ?_ | refine w_cpr ?_ | refine w_cps ?_
      | refine al_last (by kernel_rfl) ?_
    | fail)
    exact ⟨_, [], rs_, List.nil_sublist _, Sub.eq (by rw [List.take_of_length_le (by omega)]), rfl⟩
theorem l_VtCosts (l : List Cmd) : AP Tryd.prog tab0 4 [slA cmdT l] (B true) := by
  refine af_intro Tryd.func4 rfl (by decide) Tryd.ntmps4 rfl ?_
  repeat' (first
  | fail
  | refine s_y ?_
    | refine c_ ?_
    | (refine aw_if ?_ ?_ <;> intro hb <;> try (exfalso; first | assumption | omega))
    | refine s_call ?_ (c := by first | exact f_told | exact f_vtCost _ (by omega) | exact f_ref05Cost _ (by omega) | exact f_vtPads _ (by omega) | exact f_ref05Pads _ (by omega) | fail)
    | refine s_op ?_ (hy := by first | fail | fail)
    | refine s_yg ?_
    | refine s_callg ?_ (c := by intro hk hk2; first | exact f_told | exact f_vtCost _ (by omega) | exact f_ref05Cost _ (by omega) | exact f_vtPads _ (by omega) | exact f_ref05Pads _ (by omega) | fail)
    | refine s_opg ?_ (hy := by intro hk hk2; first | fail | fail)
    | refine s_skip ?_
    | ((first | refine w_alloc ?_ | refine w_box ?_) <;> intro bb)
    | ((first | refine w_emp ?_ | refine w_make ?_ | refine w_app ?_) <;> intro u hu1 hu2)
    | refine w_stv ?_ | refine w_str ?_ | refine w_cpr ?_ | refine w_cps ?_
    | refine al_last (by kernel_rfl) ?_
  | fail)
  refine ⟨_, [], rs_, List.nil_sublist _, Sub.eq (congrArg B ?_), rfl⟩
  simp
end Go.Proofs.YthkdpddfmnbijaaDoor
