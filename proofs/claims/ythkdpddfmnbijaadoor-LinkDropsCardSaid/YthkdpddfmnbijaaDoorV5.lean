/- Layer 5 (vt): waits, the references' costs, the example, the laws of Put and of costs. No condition. -/
import Derived.Test.YthkdpddfmnbijaaDoorV4
namespace Go.Proofs.YthkdpddfmnbijaaDoor
set_option linter.unusedSimpArgs false
set_option linter.unusedVariables false
set_option maxHeartbeats 4000000
open Go Go.RowKit
set_option maxRecDepth 100000
attribute [local irreducible] thenA inBlockA AW AL AO QY varO rowO rsA Opd OpdN vA gvA tupA aggA slA slcA ipA rpA EqK LnK IxK LdK FaK FdK
theorem f_vtPads (l : List Cmd) (hl : l.length ≤ 100000) : AP Tryd.prog tab0 22 [slA cmdT l] (I (padsM l)) := by
  refine af_intro Tryd.func22 rfl (by decide) Tryd.ntmps22 rfl ?_
  repeat' (first
  | fail
  | refine s_y ?_
    | refine c_ ?_
    | (refine aw_if ?_ ?_ <;> intro hb <;> try (exfalso; first | assumption | omega))
    | refine s_call ?_ (c := by first | exact f_vtPut _ | exact f_ref05Put _ | exact f_vtIs _ | exact f_ref05Is _ | fail)
    | refine s_op ?_ (hy := by first | fail | fail)
    | refine s_yg ?_
    | refine s_callg ?_ (c := by intro hk hk2; first | exact f_vtPut _ | exact f_ref05Put _ | exact f_vtIs _ | exact f_ref05Is _ | fail)
    | refine s_opg ?_ (hy := by intro hk hk2; first | fail | fail)
    | refine s_skip ?_
    | ((first | refine w_alloc ?_ | refine w_box ?_) <;> intro bb)
    | ((first | refine w_emp ?_ | refine w_make ?_ | refine w_app ?_) <;> intro u hu1 hu2)
    | refine w_stv ?_ | refine w_str ?_ | refine w_cpr ?_ | refine w_cps ?_
    | refine al_last (by kernel_rfl) ?_
  | fail)
  refine aw_lf (fun k : Nat => [(3, I (padsM (l.take k))), (8, I k)]) (fun k => k ≤ l.length) (fun k => l.length - k) 0 (Nat.zero_le _) ?_
  rintro k i1
  have hle := padsM_le (l.take k)
  rw [List.length_take] at hle
  by_cases hlt : k < l.length
  · have hn := padsM_snoc l k hlt
    unfold padC at hn
    repeat' (first
    | fail
    | refine s_y ?_
      | refine c_ ?_
      | (refine aw_if ?_ ?_ <;> intro hb <;> try (exfalso; first | assumption | omega))
      | refine s_call ?_ (c := by first | exact f_vtPut _ | exact f_ref05Put _ | exact f_vtIs _ | exact f_ref05Is _ | fail)
      | refine s_op ?_ (hy := by first | fail | fail)
      | refine s_yg ?_
      | refine s_callg ?_ (c := by intro hk hk2; first | exact f_vtPut _ | exact f_ref05Put _ | exact f_vtIs _ | exact f_ref05Is _ | fail)
      | refine s_opg ?_ (hy := by intro hk hk2; first | fail | fail)
      | refine s_skip ?_
      | ((first | refine w_alloc ?_ | refine w_box ?_) <;> intro bb)
      | ((first | refine w_emp ?_ | refine w_make ?_ | refine w_app ?_) <;> intro u hu1 hu2)
      | refine w_stv ?_ | refine w_str ?_ | refine w_cpr ?_ | refine w_cps ?_
      | refine al_last (by kernel_rfl) ?_
    | fail)
    · rw [if_neg (by rw [hb]; decide)] at hn
      exact ⟨k + 1, by omega, by omega, by rw [hn]; exact wx_, sl_⟩
    · rename_i e1; rw [if_pos e1, if_pos hb] at hn
      exact ⟨k + 1, by omega, by omega, by rw [hn]; exact wx_, sl_⟩
    · rename_i e1 e2; rw [if_pos e1, if_neg e2, if_pos hb] at hn
      exact ⟨k + 1, by omega, by omega, by rw [hn]; exact wx_, sl_⟩
    · rename_i e1 e2; rw [if_pos e1, if_neg e2, if_neg hb] at hn
      exact ⟨k + 1, by omega, by omega, by rw [hn]; exact wx_, sl_⟩
  · repeat' (first
    | fail
    | refine s_y ?_
      | refine c_ ?_
      | (refine aw_if ?_ ?_ <;> intro hb <;> try (exfalso; first | assumption | omega))
      | refine s_call ?_ (c := by first | exact f_vtPut _ | exact f_ref05Put _ | exact f_vtIs _ | exact f_ref05Is _ | fail)
      | refine s_op ?_ (hy := by first | fail | fail)
      | refine s_yg ?_
      | refine s_callg ?_ (c := by intro hk hk2; first | exact f_vtPut _ | exact f_ref05Put _ | exact f_vtIs _ | exact f_ref05Is _ | fail)
      | refine s_opg ?_ (hy := by intro hk hk2; first | fail | fail)
      | refine s_skip ?_
      | ((first | refine w_alloc ?_ | refine w_box ?_) <;> intro bb)
      | ((first | refine w_emp ?_ | refine w_make ?_ | refine w_app ?_) <;> intro u hu1 hu2)
      | refine w_stv ?_ | refine w_str ?_ | refine w_cpr ?_ | refine w_cps ?_
      | refine al_last (by kernel_rfl) ?_
    | fail)
    exact ⟨_, [], rs_, List.nil_sublist _, Sub.eq (by rw [List.take_of_length_le (by omega)]), rfl⟩
theorem str_row {l : List Cmd} {c : Cmd} (h : l = [c]) : l = [c] := h
theorem f_told : AP Tryd.prog tab0 17 [] (B true) := by
  have c1 : AP Tryd.prog tab0 15 [aggA [I 2, I 23, I 0, R 0]] (tupA [SA [27, 91, 50, 52, 59, 49, 72], I 0]) := (f_vtPut (2, 23, 0, 0)).to (congrArg str2 (show putR' (2, 23, 0, 0) = ([27, 91, 50, 52, 59, 49, 72], 0) by decide))
  have c2 : AP Tryd.prog tab0 15 [aggA [I 3, I 1, I 0, R 0]] (tupA [SA [27, 91, 65], I 0]) := (f_vtPut (3, 1, 0, 0)).to (congrArg str2 (show putR' (3, 1, 0, 0) = ([27, 91, 65], 0) by decide))
  have c3 : AP Tryd.prog tab0 15 [aggA [I 1, I 0, I 0, R 233]] (tupA [SA [195, 169], I 0]) := (f_vtPut (1, 0, 0, 233)).to (congrArg str2 (show putR' (1, 0, 0, 233) = ([195, 169], 0) by decide))
  have c4 : AP Tryd.prog tab0 15 [aggA [I 6, I 80, I 0, R 0]] (tupA [SA [27, 91, 56, 48, 68], I 0]) := (f_vtPut (6, 80, 0, 0)).to (congrArg str2 (show putR' (6, 80, 0, 0) = ([27, 91, 56, 48, 68], 0) by decide))
  have c5 : AP Tryd.prog tab0 15 [aggA [I 0, I 0, I 0, R 0]] (tupA [SA [], I 1]) := (f_vtPut (0, 0, 0, 0)).to (congrArg str2 (show putR' (0, 0, 0, 0) = ([], 1) by decide))
  have c6 : AP Tryd.prog tab0 20 [slA cmdT [(2, 23, 0, 0), (3, 1, 0, 0), (7, 0, 0, 0), (1, 0, 0, 233)]] (I 15) := (f_vtCost _ (by decide)).to (congrArg (fun n : Nat => I n) (show costM [(2, 23, 0, 0), (3, 1, 0, 0), (7, 0, 0, 0), (1, 0, 0, 233)] = 15 by decide))
  have c7 : AP Tryd.prog tab0 22 [slA cmdT [(2, 23, 0, 0), (7, 0, 0, 0), (7, 0, 0, 0)]] (I 2) := (f_vtPads _ (by decide)).to (congrArg (fun n : Nat => I n) (show padsM [(2, 23, 0, 0), (7, 0, 0, 0), (7, 0, 0, 0)] = 2 by decide))
  have c8 : AP Tryd.prog tab0 18 [aggA [I 2, I 23, I 0, R 0]] (B true) := (f_vtIs (2, 23, 0, 0)).to (congrArg B (by decide))
  have c9 : AP Tryd.prog tab0 18 [aggA [I 2, I 24, I 0, R 0]] (B false) := (f_vtIs (2, 24, 0, 0)).to (congrArg B (by decide))
  refine af_intro Tryd.func17 rfl (by decide) Tryd.ntmps17 rfl ?_
  repeat' (first
  | fail
  | refine s_y ?_
    | refine c_ ?_
    | (refine aw_if ?_ ?_ <;> intro hb <;> try (exfalso; first | assumption | omega))
    | refine s_call ?_ (c := by first | exact c1 | exact c2 | exact c3 | exact c4 | exact c5 | exact c6 | exact c7 | exact c8 | exact c9 | fail)
    | refine s_op ?_ (hy := by first | exact AY.sub (ay_buildSlice (T := cmdT) [(2, 23, 0, 0), (3, 1, 0, 0), (7, 0, 0, 0), (1, 0, 0, 233)] rfl un_cmds el_cmd rfl (by decide) ⟨_, pxg_, rfl⟩) sub_slc
                                       | exact AY.sub (ay_buildSlice (T := cmdT) [(2, 23, 0, 0), (7, 0, 0, 0), (7, 0, 0, 0)] rfl un_cmds el_cmd rfl (by decide) ⟨_, pxg_, rfl⟩) sub_slc | fail)
    | refine s_yg ?_
    | refine s_callg ?_ (c := by intro hk hk2; first | exact c1 | exact c2 | exact c3 | exact c4 | exact c5 | exact c6 | exact c7 | exact c8 | exact c9 | fail)
    | refine s_opg ?_ (hy := by intro hk hk2; first | exact AY.sub (ay_buildSlice (T := cmdT) [(2, 23, 0, 0), (3, 1, 0, 0), (7, 0, 0, 0), (1, 0, 0, 233)] rfl un_cmds el_cmd rfl (by decide) ⟨_, pxg_, rfl⟩) sub_slc
                                                      | exact AY.sub (ay_buildSlice (T := cmdT) [(2, 23, 0, 0), (7, 0, 0, 0), (7, 0, 0, 0)] rfl un_cmds el_cmd rfl (by decide) ⟨_, pxg_, rfl⟩) sub_slc | fail)
    | refine s_skip ?_
    | ((first | refine w_alloc ?_ | refine w_box ?_) <;> intro bb)
    | ((first | refine w_emp ?_ | refine w_make ?_ | refine w_app ?_) <;> intro u hu1 hu2)
    | refine w_stv ?_ | refine w_str ?_ | refine w_cpr ?_ | refine w_cps ?_
    | refine al_last (by kernel_rfl) ?_
  | fail)
  exact ⟨_, [], rs_, List.nil_sublist _, Sub.eq (congrArg B (by decide)), rfl⟩
theorem l_VtPuts (c : Cmd) : AP Tryd.prog tab0 3 [cmdA c] (B true) := by
  refine af_intro Tryd.func3 rfl (by decide) Tryd.ntmps3 rfl ?_
  repeat' (first
  | fail
  | refine s_y ?_
    | refine c_ ?_
    | (refine aw_if ?_ ?_ <;> intro hb <;> try (exfalso; first | assumption | omega))
    | refine s_call ?_ (c := by first | exact f_told | exact f_vtPut _ | exact f_ref05Put _ | exact f_vtIs _ | exact f_ref05Is _ | fail)
    | refine s_op ?_ (hy := by first | fail | fail)
    | refine s_yg ?_
    | refine s_callg ?_ (c := by intro hk hk2; first | exact f_told | exact f_vtPut _ | exact f_ref05Put _ | exact f_vtIs _ | exact f_ref05Is _ | fail)
    | refine s_opg ?_ (hy := by intro hk hk2; first | fail | fail)
    | refine s_skip ?_
    | ((first | refine w_alloc ?_ | refine w_box ?_) <;> intro bb)
    | ((first | refine w_emp ?_ | refine w_make ?_ | refine w_app ?_) <;> intro u hu1 hu2)
    | refine w_stv ?_ | refine w_str ?_ | refine w_cpr ?_ | refine w_cps ?_
    | refine al_last (by kernel_rfl) ?_
  | fail)
  exact ⟨_, [], rs_, List.nil_sublist _, Sub.eq (congrArg B (by simp)), rfl⟩
end Go.Proofs.YthkdpddfmnbijaaDoor
