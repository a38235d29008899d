/- Layer 2 (wide): right cells, rows that are the same, the example. No condition. -/
import Derived.Test.YtplabpjkkcillaaDoorW4
namespace Go.Proofs.YtplabpjkkcillaaDoor
set_option linter.unusedSimpArgs false
set_option linter.unusedVariables false
set_option linter.unusedSectionVars false
set_option maxHeartbeats 4000000
open Go Go.RowKit
variable {T0 : Gh} [TabS T0]
attribute [local irreducible] thenA inBlockA AW AL AO QY varO rowO rsA Opd OpdN vA gvA tupA aggA slA slcA ipA rpA EqK LnK IxK LdK FaK FdK
set_option maxRecDepth 100000

def isCell (c : Cell) : Bool := shown c.1 && (if isW c.1 then decide (c.2 = 1) || decide (c.2 = 2) else decide (c.2 = 0))
theorem f_wideIs (c : Cell) : AP Tryd.prog T0 111 [cellA c] (B (isCell c)) := by
  obtain ⟨r, k⟩ := c
  refine af_intro Tryd.func111 rfl (by decide) Tryd.ntmps111 rfl ?_
  repeat' (first
  | fail
  | refine s_y ?_
    | refine c_ ?_
    | (refine aw_if ?_ ?_ <;> intro hb <;> try (exfalso; first | assumption | omega | (simp only [or_self, and_self, not_true_eq_false, not_false_eq_true, or_false, false_or, and_false, false_and, true_and, and_true] at hb; first | done | omega)))
    | refine s_call ?_ (c := by first | exact f_Shown _ | exact f_ref02Shown _ | exact f_Wide _ | exact f_ref02Wide _ | fail)
    | refine s_op ?_ (hy := by first | fail | fail)
    | refine s_yg ?_
    | refine s_callg ?_ (c := by intro hk hk2; first | exact f_Shown _ | exact f_ref02Shown _ | exact f_Wide _ | exact f_ref02Wide _ | fail)
    | refine s_opg ?_ (hy := by intro hk hk2; first | fail | fail)
    | refine s_skip ?_
    | ((first | refine w_alloc ?_ | refine w_box ?_) <;> intro bb)
    | ((first | refine w_emp ?_ | refine w_make ?_ | refine w_app ?_) <;> intro u hu1 hu2)
    | refine w_stv ?_ | refine w_str ?_ | refine w_cpr ?_ | refine w_cps ?_
    | refine al_last (by kernel_rfl) ?_
  | refine w_frz ?_
  | fail)
  all_goals refine ⟨_, [], rs_, List.nil_sublist _, Sub.eq (congrArg B ?_), rfl⟩
  all_goals (cases hs : shown r <;> cases hw : isW r <;> simp_all [isCell])
  all_goals first | omega | (rw [Bool.eq_iff_iff]; simp; omega) | skip
theorem f_ref02Is (c : Cell) : AP Tryd.prog T0 89 [cellA c] (B (isCell c)) := by
  obtain ⟨r, k⟩ := c
  refine af_intro Tryd.func89 rfl (by decide) Tryd.ntmps89 rfl ?_
  repeat' (first
  | fail
  | refine s_y ?_
    | refine c_ ?_
    | (refine aw_if ?_ ?_ <;> intro hb <;> try (exfalso; first | assumption | omega | (simp only [or_self, and_self, not_true_eq_false, not_false_eq_true, or_false, false_or, and_false, false_and, true_and, and_true] at hb; first | done | omega)))
    | refine s_call ?_ (c := by first | exact f_Shown _ | exact f_ref02Shown _ | exact f_Wide _ | exact f_ref02Wide _ | fail)
    | refine s_op ?_ (hy := by first | fail | fail)
    | refine s_yg ?_
    | refine s_callg ?_ (c := by intro hk hk2; first | exact f_Shown _ | exact f_ref02Shown _ | exact f_Wide _ | exact f_ref02Wide _ | fail)
    | refine s_opg ?_ (hy := by intro hk hk2; first | fail | fail)
    | refine s_skip ?_
    | ((first | refine w_alloc ?_ | refine w_box ?_) <;> intro bb)
    | ((first | refine w_emp ?_ | refine w_make ?_ | refine w_app ?_) <;> intro u hu1 hu2)
    | refine w_stv ?_ | refine w_str ?_ | refine w_cpr ?_ | refine w_cps ?_
    | refine al_last (by kernel_rfl) ?_
  | refine w_frz ?_
  | fail)
  all_goals refine ⟨_, [], rs_, List.nil_sublist _, Sub.eq (congrArg B ?_), rfl⟩
  all_goals (simp_all [isCell])
theorem f_ref02Same (a b : List Cell) : AP Tryd.prog T0 49 [slA cellT a, slA cellT b] (B (decide (a = b))) := by
  refine af_intro Tryd.func49 rfl (by decide) Tryd.ntmps49 rfl ?_
  refine aw_len (T := cellT) 0 rfl fun hla => ?_
  repeat' (first
  | fail
  | refine s_y ?_
    | refine c_ ?_
    | (refine aw_if ?_ ?_ <;> intro hb <;> try (exfalso; first | assumption | omega | (simp only [or_self, and_self, not_true_eq_false, not_false_eq_true, or_false, false_or, and_false, false_and, true_and, and_true] at hb; first | done | omega)))
    | refine s_call ?_ (c := by first | exact f_Shown _ | exact f_ref02Shown _ | exact f_Wide _ | exact f_ref02Wide _ | fail)
    | refine s_op ?_ (hy := by first | fail | fail)
    | refine s_yg ?_
    | refine s_callg ?_ (c := by intro hk hk2; first | exact f_Shown _ | exact f_ref02Shown _ | exact f_Wide _ | exact f_ref02Wide _ | fail)
    | refine s_opg ?_ (hy := by intro hk hk2; first | fail | fail)
    | refine s_skip ?_
    | ((first | refine w_alloc ?_ | refine w_box ?_) <;> intro bb)
    | ((first | refine w_emp ?_ | refine w_make ?_ | refine w_app ?_) <;> intro u hu1 hu2)
    | refine w_stv ?_ | refine w_str ?_ | refine w_cpr ?_ | refine w_cps ?_
    | refine al_last (by kernel_rfl) ?_
  | refine w_frz ?_
  | fail)
  · refine ⟨_, [], rs_, List.nil_sublist _, Sub.eq (congrArg B ?_), rfl⟩
    simp; intro h; subst h; omega
  refine aw_for (fun i : Nat => [(0, slA cellT a), (1, slA cellT b), (5, I i)]) (fun _ => []) (fun i => i ≤ a.length ∧ a.take i = b.take i) (fun i => a.length - i) 0 ⟨by omega, rfl⟩ wk_ rfl ?_
  rintro i ⟨h1, h2⟩
  by_cases hlt : i < a.length
  · have hlt' : i < b.length := by omega
    repeat' (first
    | fail
    | refine s_y ?_
      | refine c_ ?_
      | (refine aw_if ?_ ?_ <;> intro hb <;> try (exfalso; first | assumption | omega | (simp only [or_self, and_self, not_true_eq_false, not_false_eq_true, or_false, false_or, and_false, false_and, true_and, and_true] at hb; first | done | omega)))
      | refine s_call ?_ (c := by first | exact f_Shown _ | exact f_ref02Shown _ | exact f_Wide _ | exact f_ref02Wide _ | fail)
      | refine s_op ?_ (hy := by first | fail | fail)
      | refine s_yg ?_
      | refine s_callg ?_ (c := by intro hk hk2; first | exact f_Shown _ | exact f_ref02Shown _ | exact f_Wide _ | exact f_ref02Wide _ | fail)
      | refine s_opg ?_ (hy := by intro hk hk2; first | fail | fail)
      | refine s_skip ?_
      | ((first | refine w_alloc ?_ | refine w_box ?_) <;> intro bb)
      | ((first | refine w_emp ?_ | refine w_make ?_ | refine w_app ?_) <;> intro u hu1 hu2)
      | refine w_stv ?_ | refine w_str ?_ | refine w_cpr ?_ | refine w_cps ?_
      | refine al_last (by kernel_rfl) ?_
    | refine w_frz ?_
    | fail)
    · refine ⟨_, [], rs_, List.nil_sublist _, Sub.eq (congrArg B ?_), rfl⟩
      simp; intro h; subst h; simp at hb
    · refine ⟨i + 1, ⟨by omega, ?_⟩, by omega, wk_, rfl⟩
      rw [List.take_succ_eq_append_getElem hlt, List.take_succ_eq_append_getElem hlt', h2]
      simp at hb
      have hh : a[i] = b[i] := Prod.ext hb.1 hb.2
      rw [hh]
  · repeat' (first
    | fail
    | refine s_y ?_
      | refine c_ ?_
      | (refine aw_if ?_ ?_ <;> intro hb <;> try (exfalso; first | assumption | omega | (simp only [or_self, and_self, not_true_eq_false, not_false_eq_true, or_false, false_or, and_false, false_and, true_and, and_true] at hb; first | done | omega)))
      | refine s_call ?_ (c := by first | exact f_Shown _ | exact f_ref02Shown _ | exact f_Wide _ | exact f_ref02Wide _ | fail)
      | refine s_op ?_ (hy := by first | fail | fail)
      | refine s_yg ?_
      | refine s_callg ?_ (c := by intro hk hk2; first | exact f_Shown _ | exact f_ref02Shown _ | exact f_Wide _ | exact f_ref02Wide _ | fail)
      | refine s_opg ?_ (hy := by intro hk hk2; first | fail | fail)
      | refine s_skip ?_
      | ((first | refine w_alloc ?_ | refine w_box ?_) <;> intro bb)
      | ((first | refine w_emp ?_ | refine w_make ?_ | refine w_app ?_) <;> intro u hu1 hu2)
      | refine w_stv ?_ | refine w_str ?_ | refine w_cpr ?_ | refine w_cps ?_
      | refine al_last (by kernel_rfl) ?_
    | refine w_frz ?_
    | fail)
    refine ⟨_, [], rs_, List.nil_sublist _, Sub.eq (congrArg B ?_), rfl⟩
    rw [List.take_of_length_le (by omega), List.take_of_length_le (by omega)] at h2
    simp [h2]


end Go.Proofs.YtplabpjkkcillaaDoor
