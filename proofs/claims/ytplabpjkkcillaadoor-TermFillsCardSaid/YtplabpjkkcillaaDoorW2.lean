/- Layers 1 and 2 (signs, wide): each function of the program and of the references yields what its model says. No condition. -/
import Derived.Test.YtplabpjkkcillaaDoorAZ
namespace Go.Proofs.YtplabpjkkcillaaDoor
set_option linter.unusedSimpArgs false
set_option linter.unusedVariables false
set_option linter.unusedSectionVars false
set_option maxHeartbeats 4000000
open Go Go.RowKit
variable {T0 : Gh}
attribute [local irreducible] thenA inBlockA AW AL AO QY varO rowO rsA Opd OpdN vA gvA tupA aggA slA slcA ipA rpA EqK LnK IxK LdK FaK FdK
set_option maxRecDepth 100000

theorem AP.to {f : FuncId} {As : List AV} {A A' : AV} (h : AP Tryd.prog T0 f As A) (e : A = A') : AP Tryd.prog T0 f As A' := e ▸ h
def isG (r : Int) : Bool := (decide (0 ≤ r) && decide (r < 55296)) || (decide (57343 < r) && decide (r ≤ 1114111))
def shown (r : Int) : Bool := isG r && decide (32 ≤ r) && (decide (r < 127) || decide (159 < r))
def isW (r : Int) : Bool := spansL.any fun p => decide (p.1 ≤ r) && decide (r ≤ p.2)
def ctl (r : Int) : Bool := (decide (0 ≤ r) && decide (r < 32)) || decide (r = 127)

theorem f_ValidRune (r : Int) : AP Tryd.prog T0 109 [R r] (B (isG r)) := by
  refine af_intro Tryd.func109 rfl (by decide) Tryd.ntmps109 rfl ?_
  repeat' (first
  | fail
  | refine s_y ?_
    | refine c_ ?_
    | (refine aw_if ?_ ?_ <;> intro hb <;> try (exfalso; first | assumption | omega | (simp only [or_self, and_self, not_true_eq_false, not_false_eq_true, or_false, false_or, and_false, false_and, true_and, and_true] at hb; first | done | omega)))
    | refine s_call ?_ (c := by first | fail | fail)
    | refine s_op ?_ (hy := by first | fail | fail)
    | refine s_yg ?_
    | refine s_callg ?_ (c := by intro hk hk2; first | fail | fail)
    | refine s_opg ?_ (hy := by intro hk hk2; first | fail | fail)
    | refine s_skip ?_
    | ((first | refine w_alloc ?_ | refine w_box ?_) <;> intro bb)
    | ((first | refine w_emp ?_ | refine w_make ?_ | refine w_app ?_) <;> intro u hu1 hu2)
    | refine w_stv ?_ | refine w_str ?_ | refine w_cpr ?_ | refine w_cps ?_
    | refine al_last (by kernel_rfl) ?_
  | refine w_frz ?_
  | fail)
  all_goals refine ⟨_, [], rs_, List.nil_sublist _, Sub.eq (congrArg B ?_), rfl⟩
  all_goals (rw [Bool.eq_iff_iff]; simp [isG]; omega)
theorem f_glyphIs (r : Int) : AP Tryd.prog T0 85 [R r] (B (isG r)) := by
  refine af_intro Tryd.func85 rfl (by decide) Tryd.ntmps85 rfl ?_
  repeat' (first
  | fail
  | refine s_y ?_
    | refine c_ ?_
    | (refine aw_if ?_ ?_ <;> intro hb <;> try (exfalso; first | assumption | omega | (simp only [or_self, and_self, not_true_eq_false, not_false_eq_true, or_false, false_or, and_false, false_and, true_and, and_true] at hb; first | done | omega)))
    | refine s_call ?_ (c := by first | exact f_ValidRune _ | fail)
    | refine s_op ?_ (hy := by first | fail | fail)
    | refine s_yg ?_
    | refine s_callg ?_ (c := by intro hk hk2; first | exact f_ValidRune _ | fail)
    | refine s_opg ?_ (hy := by intro hk hk2; first | fail | fail)
    | refine s_skip ?_
    | ((first | refine w_alloc ?_ | refine w_box ?_) <;> intro bb)
    | ((first | refine w_emp ?_ | refine w_make ?_ | refine w_app ?_) <;> intro u hu1 hu2)
    | refine w_stv ?_ | refine w_str ?_ | refine w_cpr ?_ | refine w_cps ?_
    | refine al_last (by kernel_rfl) ?_
  | refine w_frz ?_
  | fail)
  exact ⟨_, [], rs_, List.nil_sublist _, Sub.refl _, rfl⟩
theorem f_ref01Is (r : Int) : AP Tryd.prog T0 114 [R r] (B (isG r)) := by
  refine af_intro Tryd.func114 rfl (by decide) Tryd.ntmps114 rfl ?_
  repeat' (first
  | fail
  | refine s_y ?_
    | refine c_ ?_
    | (refine aw_if ?_ ?_ <;> intro hb <;> try (exfalso; first | assumption | omega | (simp only [or_self, and_self, not_true_eq_false, not_false_eq_true, or_false, false_or, and_false, false_and, true_and, and_true] at hb; first | done | omega)))
    | refine s_call ?_ (c := by first | exact f_ValidRune _ | fail)
    | refine s_op ?_ (hy := by first | fail | fail)
    | refine s_yg ?_
    | refine s_callg ?_ (c := by intro hk hk2; first | exact f_ValidRune _ | fail)
    | refine s_opg ?_ (hy := by intro hk hk2; first | fail | fail)
    | refine s_skip ?_
    | ((first | refine w_alloc ?_ | refine w_box ?_) <;> intro bb)
    | ((first | refine w_emp ?_ | refine w_make ?_ | refine w_app ?_) <;> intro u hu1 hu2)
    | refine w_stv ?_ | refine w_str ?_ | refine w_cpr ?_ | refine w_cps ?_
    | refine al_last (by kernel_rfl) ?_
  | refine w_frz ?_
  | fail)
  refine ⟨_, [], rs_, List.nil_sublist _, Sub.eq (congrArg B ?_), rfl⟩
  rw [Bool.eq_iff_iff]; simp [isG]; omega
theorem f_Shown (r : Int) : AP Tryd.prog T0 73 [R r] (B (shown r)) := by
  refine af_intro Tryd.func73 rfl (by decide) Tryd.ntmps73 rfl ?_
  repeat' (first
  | fail
  | refine s_y ?_
    | refine c_ ?_
    | (refine aw_if ?_ ?_ <;> intro hb <;> try (exfalso; first | assumption | omega | (simp only [or_self, and_self, not_true_eq_false, not_false_eq_true, or_false, false_or, and_false, false_and, true_and, and_true] at hb; first | done | omega)))
    | refine s_call ?_ (c := by first | exact f_glyphIs _ | exact f_ref01Is _ | fail)
    | refine s_op ?_ (hy := by first | fail | fail)
    | refine s_yg ?_
    | refine s_callg ?_ (c := by intro hk hk2; first | exact f_glyphIs _ | exact f_ref01Is _ | fail)
    | refine s_opg ?_ (hy := by intro hk hk2; first | fail | fail)
    | refine s_skip ?_
    | ((first | refine w_alloc ?_ | refine w_box ?_) <;> intro bb)
    | ((first | refine w_emp ?_ | refine w_make ?_ | refine w_app ?_) <;> intro u hu1 hu2)
    | refine w_stv ?_ | refine w_str ?_ | refine w_cpr ?_ | refine w_cps ?_
    | refine al_last (by kernel_rfl) ?_
  | refine w_frz ?_
  | fail)
  exact ⟨_, [], rs_, List.nil_sublist _, Sub.refl _, rfl⟩
theorem f_ref02Shown (r : Int) : AP Tryd.prog T0 93 [R r] (B (shown r)) := by
  refine af_intro Tryd.func93 rfl (by decide) Tryd.ntmps93 rfl ?_
  repeat' (first
  | fail
  | refine s_y ?_
    | refine c_ ?_
    | (refine aw_if ?_ ?_ <;> intro hb <;> try (exfalso; first | assumption | omega | (simp only [or_self, and_self, not_true_eq_false, not_false_eq_true, or_false, false_or, and_false, false_and, true_and, and_true] at hb; first | done | omega)))
    | refine s_call ?_ (c := by first | exact f_glyphIs _ | exact f_ref01Is _ | fail)
    | refine s_op ?_ (hy := by first | fail | fail)
    | refine s_yg ?_
    | refine s_callg ?_ (c := by intro hk hk2; first | exact f_glyphIs _ | exact f_ref01Is _ | fail)
    | refine s_opg ?_ (hy := by intro hk hk2; first | fail | fail)
    | refine s_skip ?_
    | ((first | refine w_alloc ?_ | refine w_box ?_) <;> intro bb)
    | ((first | refine w_emp ?_ | refine w_make ?_ | refine w_app ?_) <;> intro u hu1 hu2)
    | refine w_stv ?_ | refine w_str ?_ | refine w_cpr ?_ | refine w_cps ?_
    | refine al_last (by kernel_rfl) ?_
  | refine w_frz ?_
  | fail)
  refine ⟨_, [], rs_, List.nil_sublist _, Sub.eq (congrArg B ?_), rfl⟩
  rw [Bool.eq_iff_iff]; simp [shown]
theorem f_ref02Wide (r : Int) : AP Tryd.prog T0 112 [R r] (B (isW r)) := by
  refine af_intro Tryd.func112 rfl (by decide) Tryd.ntmps112 rfl ?_
  repeat' (first
  | fail
  | refine s_y ?_
    | refine c_ ?_
    | (refine aw_if ?_ ?_ <;> intro hb <;> try (exfalso; first | assumption | omega | (simp only [or_self, and_self, not_true_eq_false, not_false_eq_true, or_false, false_or, and_false, false_and, true_and, and_true] at hb; first | done | omega)))
    | refine s_call ?_ (c := by first | exact f_glyphIs _ | exact f_ref01Is _ | fail)
    | refine s_op ?_ (hy := by first | fail | fail)
    | refine s_yg ?_
    | refine s_callg ?_ (c := by intro hk hk2; first | exact f_glyphIs _ | exact f_ref01Is _ | fail)
    | refine s_opg ?_ (hy := by intro hk hk2; first | fail | fail)
    | refine s_skip ?_
    | ((first | refine w_alloc ?_ | refine w_box ?_) <;> intro bb)
    | ((first | refine w_emp ?_ | refine w_make ?_ | refine w_app ?_) <;> intro u hu1 hu2)
    | refine w_stv ?_ | refine w_str ?_ | refine w_cpr ?_ | refine w_cps ?_
    | refine al_last (by kernel_rfl) ?_
  | refine w_frz ?_
  | fail)
  refine ⟨_, [], rs_, List.nil_sublist _, Sub.eq (congrArg B ?_), rfl⟩
  rw [Bool.eq_iff_iff]; simp [isW, spansL]; omega
end Go.Proofs.YtplabpjkkcillaaDoor
