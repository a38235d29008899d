/- Layer 27 (belief): the reference: what is laid and scrolled, where the cursor goes. No condition. -/
import Derived.Test.YtockidoncngdbaaDoorQ1H4
namespace Go.Proofs.YtockidoncngdbaaDoor
set_option linter.unusedSimpArgs false
set_option linter.unusedVariables false
set_option linter.unusedSectionVars false
set_option maxHeartbeats 4000000
open Go Go.RowKit
set_option maxRecDepth 100000
variable {T0 : Gh} [TabS T0]
attribute [local irreducible] thenA inBlockA AW AL AO QY varO rowO rsA Opd OpdN vA gvA tupA aggA slA slcA ipA rpA EqK LnK IxK LdK FaK FdK
theorem f_ref27changes (k : Int) : AP Tryd.prog T0 65 [I k] (B (chg k)) := by
  refine af_intro Tryd.func65 rfl (by decide) Tryd.ntmps65 rfl ?_
  repeat' (first
  | fail
  | refine s_y ?_
    | refine c_ ?_
    | (refine aw_if ?_ ?_ <;> intro hb <;> try (exfalso; first | assumption | omega | (simp only [or_self, and_self, not_true_eq_false, not_false_eq_true, or_false, false_or, and_false, false_and, true_and, and_true] at hb; first | done | omega)))
    | refine s_call ?_ (c := by first | fail | fail)
    | refine s_op ?_ (hy := by first | fail | fail)
    | refine s_yg ?_
    | refine s_callg ?_ (c := by intro hk hk2; first | fail | fail)
    | refine s_opg ?_ (hy := by intro hk hk2; first | fail | fail)
    | refine s_skip ?_
    | ((first | refine w_alloc ?_ | refine w_box ?_) <;> intro bb)
    | ((first | refine w_emp ?_ | refine w_make ?_ | refine w_app ?_) <;> intro u hu1 hu2)
    | refine w_stv ?_ | refine w_str ?_ | refine w_cpr ?_ | refine w_cps ?_
    | refine al_last (by kernel_rfl) ?_
  | fail)
  refine ⟨_, [], rl_, List.nil_sublist _, Sub.eq (congrArg B ?_), rfl⟩
  simp [chg]
theorem f_ref27own (w h : Int) (l : List Guess) (x y : Int) (b s : Bool) (hl : l.length ≤ 100000) : AF Tryd.prog T0 68 [belA w h l x y b s] [] (fun A M' => ∃ u, A = aggA [I w, I h, vA u, I x, I y, B b, B s] ∧ M' = [gsO u l]) := by
  refine af_intro Tryd.func68 rfl (by decide) Tryd.ntmps68 rfl ?_
  repeat' (first
  | fail
  | refine s_y ?_
    | refine c_ ?_
    | (refine aw_if ?_ ?_ <;> intro hb <;> try (exfalso; first | assumption | omega | (simp only [or_self, and_self, not_true_eq_false, not_false_eq_true, or_false, false_or, and_false, false_and, true_and, and_true] at hb; first | done | omega)))
    | refine s_call ?_ (c := by first | fail | fail)
    | refine s_op ?_ (hy := by first | fail | fail)
    | refine s_yg ?_
    | refine s_callg ?_ (c := by intro hk hk2; first | fail | fail)
    | refine s_opg ?_ (hy := by intro hk hk2; first | fail | fail)
    | refine s_skip ?_
    | ((first | refine w_alloc ?_ | refine w_box ?_) <;> intro bb)
    | ((first | refine w_emp ?_ | refine w_make ?_ | refine w_app ?_) <;> intro u hu1 hu2)
    | refine w_stv ?_ | refine w_str ?_ | refine w_cpr ?_ | refine w_cps ?_
    | refine al_last (by kernel_rfl) ?_
  | fail)
  exact ⟨_, [rowO guT 81 u ([] ++ l)], rl_, sl_, u, rfl, rfl⟩
theorem f_ref27down (w h : Int) (l : List Guess) (x y : Int) (b s : Bool) (c : Cmd) (hx : -1000 ≤ x ∧ x ≤ 1000) (hh : -1000 ≤ h ∧ h ≤ 1000) : AP Tryd.prog T0 66 [belA w h l x y b s, cmdA c] (tupA [B (goesDown w x b c), B (goesDown w x b c && decide (y = h - 1))]) := by
  obtain ⟨k, a, d, r⟩ := c
  have hr : (cellsM r).length ≤ 2 := (cellsM_len r).2
  have c1 := f_ref02Width (T0 := T0) r
  have c2 : True := trivial
  have e : goesDown w x b (k, a, d, r) = (decide (k = 10) || (decide (k = 1) && (b || decide (w < x + (cellsM r).length)))) := rfl
  rw [e]
  clear e
  generalize (cellsM r).length = n at *
  refine af_intro Tryd.func66 rfl (by decide) Tryd.ntmps66 rfl ?_
  repeat' (first
  | fail
  | refine s_y ?_
    | refine c_ ?_
    | (refine aw_if ?_ ?_ <;> intro hb <;> try (exfalso; first | assumption | omega | (simp only [or_self, and_self, not_true_eq_false, not_false_eq_true, or_false, false_or, and_false, false_and, true_and, and_true] at hb; first | done | omega)))
    | refine s_call ?_ (c := by first | exact c1 | exact c2 | fail)
    | refine s_op ?_ (hy := by first | fail | fail)
    | refine s_yg ?_
    | refine s_callg ?_ (c := by intro hk hk2; first | exact c1 | exact c2 | fail)
    | refine s_opg ?_ (hy := by intro hk hk2; first | fail | fail)
    | refine s_skip ?_
    | ((first | refine w_alloc ?_ | refine w_box ?_) <;> intro bb)
    | ((first | refine w_emp ?_ | refine w_make ?_ | refine w_app ?_) <;> intro u hu1 hu2)
    | refine w_stv ?_ | refine w_str ?_ | refine w_cpr ?_ | refine w_cps ?_
    | refine al_last (by kernel_rfl) ?_
  | fail)
  exact ⟨_, [], rl_, List.nil_sublist _, Sub.refl _, rfl⟩
end Go.Proofs.YtockidoncngdbaaDoor
