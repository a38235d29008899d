/- Layer 27 (belief): the law BeliefDoes. No condition. -/
import Derived.Test.YtockidoncngdbaaGreatDoorQ2HB
namespace Go.Proofs.YtockidoncngdbaaGreatDoor
set_option linter.unusedSimpArgs false
set_option linter.unusedVariables false
set_option linter.unusedSectionVars false
set_option maxHeartbeats 4000000
open Go Go.RowKit
set_option maxRecDepth 200000
theorem doB_len (b : Bel) (c : Cmd) : (doB b c).1.2.2.1.length ≤ 3000 := by
  by_cases h : okBl b = true ∧ isCmd c = true
  · have k := doB_ok h.1 h.2
    have := (okBe_len k).2.1
    omega
  · rw [doB_no h]; simp [noB]
variable {T0 : Gh} [TabS T0] [TabU T0]
attribute [local irreducible] thenA inBlockA AW AL AO QY varO rowO rsA Opd OpdN vA gvA tupA aggA slA slcA ipA rpA EqK LnK IxK LdK FaK FdK
theorem l_BeliefDoes (w h : Int) (l : List Guess) (x y : Int) (b s : Bool) (c : Cmd) : AP Tryz.prog T0 3 [belA w h l x y b s, cmdA c] (B true) := by
  have c1 := f_beDo (T0 := T0) w h l x y b s c
  by_cases hbig : l.length ≤ 3000
  · have c2 := f_ref27Do (T0 := T0) w h l x y b s c
    have n1 := doB_len (w, h, l, x, y, b, s) c
    have c3 := (f_ref27Same (T0 := T0) (doB (w, h, l, x, y, b, s) c).1.1 (doB (w, h, l, x, y, b, s) c).1.2.1 (doB (w, h, l, x, y, b, s) c).1.2.2.1 (doB (w, h, l, x, y, b, s) c).1.2.2.2.1 (doB (w, h, l, x, y, b, s) c).1.2.2.2.2.1 (doB (w, h, l, x, y, b, s) c).1.2.2.2.2.2.1 (doB (w, h, l, x, y, b, s) c).1.2.2.2.2.2.2 (doB (w, h, l, x, y, b, s) c).1.1 (doB (w, h, l, x, y, b, s) c).1.2.1 (doB (w, h, l, x, y, b, s) c).1.2.2.1 (doB (w, h, l, x, y, b, s) c).1.2.2.2.1 (doB (w, h, l, x, y, b, s) c).1.2.2.2.2.1 (doB (w, h, l, x, y, b, s) c).1.2.2.2.2.2.1 (doB (w, h, l, x, y, b, s) c).1.2.2.2.2.2.2 (by omega)).to (A' := B true) (by rw [sameB_self])
    have c4 : True := trivial
    have c5 : True := trivial
    generalize doB (w, h, l, x, y, b, s) c = z1 at *
    obtain ⟨⟨a1, a2, a3, a4, a5, a6, a7⟩, a8⟩ := z1
    obtain ⟨k, a, d, r⟩ := c
    refine af_intro Tryz.func3 rfl (by decide) Tryz.ntmps3 rfl ?_
    repeat' (first
    | fail
    | refine s_y ?_
      | refine c_ ?_
      | (refine aw_if ?_ ?_ <;> intro hb <;> try (exfalso; first | assumption | omega | (simp only [or_self, and_self, not_true_eq_false, not_false_eq_true, or_false, false_or, and_false, false_and, true_and, and_true] at hb; first | done | omega)))
      | refine s_call ?_ (c := by first | exact f_believed | exact c1 | exact c2 | exact c3 | exact c4 | exact c5 | fail)
      | refine s_op ?_ (hy := by first | fail | fail)
      | refine s_yg ?_
      | refine s_callg ?_ (c := by intro hk hk2; first | exact f_believed | exact c1 | exact c2 | exact c3 | exact c4 | exact c5 | fail)
      | refine s_opg ?_ (hy := by intro hk hk2; first | fail | fail)
      | refine s_skip ?_
      | ((first | refine w_alloc ?_ | refine w_box ?_) <;> intro bb)
      | ((first | refine w_emp ?_ | refine w_make ?_ | refine w_app ?_) <;> intro u hu1 hu2)
      | refine w_stv ?_ | refine w_str ?_ | refine w_cpr ?_ | refine w_cps ?_
      | refine al_last (by kernel_rfl) ?_
    | fail)
    all_goals first | (exfalso; simp at hb; done) | (exfalso; omega) | exact ⟨_, [], rl_, List.nil_sublist _, Sub.refl _, rfl⟩ | (refine ⟨_, [], rl_, List.nil_sublist _, Sub.eq (congrArg B ?_), rfl⟩; simp; done) | skip
  · have c2 : True := trivial
    have c3 : True := trivial
    have c4 : True := trivial
    have c5 : True := trivial
    obtain ⟨k, a, d, r⟩ := c
    refine af_intro Tryz.func3 rfl (by decide) Tryz.ntmps3 rfl ?_
    repeat' (first
    | fail
    | refine s_y ?_
      | refine c_ ?_
      | (refine aw_if ?_ ?_ <;> intro hb <;> try (exfalso; first | assumption | omega | (simp only [or_self, and_self, not_true_eq_false, not_false_eq_true, or_false, false_or, and_false, false_and, true_and, and_true] at hb; first | done | omega)))
      | refine s_call ?_ (c := by first | exact f_believed | exact c1 | exact c2 | exact c3 | exact c4 | exact c5 | fail)
      | refine s_op ?_ (hy := by first | fail | fail)
      | refine s_yg ?_
      | refine s_callg ?_ (c := by intro hk hk2; first | exact f_believed | exact c1 | exact c2 | exact c3 | exact c4 | exact c5 | fail)
      | refine s_opg ?_ (hy := by intro hk hk2; first | fail | fail)
      | refine s_skip ?_
      | ((first | refine w_alloc ?_ | refine w_box ?_) <;> intro bb)
      | ((first | refine w_emp ?_ | refine w_make ?_ | refine w_app ?_) <;> intro u hu1 hu2)
      | refine w_stv ?_ | refine w_str ?_ | refine w_cpr ?_ | refine w_cps ?_
      | refine al_last (by kernel_rfl) ?_
    | fail)
    all_goals first | (exfalso; simp at hb; done) | (exfalso; omega) | exact ⟨_, [], rl_, List.nil_sublist _, Sub.refl _, rfl⟩ | (refine ⟨_, [], rl_, List.nil_sublist _, Sub.eq (congrArg B ?_), rfl⟩; simp; done) | skip
end Go.Proofs.YtockidoncngdbaaGreatDoor
