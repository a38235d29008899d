/- Layer 6 (scan): the reference's All is the program's. No condition. -/
import Derived.Test.YtplabpjkkcillaaDoorR8
import Derived.Test.YtplabpjkkcillaaDoorS9
namespace Go.Proofs.YtplabpjkkcillaaDoor
set_option linter.unusedSimpArgs false
set_option linter.unusedVariables false
set_option linter.unusedSectionVars false
set_option maxHeartbeats 4000000
open Go Go.RowKit
variable {T0 : Gh}
set_option maxRecDepth 200000
attribute [local irreducible] thenA inBlockA AW AL AO QY varO rowO rsA Opd OpdN vA gvA tupA aggA slA slcA ipA rpA EqK LnK IxK LdK FaK FdK
theorem f_ref06All (s : List UInt8) (hs : s.length ≤ 80000) : AP Tryd.prog T0 20 [SA s] (tupA [slA cmdT (allS s).1, SA (allS s).2.1, I (allS s).2.2]) := by
  have c1 : True := trivial
  refine af_intro Tryd.func20 rfl (by decide) Tryd.ntmps20 rfl ?_
  repeat' (first
  | fail
  | refine s_y ?_
    | refine c_ ?_
    | (refine aw_if ?_ ?_ <;> intro hb <;> try (exfalso; first | assumption | omega | (simp only [or_self, and_self, not_true_eq_false, not_false_eq_true, or_false, false_or, and_false, false_and, true_and, and_true] at hb; first | done | omega)))
    | refine s_call ?_ (c := by first | exact c1 | fail)
    | refine s_op ?_ (hy := by first | (apply bs_cmdA rfl un_; exact oo_; done) | fail)
    | refine s_yg ?_
    | refine s_callg ?_ (c := by intro hk hk2; first | exact c1 | fail)
    | refine s_opg ?_ (hy := by intro hk hk2; first | (apply bs_cmdA rfl un_; exact oo_; done) | fail)
    | refine s_skip ?_
    | ((first | refine w_alloc ?_ | refine w_box ?_) <;> intro bb)
    | ((first | refine w_emp ?_ | refine w_make ?_ | refine w_app ?_) <;> intro u hu1 hu2)
    | refine w_stv ?_ | refine w_str ?_ | refine w_cpr ?_ | refine w_cps ?_
    | refine al_last (by kernel_rfl) ?_
  | fail)
  refine aw_la 5 (fun y : List UInt8 × List Cmd => [(0, SA y.1)]) (fun y => y.2) (fun y => y.1.length + y.2.length ≤ s.length ∧ allF y.2 (allS y.1) = allS s) (fun y => y.1.length) (s, []) ⟨by simp, allF_nil s⟩ rfl ?_
  rintro ⟨q, out⟩ u ⟨i1, i2⟩ hu1 hu2
  simp only at i1 i2 ⊢
  clear c1
  have c1 := f_ref06Next (T0 := T0) q (by omega)
  have k1 := fun h => allS_ok (s := q) h
  have k2 := fun h => allS_form (s := q) h
  have k3 := fun h h2 => allS_end (s := q) h h2
  have k4 := fun h => next_len (s := q) h
  have ke := next_err q
  obtain ⟨⟨c, t, e⟩, hx⟩ : ∃ x, x = nextM q := ⟨_, rfl⟩
  rw [← hx] at c1 k1 k2 k3 k4 ke
  simp only at c1 k1 k2 k3 k4 ke
  clear hx
  by_cases he : e = 0
  · subst he
    have k1 := k1 rfl
    have k4 := k4 rfl
    rw [k1, allF_app] at i2
    clear k2 k3 ke k1
    repeat' (first
    | fail
    | refine s_y ?_
      | refine c_ ?_
      | (refine aw_if ?_ ?_ <;> intro hb <;> try (exfalso; first | assumption | omega | (simp only [or_self, and_self, not_true_eq_false, not_false_eq_true, or_false, false_or, and_false, false_and, true_and, and_true] at hb; first | done | omega)))
      | refine s_call ?_ (c := by first | exact c1 | fail)
      | refine s_op ?_ (hy := by first | (apply bs_cmdA rfl un_; exact oo_; done) | fail)
      | refine s_yg ?_
      | refine s_callg ?_ (c := by intro hk hk2; first | exact c1 | fail)
      | refine s_opg ?_ (hy := by intro hk hk2; first | (apply bs_cmdA rfl un_; exact oo_; done) | fail)
      | refine s_skip ?_
      | ((first | refine w_alloc ?_ | refine w_box ?_) <;> intro bb)
      | ((first | refine w_emp ?_ | refine w_make ?_ | refine w_app ?_) <;> intro u hu1 hu2)
      | refine w_stv ?_ | refine w_str ?_ | refine w_cpr ?_ | refine w_cps ?_
      | refine al_last (by kernel_rfl) ?_
    | fail)
    all_goals first | (exfalso; omega) | exact ⟨(t, out ++ [c]), _, ⟨by simp only [List.length_append, List.length_singleton]; omega, i2⟩, by simp only; omega, wx_, sl_⟩
  · apply aw_freezeF 0 rfl
    case hz => simp only [List.cons_append, List.nil_append]; repeat' (first | exact fzf_nil | apply fzf_cons | exact fz_here | exact fz_keep)
    by_cases h2 : e = 2
    · subst h2
      rw [k2 rfl] at i2
      have hr : allS s = ([], [], 2) := by rw [← i2]; rfl
      rw [hr]
      repeat' (first
      | fail
      | refine s_y ?_
        | refine c_ ?_
        | (refine aw_if ?_ ?_ <;> intro hb <;> try (exfalso; first | assumption | omega | (simp only [or_self, and_self, not_true_eq_false, not_false_eq_true, or_false, false_or, and_false, false_and, true_and, and_true] at hb; first | done | omega)))
        | refine s_call ?_ (c := by first | exact c1 | fail)
        | refine s_op ?_ (hy := by first | (apply bs_cmdA rfl un_; exact oo_; done) | fail)
        | refine s_yg ?_
        | refine s_callg ?_ (c := by intro hk hk2; first | exact c1 | fail)
        | refine s_opg ?_ (hy := by intro hk hk2; first | (apply bs_cmdA rfl un_; exact oo_; done) | fail)
        | refine s_skip ?_
        | ((first | refine w_alloc ?_ | refine w_box ?_) <;> intro bb)
        | ((first | refine w_emp ?_ | refine w_make ?_ | refine w_app ?_) <;> intro u hu1 hu2)
        | refine w_stv ?_ | refine w_str ?_ | refine w_cpr ?_ | refine w_cps ?_
        | refine al_last (by kernel_rfl) ?_
      | fail)
      all_goals first | (exfalso; omega) | exact ⟨_, [], rl_, List.nil_sublist _, sub_tup (subl1 sub_nilc (subl1 (Sub.refl _) (subl1 (Sub.refl _) subl0))), rfl⟩
    · rw [k3 he h2] at i2
      have hr : allS s = (out, q, 0) := by rw [← i2]; simp [allF]
      rw [hr]
      repeat' (first
      | fail
      | refine s_y ?_
        | refine c_ ?_
        | (refine aw_if ?_ ?_ <;> intro hb <;> try (exfalso; first | assumption | omega | (simp only [or_self, and_self, not_true_eq_false, not_false_eq_true, or_false, false_or, and_false, false_and, true_and, and_true] at hb; first | done | omega)))
        | refine s_call ?_ (c := by first | exact c1 | fail)
        | refine s_op ?_ (hy := by first | (apply bs_cmdA rfl un_; exact oo_; done) | fail)
        | refine s_yg ?_
        | refine s_callg ?_ (c := by intro hk hk2; first | exact c1 | fail)
        | refine s_opg ?_ (hy := by intro hk hk2; first | (apply bs_cmdA rfl un_; exact oo_; done) | fail)
        | refine s_skip ?_
        | ((first | refine w_alloc ?_ | refine w_box ?_) <;> intro bb)
        | ((first | refine w_emp ?_ | refine w_make ?_ | refine w_app ?_) <;> intro u hu1 hu2)
        | refine w_stv ?_ | refine w_str ?_ | refine w_cpr ?_ | refine w_cps ?_
        | refine al_last (by kernel_rfl) ?_
      | fail)
      all_goals first | (exfalso; omega) | exact ⟨_, [], rl_, List.nil_sublist _, Sub.refl _, rfl⟩
end Go.Proofs.YtplabpjkkcillaaDoor
