/- Layer 6 (scan): the example, and the laws of Next and All. No condition. -/
import Derived.Test.YtplabpjkkcillaaDoorR9
import Derived.Test.YtplabpjkkcillaaDoorRA
namespace Go.Proofs.YtplabpjkkcillaaDoor
set_option linter.unusedSimpArgs false
set_option linter.unusedVariables false
set_option linter.unusedSectionVars false
set_option maxHeartbeats 4000000
open Go Go.RowKit
variable {T0 : Gh} [TabU T0]
set_option maxRecDepth 200000
attribute [local irreducible] thenA inBlockA AW AL AO QY varO rowO rsA Opd OpdN vA gvA tupA aggA slA slcA ipA rpA EqK LnK IxK LdK FaK FdK
theorem f_scanned : AP Tryd.prog T0 18 [] (B true) := by
  have c1 : AP Tryd.prog T0 19 [SA [97, 27, 91, 50, 59, 49, 48, 72, 27, 91, 49]] (tupA [slA cmdT [(1, 0, 0, 97), (2, 1, 9, 0)], SA [27, 91, 49], I 0]) := (f_scanAll [97, 27, 91, 50, 59, 49, 48, 72, 27, 91, 49] (by decide)).to (by rw [show allS [97, 27, 91, 50, 59, 49, 48, 72, 27, 91, 49] = ([(1, 0, 0, 97), (2, 1, 9, 0)], [27, 91, 49], 0) by decide])
  have c2 : AP Tryd.prog T0 16 [SA [27, 91, 75, 65]] (tupA [cmdA (7, 0, 0, 0), SA [65], I 0]) := (f_scanNext [27, 91, 75, 65] (by decide)).to (by rw [show nextM [27, 91, 75, 65] = ((7, 0, 0, 0), [65], 0) by decide])
  have c3 : AP Tryd.prog T0 16 [SA [27, 91, 49, 65]] (tupA [cmdA (0, 0, 0, 0), SA [], I 2]) := (f_scanNext [27, 91, 49, 65] (by decide)).to (by rw [show nextM [27, 91, 49, 65] = ((0, 0, 0, 0), [], 2) by decide])
  have c4 : AP Tryd.prog T0 16 [SA [27, 91, 50, 52, 59]] (tupA [cmdA (0, 0, 0, 0), SA [], I 3]) := (f_scanNext [27, 91, 50, 52, 59] (by decide)).to (by rw [show nextM [27, 91, 50, 52, 59] = ((0, 0, 0, 0), [], 3) by decide])
  have c5 : AP Tryd.prog T0 16 [SA []] (tupA [cmdA (0, 0, 0, 0), SA [], I 6]) := (f_scanNext [] (by decide)).to (by rw [show nextM [] = ((0, 0, 0, 0), [], 6) by decide])
  have c6 : AP Tryd.prog T0 19 [SA [97, 1]] (tupA [slA cmdT [], SA [], I 2]) := (f_scanAll [97, 1] (by decide)).to (by rw [show allS [97, 1] = ([], [], 2) by decide])
  have c7 := (f_ref05Same (T0 := T0) [(1, 0, 0, 97), (2, 1, 9, 0)] [(1, 0, 0, 97), (2, 1, 9, 0)] (by decide) (by decide)).to (A' := B true) (congrArg B (by decide))
  refine af_intro Tryd.func18 rfl (by decide) Tryd.ntmps18 rfl ?_
  repeat' (first
  | fail
  | refine s_y ?_
    | refine c_ ?_
    | (refine aw_if ?_ ?_ <;> intro hb <;> try (exfalso; first | assumption | omega | (simp only [or_self, and_self, not_true_eq_false, not_false_eq_true, or_false, false_or, and_false, false_and, true_and, and_true] at hb; first | done | omega)))
    | refine s_call ?_ (c := by first | exact c1 | exact c2 | exact c3 | exact c4 | exact c5 | exact c6 | exact c7 | fail)
    | refine s_op ?_ (hy := by first | exact AY.sub (ay_buildSlice (T := cmdT) [(1, 0, 0, 97), (2, 1, 9, 0)] rfl un_ el_ rfl (by decide) ⟨_, pxg_, rfl⟩) sub_slc
                                       | exact AY.sub (ay_buildSlice (T := cmdT) [(1, 0, 0, 97), (2, 1, 9, 0)] rfl un_ el_ rfl (by decide) ⟨_, px_, rfl⟩) sub_slc | fail)
    | refine s_yg ?_
    | refine s_callg ?_ (c := by intro hk hk2; first | exact c1 | exact c2 | exact c3 | exact c4 | exact c5 | exact c6 | exact c7 | fail)
    | refine s_opg ?_ (hy := by intro hk hk2; first | exact AY.sub (ay_buildSlice (T := cmdT) [(1, 0, 0, 97), (2, 1, 9, 0)] rfl un_ el_ rfl (by decide) ⟨_, pxg_, rfl⟩) sub_slc
                                                      | exact AY.sub (ay_buildSlice (T := cmdT) [(1, 0, 0, 97), (2, 1, 9, 0)] rfl un_ el_ rfl (by decide) ⟨_, px_, rfl⟩) sub_slc | fail)
    | refine s_skip ?_
    | ((first | refine w_alloc ?_ | refine w_box ?_) <;> intro bb)
    | ((first | refine w_emp ?_ | refine w_make ?_ | refine w_app ?_) <;> intro u hu1 hu2)
    | refine w_stv ?_ | refine w_str ?_ | refine w_cpr ?_ | refine w_cps ?_
    | refine al_last (by kernel_rfl) ?_
  | fail)
  exact ⟨_, [], rl_, List.nil_sublist _, Sub.eq (congrArg B (by decide)), rfl⟩
theorem l_ScanNext (s : List UInt8) : AP Tryd.prog T0 3 [SA s] (B true) := by
  by_cases hl : s.length ≤ 1000
  · have c1 := f_scanNext (T0 := T0) s (by omega)
    have c2 := f_ref06Next (T0 := T0) s (by omega)
    obtain ⟨⟨⟨k, a, b, r⟩, t, e⟩, hx⟩ : ∃ x, x = nextM s := ⟨_, rfl⟩
    rw [← hx] at c1 c2
    simp only at c1 c2
    clear hx
    refine af_intro Tryd.func3 rfl (by decide) Tryd.ntmps3 rfl ?_
    repeat' (first
    | fail
    | refine s_y ?_
      | refine c_ ?_
      | (refine aw_if ?_ ?_ <;> intro hb <;> try (exfalso; first | assumption | omega | (simp only [or_self, and_self, not_true_eq_false, not_false_eq_true, or_false, false_or, and_false, false_and, true_and, and_true] at hb; first | done | omega)))
      | refine s_call ?_ (c := by first | exact f_scanned | exact c1 | exact c2 | exact f_ref05Same _ _ (by omega) (by omega) | fail)
      | refine s_op ?_ (hy := by first | fail | fail)
      | refine s_yg ?_
      | refine s_callg ?_ (c := by intro hk hk2; first | exact f_scanned | exact c1 | exact c2 | exact f_ref05Same _ _ (by omega) (by omega) | fail)
      | refine s_opg ?_ (hy := by intro hk hk2; first | fail | fail)
      | refine s_skip ?_
      | ((first | refine w_alloc ?_ | refine w_box ?_) <;> intro bb)
      | ((first | refine w_emp ?_ | refine w_make ?_ | refine w_app ?_) <;> intro u hu1 hu2)
      | refine w_stv ?_ | refine w_str ?_ | refine w_cpr ?_ | refine w_cps ?_
      | refine al_last (by kernel_rfl) ?_
    | fail)
    all_goals first | (exfalso; omega) | exact ⟨_, [], rl_, List.nil_sublist _, Sub.refl _, rfl⟩ | exact ⟨_, [], rl_, List.nil_sublist _, Sub.eq (congrArg B (by simp)), rfl⟩
  · have c1 : True := trivial
    have c2 : True := trivial
    refine af_intro Tryd.func3 rfl (by decide) Tryd.ntmps3 rfl ?_
    repeat' (first
    | fail
    | refine s_y ?_
      | refine c_ ?_
      | (refine aw_if ?_ ?_ <;> intro hb <;> try (exfalso; first | assumption | omega | (simp only [or_self, and_self, not_true_eq_false, not_false_eq_true, or_false, false_or, and_false, false_and, true_and, and_true] at hb; first | done | omega)))
      | refine s_call ?_ (c := by first | exact f_scanned | exact c1 | exact c2 | exact f_ref05Same _ _ (by omega) (by omega) | fail)
      | refine s_op ?_ (hy := by first | fail | fail)
      | refine s_yg ?_
      | refine s_callg ?_ (c := by intro hk hk2; first | exact f_scanned | exact c1 | exact c2 | exact f_ref05Same _ _ (by omega) (by omega) | fail)
      | refine s_opg ?_ (hy := by intro hk hk2; first | fail | fail)
      | refine s_skip ?_
      | ((first | refine w_alloc ?_ | refine w_box ?_) <;> intro bb)
      | ((first | refine w_emp ?_ | refine w_make ?_ | refine w_app ?_) <;> intro u hu1 hu2)
      | refine w_stv ?_ | refine w_str ?_ | refine w_cpr ?_ | refine w_cps ?_
      | refine al_last (by kernel_rfl) ?_
    | fail)
    all_goals first | exact ⟨_, [], rl_, List.nil_sublist _, Sub.refl _, rfl⟩ | (exfalso; omega)
theorem allS_len (s : List UInt8) : (allS s).1.length ≤ s.length := by
  rcases allS_err s with h | h
  · obtain ⟨h1, h2, h3, _⟩ := allS_sound s h
    have : ∀ l : List Cmd, (∀ c ∈ l, isCmd c = true) → l.length ≤ costM l := fun l => by
      induction l with
      | nil => intro _; simp [costM]
      | cons c l ih =>
        intro h
        have h4 := (bytesB_len (h c (by simp))).1
        have h5 : lenC c = (bytesB c).length := by rw [lenC, putR', if_pos (h c (by simp))]
        have := ih fun d hd => h d (by simp [hd])
        simp only [costM, List.map_cons, List.sum_cons, List.length_cons] at this ⊢; omega
    have := this _ h2
    omega
  · rw [h]; simp
theorem l_ScanAll (s : List UInt8) : AP Tryd.prog T0 4 [SA s] (B true) := by
  by_cases hl : s.length ≤ 1000
  · have c1 := f_scanAll (T0 := T0) s (by omega)
    have c2 := f_ref06All (T0 := T0) s (by omega)
    have hle := allS_len s
    obtain ⟨⟨l, t, e⟩, hx⟩ : ∃ x, x = allS s := ⟨_, rfl⟩
    rw [← hx] at c1 c2 hle
    simp only at c1 c2 hle
    clear hx
    refine af_intro Tryd.func4 rfl (by decide) Tryd.ntmps4 rfl ?_
    repeat' (first
    | fail
    | refine s_y ?_
      | refine c_ ?_
      | (refine aw_if ?_ ?_ <;> intro hb <;> try (exfalso; first | assumption | omega | (simp only [or_self, and_self, not_true_eq_false, not_false_eq_true, or_false, false_or, and_false, false_and, true_and, and_true] at hb; first | done | omega)))
      | refine s_call ?_ (c := by first | exact f_scanned | exact c1 | exact c2 | exact f_ref05Same _ _ (by omega) (by omega) | fail)
      | refine s_op ?_ (hy := by first | fail | fail)
      | refine s_yg ?_
      | refine s_callg ?_ (c := by intro hk hk2; first | exact f_scanned | exact c1 | exact c2 | exact f_ref05Same _ _ (by omega) (by omega) | fail)
      | refine s_opg ?_ (hy := by intro hk hk2; first | fail | fail)
      | refine s_skip ?_
      | ((first | refine w_alloc ?_ | refine w_box ?_) <;> intro bb)
      | ((first | refine w_emp ?_ | refine w_make ?_ | refine w_app ?_) <;> intro u hu1 hu2)
      | refine w_stv ?_ | refine w_str ?_ | refine w_cpr ?_ | refine w_cps ?_
      | refine al_last (by kernel_rfl) ?_
    | fail)
    all_goals first | (exfalso; omega) | exact ⟨_, [], rl_, List.nil_sublist _, Sub.refl _, rfl⟩ | exact ⟨_, [], rl_, List.nil_sublist _, Sub.eq (congrArg B (by simp)), rfl⟩
  · have c1 : True := trivial
    have c2 : True := trivial
    refine af_intro Tryd.func4 rfl (by decide) Tryd.ntmps4 rfl ?_
    repeat' (first
    | fail
    | refine s_y ?_
      | refine c_ ?_
      | (refine aw_if ?_ ?_ <;> intro hb <;> try (exfalso; first | assumption | omega | (simp only [or_self, and_self, not_true_eq_false, not_false_eq_true, or_false, false_or, and_false, false_and, true_and, and_true] at hb; first | done | omega)))
      | refine s_call ?_ (c := by first | exact f_scanned | exact c1 | exact c2 | exact f_ref05Same _ _ (by omega) (by omega) | fail)
      | refine s_op ?_ (hy := by first | fail | fail)
      | refine s_yg ?_
      | refine s_callg ?_ (c := by intro hk hk2; first | exact f_scanned | exact c1 | exact c2 | exact f_ref05Same _ _ (by omega) (by omega) | fail)
      | refine s_opg ?_ (hy := by intro hk hk2; first | fail | fail)
      | refine s_skip ?_
      | ((first | refine w_alloc ?_ | refine w_box ?_) <;> intro bb)
      | ((first | refine w_emp ?_ | refine w_make ?_ | refine w_app ?_) <;> intro u hu1 hu2)
      | refine w_stv ?_ | refine w_str ?_ | refine w_cpr ?_ | refine w_cps ?_
      | refine al_last (by kernel_rfl) ?_
    | fail)
    all_goals first | exact ⟨_, [], rl_, List.nil_sublist _, Sub.refl _, rfl⟩ | (exfalso; omega)
end Go.Proofs.YtplabpjkkcillaaDoor
