/- Several texts in one: see the comment ahead of each. No condition. -/
import Derived.Test.YtplabpjkkcillaaDoorR9
import Derived.Test.YtplabpjkkcillaaDoorRA
/- Layer 6 (scan): the example, and the laws of Next and All. No condition. -/
namespace Go.Proofs.YtplabpjkkcillaaDoor
set_option linter.unusedSimpArgs false
set_option linter.unusedVariables false
set_option linter.unusedSectionVars false
set_option maxHeartbeats 4000000
open Go Go.RowKit
variable {T0 : Gh} [TabU T0]
set_option maxRecDepth 200000
attribute [local irreducible] thenA inBlockA AW AL AO QY varO rowO rsA Opd OpdN vA gvA tupA aggA slA slcA ipA rpA EqK LnK IxK LdK FaK FdK
theorem f_scanned : AP Tryd.prog T0 18 [] (B true) := by
  have c1 : AP Tryd.prog T0 19 [SA [97, 27, 91, 50, 59, 49, 48, 72, 27, 91, 49]] (tupA [slA cmdT [(1, 0, 0, 97), (2, 1, 9, 0)], SA [27, 91, 49], I 0]) := (f_scanAll [97, 27, 91, 50, 59, 49, 48, 72, 27, 91, 49] (by decide)).to (by rw [show allS [97, 27, 91, 50, 59, 49, 48, 72, 27, 91, 49] = ([(1, 0, 0, 97), (2, 1, 9, 0)], [27, 91, 49], 0) by decide])
  have c2 : AP Tryd.prog T0 16 [SA [27, 91, 75, 65]] (tupA [cmdA (7, 0, 0, 0), SA [65], I 0]) := (f_scanNext [27, 91, 75, 65] (by decide)).to (by rw [show nextM [27, 91, 75, 65] = ((7, 0, 0, 0), [65], 0) by decide])
  have c3 : AP Tryd.prog T0 16 [SA [27, 91, 49, 65]] (tupA [cmdA (0, 0, 0, 0), SA [], I 2]) := (f_scanNext [27, 91, 49, 65] (by decide)).to (by rw [show nextM [27, 91, 49, 65] = ((0, 0, 0, 0), [], 2) by decide])
  have c4 : AP Tryd.prog T0 16 [SA [27, 91, 50, 52, 59]] (tupA [cmdA (0, 0, 0, 0), SA [], I 3]) := (f_scanNext [27, 91, 50, 52, 59] (by decide)).to (by rw [show nextM [27, 91, 50, 52, 59] = ((0, 0, 0, 0), [], 3) by decide])
  have c5 : AP Tryd.prog T0 16 [SA []] (tupA [cmdA (0, 0, 0, 0), SA [], I 6]) := (f_scanNext [] (by decide)).to (by rw [show nextM [] = ((0, 0, 0, 0), [], 6) by decide])
  have c6 : AP Tryd.prog T0 19 [SA [97, 1]] (tupA [slA cmdT [], SA [], I 2]) := (f_scanAll [97, 1] (by decide)).to (by rw [show allS [97, 1] = ([], [], 2) by decide])
  have c7 := (f_ref05Same (T0 := T0) [(1, 0, 0, 97), (2, 1, 9, 0)] [(1, 0, 0, 97), (2, 1, 9, 0)] (by decide) (by decide)).to (A' := B true) (congrArg B (by decide))
  refine af_intro Tryd.func18 rfl (by decide) Tryd.ntmps18 rfl ?_
  repeat' (first
  | fail
  | refine s_y ?_
    | refine c_ ?_
    | (refine aw_if ?_ ?_ <;> intro hb <;> try (exfalso; first | assumption | omega | (simp only [or_self, and_self, not_true_eq_false, not_false_eq_true, or_false, false_or, and_false, false_and, true_and, and_true] at hb; first | done | omega)))
    | refine s_call ?_ (c := by first | exact c1 | exact c2 | exact c3 | exact c4 | exact c5 | exact c6 | exact c7 | fail)
    | refine s_op ?_ (hy := by first | exact AY.sub (ay_buildSlice (T := cmdT) [(1, 0, 0, 97), (2, 1, 9, 0)] rfl un_ el_ rfl (by decide) ⟨_, pxg_, rfl⟩) sub_slc
                                       | exact AY.sub (ay_buildSlice (T := cmdT) [(1, 0, 0, 97), (2, 1, 9, 0)] rfl un_ el_ rfl (by decide) ⟨_, px_, rfl⟩) sub_slc | fail)
    | refine s_yg ?_
    | refine s_callg ?_ (c := by intro hk hk2; first | exact c1 | exact c2 | exact c3 | exact c4 | exact c5 | exact c6 | exact c7 | fail)
    | refine s_opg ?_ (hy := by intro hk hk2; first | exact AY.sub (ay_buildSlice (T := cmdT) [(1, 0, 0, 97), (2, 1, 9, 0)] rfl un_ el_ rfl (by decide) ⟨_, pxg_, rfl⟩) sub_slc
                                                      | exact AY.sub (ay_buildSlice (T := cmdT) [(1, 0, 0, 97), (2, 1, 9, 0)] rfl un_ el_ rfl (by decide) ⟨_, px_, rfl⟩) sub_slc | fail)
    | refine s_skip ?_
    | ((first | refine w_alloc ?_ | refine w_box ?_) <;> intro bb)
    | ((first | refine w_emp ?_ | refine w_make ?_ | refine w_app ?_) <;> intro u hu1 hu2)
    | refine w_stv ?_ | refine w_str ?_ | refine w_cpr ?_ | refine w_cps ?_
    | refine al_last (by kernel_rfl) ?_
  | fail)
  exact ⟨_, [], rl_, List.nil_sublist _, Sub.eq (congrArg B (by decide)), rfl⟩
theorem l_ScanNext (s : List UInt8) : AP Tryd.prog T0 3 [SA s] (B true) := by
  by_cases hl : s.length ≤ 1000
  · have c1 := f_scanNext (T0 := T0) s (by omega)
    have c2 := f_ref06Next (T0 := T0) s (by omega)
    obtain ⟨⟨⟨k, a, b, r⟩, t, e⟩, hx⟩ : ∃ x, x = nextM s := ⟨_, rfl⟩
    rw [← hx] at c1 c2
    simp only at c1 c2
    clear hx
    refine af_intro Tryd.func3 rfl (by decide) Tryd.ntmps3 rfl ?_
    repeat' (first
    | fail
    | refine s_y ?_
      | refine c_ ?_
      | (refine aw_if ?_ ?_ <;> intro hb <;> try (exfalso; first | assumption | omega | (simp only [or_self, and_self, not_true_eq_false, not_false_eq_true, or_false, false_or, and_false, false_and, true_and, and_true] at hb; first | done | omega)))
      | refine s_call ?_ (c := by first | exact f_scanned | exact c1 | exact c2 | exact f_ref05Same _ _ (by omega) (by omega) | fail)
      | refine s_op ?_ (hy := by first | fail | fail)
      | refine s_yg ?_
      | refine s_callg ?_ (c := by intro hk hk2; first | exact f_scanned | exact c1 | exact c2 | exact f_ref05Same _ _ (by omega) (by omega) | fail)
      | refine s_opg ?_ (hy := by intro hk hk2; first | fail | fail)
      | refine s_skip ?_
      | ((first | refine w_alloc ?_ | refine w_box ?_) <;> intro bb)
      | ((first | refine w_emp ?_ | refine w_make ?_ | refine w_app ?_) <;> intro u hu1 hu2)
      | refine w_stv ?_ | refine w_str ?_ | refine w_cpr ?_ | refine w_cps ?_
      | refine al_last (by kernel_rfl) ?_
    | fail)
    all_goals first | (exfalso; omega) | exact ⟨_, [], rl_, List.nil_sublist _, Sub.refl _, rfl⟩ | exact ⟨_, [], rl_, List.nil_sublist _, Sub.eq (congrArg B (by simp)), rfl⟩
  · have c1 : True := trivial
    have c2 : True := trivial
    refine af_intro Tryd.func3 rfl (by decide) Tryd.ntmps3 rfl ?_
    repeat' (first
    | fail
    | refine s_y ?_
      | refine c_ ?_
      | (refine aw_if ?_ ?_ <;> intro hb <;> try (exfalso; first | assumption | omega | (simp only [or_self, and_self, not_true_eq_false, not_false_eq_true, or_false, false_or, and_false, false_and, true_and, and_true] at hb; first | done | omega)))
      | refine s_call ?_ (c := by first | exact f_scanned | exact c1 | exact c2 | exact f_ref05Same _ _ (by omega) (by omega) | fail)
      | refine s_op ?_ (hy := by first | fail | fail)
      | refine s_yg ?_
      | refine s_callg ?_ (c := by intro hk hk2; first | exact f_scanned | exact c1 | exact c2 | exact f_ref05Same _ _ (by omega) (by omega) | fail)
      | refine s_opg ?_ (hy := by intro hk hk2; first | fail | fail)
      | refine s_skip ?_
      | ((first | refine w_alloc ?_ | refine w_box ?_) <;> intro bb)
      | ((first | refine w_emp ?_ | refine w_make ?_ | refine w_app ?_) <;> intro u hu1 hu2)
      | refine w_stv ?_ | refine w_str ?_ | refine w_cpr ?_ | refine w_cps ?_
      | refine al_last (by kernel_rfl) ?_
    | fail)
    all_goals first | exact ⟨_, [], rl_, List.nil_sublist _, Sub.refl _, rfl⟩ | (exfalso; omega)
theorem allS_len (s : List UInt8) : (allS s).1.length ≤ s.length := by
  rcases allS_err s with h | h
  · obtain ⟨h1, h2, h3, _⟩ := allS_sound s h
    have : ∀ l : List Cmd, (∀ c ∈ l, isCmd c = true) → l.length ≤ costM l := fun l => by
      induction l with
      | nil => intro _; simp [costM]
      | cons c l ih =>
        intro h
        have h4 := (bytesB_len (h c (by simp))).1
        have h5 : lenC c = (bytesB c).length := by rw [lenC, putR', if_pos (h c (by simp))]
        have := ih fun d hd => h d (by simp [hd])
        simp only [costM, List.map_cons, List.sum_cons, List.length_cons] at this ⊢; omega
    have := this _ h2
    omega
  · rw [h]; simp
theorem l_ScanAll (s : List UInt8) : AP Tryd.prog T0 4 [SA s] (B true) := by
  by_cases hl : s.length ≤ 1000
  · have c1 := f_scanAll (T0 := T0) s (by omega)
    have c2 := f_ref06All (T0 := T0) s (by omega)
    have hle := allS_len s
    obtain ⟨⟨l, t, e⟩, hx⟩ : ∃ x, x = allS s := ⟨_, rfl⟩
    rw [← hx] at c1 c2 hle
    simp only at c1 c2 hle
    clear hx
    refine af_intro Tryd.func4 rfl (by decide) Tryd.ntmps4 rfl ?_
    repeat' (first
    | fail
    | refine s_y ?_
      | refine c_ ?_
      | (refine aw_if ?_ ?_ <;> intro hb <;> try (exfalso; first | assumption | omega | (simp only [or_self, and_self, not_true_eq_false, not_false_eq_true, or_false, false_or, and_false, false_and, true_and, and_true] at hb; first | done | omega)))
      | refine s_call ?_ (c := by first | exact f_scanned | exact c1 | exact c2 | exact f_ref05Same _ _ (by omega) (by omega) | fail)
      | refine s_op ?_ (hy := by first | fail | fail)
      | refine s_yg ?_
      | refine s_callg ?_ (c := by intro hk hk2; first | exact f_scanned | exact c1 | exact c2 | exact f_ref05Same _ _ (by omega) (by omega) | fail)
      | refine s_opg ?_ (hy := by intro hk hk2; first | fail | fail)
      | refine s_skip ?_
      | ((first | refine w_alloc ?_ | refine w_box ?_) <;> intro bb)
      | ((first | refine w_emp ?_ | refine w_make ?_ | refine w_app ?_) <;> intro u hu1 hu2)
      | refine w_stv ?_ | refine w_str ?_ | refine w_cpr ?_ | refine w_cps ?_
      | refine al_last (by kernel_rfl) ?_
    | fail)
    all_goals first | (exfalso; omega) | exact ⟨_, [], rl_, List.nil_sublist _, Sub.refl _, rfl⟩ | exact ⟨_, [], rl_, List.nil_sublist _, Sub.eq (congrArg B (by simp)), rfl⟩
  · have c1 : True := trivial
    have c2 : True := trivial
    refine af_intro Tryd.func4 rfl (by decide) Tryd.ntmps4 rfl ?_
    repeat' (first
    | fail
    | refine s_y ?_
      | refine c_ ?_
      | (refine aw_if ?_ ?_ <;> intro hb <;> try (exfalso; first | assumption | omega | (simp only [or_self, and_self, not_true_eq_false, not_false_eq_true, or_false, false_or, and_false, false_and, true_and, and_true] at hb; first | done | omega)))
      | refine s_call ?_ (c := by first | exact f_scanned | exact c1 | exact c2 | exact f_ref05Same _ _ (by omega) (by omega) | fail)
      | refine s_op ?_ (hy := by first | fail | fail)
      | refine s_yg ?_
      | refine s_callg ?_ (c := by intro hk hk2; first | exact f_scanned | exact c1 | exact c2 | exact f_ref05Same _ _ (by omega) (by omega) | fail)
      | refine s_opg ?_ (hy := by intro hk hk2; first | fail | fail)
      | refine s_skip ?_
      | ((first | refine w_alloc ?_ | refine w_box ?_) <;> intro bb)
      | ((first | refine w_emp ?_ | refine w_make ?_ | refine w_app ?_) <;> intro u hu1 hu2)
      | refine w_stv ?_ | refine w_str ?_ | refine w_cpr ?_ | refine w_cps ?_
      | refine al_last (by kernel_rfl) ?_
    | fail)
    all_goals first | exact ⟨_, [], rl_, List.nil_sublist _, Sub.refl _, rfl⟩ | (exfalso; omega)
end Go.Proofs.YtplabpjkkcillaaDoor
/- Layer 6 (scan): the laws of what is put and of cuts. No condition. -/
namespace Go.Proofs.YtplabpjkkcillaaDoor
set_option linter.unusedSimpArgs false
set_option linter.unusedVariables false
set_option linter.unusedSectionVars false
set_option maxHeartbeats 4000000
open Go Go.RowKit
variable {T0 : Gh} [TabU T0]
set_option maxRecDepth 200000
theorem nextM_more {s : List UInt8} (h : MoreC s) : nextM s = ((0, 0, 0, 0), [], 3) := by
  have h0 : s ≠ [] := by rcases h with ⟨h, _⟩ | ⟨h, _⟩ <;> exact h
  rw [nextM, if_neg h0, cmd_more h]; rfl
theorem nextM_full {c : Cmd} (hc : isCmd c = true) (s : List UInt8) : nextM (bytesB c ++ s) = (c, s, 0) := by
  have hp := (bytesB_len hc).1
  have hne : bytesB c ++ s ≠ [] := by
    intro e; have := congrArg List.length e; simp only [List.length_append, List.length_nil] at this; omega
  rw [nextM, if_neg hne, cmd_full (shape_of hc)]
theorem nextM_bad {s : List UInt8} (h : (nextM s).2.2 ≠ 0) : (nextM s).1 = (0, 0, 0, 0) ∧ (nextM s).2.1 = [] := by
  by_cases h0 : s = []
  · subst h0; exact ⟨rfl, rfl⟩
  · rcases cmd_sound s h0 with ⟨c, l, t, k1, k2, k3⟩ | ⟨k1, k2⟩ | k1
    · exact absurd (by rw [nextM, if_neg h0, k3]) h
    · rw [nextM, if_neg h0, k1]; exact ⟨rfl, rfl⟩
    · rw [nextM, if_neg h0, k1]; exact ⟨rfl, rfl⟩
theorem next_bytes {s : List UInt8} (h : (nextM s).2.2 = 0) : isCmd (nextM s).1 = true ∧ bytesB (nextM s).1 ++ (nextM s).2.1 = s := by
  obtain ⟨l, h1, h2⟩ := next_ok h
  obtain ⟨h3, h4⟩ := shape_is h1
  exact ⟨h3, by rw [h4]; exact h2.symm⟩
attribute [local irreducible] thenA inBlockA AW AL AO QY varO rowO rsA Opd OpdN vA gvA tupA aggA slA slcA ipA rpA EqK LnK IxK LdK FaK FdK
/-- the law's end: what is scanned is what would be put -/
theorem l_ScanBack (c : Cmd) (s : List UInt8) : AP Tryd.prog T0 5 [cmdA c, SA s] (B true) := by
  by_cases hl : s.length ≤ 1000
  · have c1 := f_vtPut (T0 := T0) c
    have c3 := f_scanNext (T0 := T0) s (by omega)
    have hbad := @nextM_bad s
    have hy := @next_bytes s
    obtain ⟨⟨⟨k', a', b', r'⟩, t', e'⟩, hx⟩ : ∃ x, x = nextM s := ⟨_, rfl⟩
    rw [← hx] at c3 hbad hy
    simp only at c3 hbad hy
    clear hx
    have hy2 : e' = 0 → (bytesB (k', a', b', r')).length ≤ 8 := fun h => (bytesB_len (hy h).1).2
    have c5 := f_vtPut (T0 := T0) (k', a', b', r')
    have c4 : True := trivial
    obtain ⟨t, ht, hlt, c2, hmore⟩ : ∃ t : List UInt8, t = (putR' c).1 ∧ t.length ≤ 8 ∧ (isCmd c = true → AP Tryd.prog T0 16 [SA (t ++ s)] (tupA [cmdA c, SA s, I 0])) ∧ ∀ i, 1 ≤ i → i < t.length → AP Tryd.prog T0 16 [SA (t.take i)] (tupA [cmdA (0, 0, 0, 0), SA [], I 3]) := by
      refine ⟨_, rfl, lenC_le c, fun h => ?_, fun i i1 i2 => ?_⟩
      · have e : (putR' c).1 = bytesB c := by rw [putR', if_pos h]
        have := f_scanNext (T0 := T0) (bytesB c ++ s) (by have := (bytesB_len h).2; rw [List.length_append]; omega)
        rw [nextM_full h] at this
        rw [e]; exact this
      · have h : isCmd c = true := by
          by_cases h : isCmd c = true
          · exact h
          · rw [putR', if_neg h] at i2; simp at i2
        have e : (putR' c).1 = bytesB c := by rw [putR', if_pos h]
        rw [e] at i2 ⊢
        have := f_scanNext (T0 := T0) ((bytesB c).take i) (by have := (bytesB_len h).2; rw [List.length_take]; omega)
        rw [nextM_more (more_take (shape_of h) i1 i2)] at this
        exact this
    have hq : putR' c = (t, if isCmd c = true then 0 else 1) := by
      rw [ht, putR']; split <;> rfl
    have hn : ¬ isCmd c = true → t = [] := fun h => by rw [ht, putR', if_neg h]
    rw [hq] at c1
    clear hq ht
    obtain ⟨k, a, b, r⟩ := c
    by_cases hc : isCmd (k, a, b, r) = true
    · rw [if_pos hc] at c1
      have c2 := c2 hc
      refine af_intro Tryd.func5 rfl (by decide) Tryd.ntmps5 rfl ?_
      repeat' (first
      | fail
      | refine s_y ?_
        | refine c_ ?_
        | (refine aw_if ?_ ?_ <;> intro hb <;> try (exfalso; first | assumption | omega | (simp only [or_self, and_self, not_true_eq_false, not_false_eq_true, or_false, false_or, and_false, false_and, true_and, and_true] at hb; first | done | omega)))
        | refine s_call ?_ (c := by first | exact f_scanned | exact c1 | exact c2 | exact c3 | exact c4 | exact c5 | fail)
        | refine s_op ?_ (hy := by first | fail | fail)
        | refine s_yg ?_
        | refine s_callg ?_ (c := by intro hk hk2; first | exact f_scanned | exact c1 | exact c2 | exact c3 | exact c4 | exact c5 | fail)
        | refine s_opg ?_ (hy := by intro hk hk2; first | fail | fail)
        | refine s_skip ?_
        | ((first | refine w_alloc ?_ | refine w_box ?_) <;> intro bb)
        | ((first | refine w_emp ?_ | refine w_make ?_ | refine w_app ?_) <;> intro u hu1 hu2)
        | refine w_stv ?_ | refine w_str ?_ | refine w_cpr ?_ | refine w_cps ?_
        | refine al_last (by kernel_rfl) ?_
      | fail)
      all_goals first | (exfalso; omega) | (exfalso; simp at hb; done) | skip
      clear c1 c2
      have c1 : True := trivial
      have c2 : True := trivial
      refine aw_lf (σ := Nat) (fun i => [(10, I i)]) (fun i => 1 ≤ i ∧ i ≤ 9) (fun i => 9 - i) 1 ⟨by omega, by omega⟩ ?_
      rintro i ⟨i1, i2⟩
      by_cases hlt2 : i < t.length
      · clear c4
        have c4 := hmore i i1 hlt2
        repeat' (first
        | fail
        | refine s_y ?_
          | refine c_ ?_
          | (refine aw_if ?_ ?_ <;> intro hb <;> try (exfalso; first | assumption | omega | (simp only [or_self, and_self, not_true_eq_false, not_false_eq_true, or_false, false_or, and_false, false_and, true_and, and_true] at hb; first | done | omega)))
          | refine s_call ?_ (c := by first | exact f_scanned | exact c1 | exact c2 | exact c3 | exact c4 | exact c5 | fail)
          | refine s_op ?_ (hy := by first | fail | fail)
          | refine s_yg ?_
          | refine s_callg ?_ (c := by intro hk hk2; first | exact f_scanned | exact c1 | exact c2 | exact c3 | exact c4 | exact c5 | fail)
          | refine s_opg ?_ (hy := by intro hk hk2; first | fail | fail)
          | refine s_skip ?_
          | ((first | refine w_alloc ?_ | refine w_box ?_) <;> intro bb)
          | ((first | refine w_emp ?_ | refine w_make ?_ | refine w_app ?_) <;> intro u hu1 hu2)
          | refine w_stv ?_ | refine w_str ?_ | refine w_cpr ?_ | refine w_cps ?_
          | refine al_last (by kernel_rfl) ?_
        | fail)
        all_goals first | (exfalso; omega) | exact ⟨i + 1, ⟨by omega, by omega⟩, by omega, wx_, sl_⟩
      · by_cases he : e' = 0
        · subst he
          obtain ⟨y1, y2⟩ := hy rfl
          have y3 := hy2 rfl
          rw [putR', if_pos y1] at c5
          generalize bytesB (k', a', b', r') = z at c5 y2 y3
          have y4 : t'.length ≤ 1000 := by rw [← y2, List.length_append] at hl; omega
          replace c5 : AP Tryd.prog T0 22 [cmdA (k', a', b', r')] (tupA [SA z, I 0]) := c5
          clear hy hy2 hbad hmore hn
          repeat' (first
          | fail
          | refine s_y ?_
            | refine c_ ?_
            | (refine aw_if ?_ ?_ <;> intro hb <;> try (exfalso; first | assumption | omega | (simp only [or_self, and_self, not_true_eq_false, not_false_eq_true, or_false, false_or, and_false, false_and, true_and, and_true] at hb; first | done | omega)))
            | refine s_call ?_ (c := by first | exact f_scanned | exact c1 | exact c2 | exact c3 | exact c4 | exact c5 | fail)
            | refine s_op ?_ (hy := by first | fail | fail)
            | refine s_yg ?_
            | refine s_callg ?_ (c := by intro hk hk2; first | exact f_scanned | exact c1 | exact c2 | exact c3 | exact c4 | exact c5 | fail)
            | refine s_opg ?_ (hy := by intro hk hk2; first | fail | fail)
            | refine s_skip ?_
            | ((first | refine w_alloc ?_ | refine w_box ?_) <;> intro bb)
            | ((first | refine w_emp ?_ | refine w_make ?_ | refine w_app ?_) <;> intro u hu1 hu2)
            | refine w_stv ?_ | refine w_str ?_ | refine w_cpr ?_ | refine w_cps ?_
            | refine al_last (by kernel_rfl) ?_
          | fail)
          all_goals first | (exfalso; omega) | exact ⟨_, [], rl_, List.nil_sublist _, Sub.refl _, rfl⟩ | exact ⟨_, [], rl_, List.nil_sublist _, Sub.eq (congrArg B (by simp [y2])), rfl⟩
        · obtain ⟨y1, y2⟩ := hbad he
          obtain ⟨rfl, rfl, rfl, rfl⟩ : k' = 0 ∧ a' = 0 ∧ b' = 0 ∧ r' = 0 := by simpa using y1
          subst y2
          clear hy hy2 hbad hmore hn c5
          have c5 : True := trivial
          repeat' (first
          | fail
          | refine s_y ?_
            | refine c_ ?_
            | (refine aw_if ?_ ?_ <;> intro hb <;> try (exfalso; first | assumption | omega | (simp only [or_self, and_self, not_true_eq_false, not_false_eq_true, or_false, false_or, and_false, false_and, true_and, and_true] at hb; first | done | omega)))
            | refine s_call ?_ (c := by first | exact f_scanned | exact c1 | exact c2 | exact c3 | exact c4 | exact c5 | fail)
            | refine s_op ?_ (hy := by first | fail | fail)
            | refine s_yg ?_
            | refine s_callg ?_ (c := by intro hk hk2; first | exact f_scanned | exact c1 | exact c2 | exact c3 | exact c4 | exact c5 | fail)
            | refine s_opg ?_ (hy := by intro hk hk2; first | fail | fail)
            | refine s_skip ?_
            | ((first | refine w_alloc ?_ | refine w_box ?_) <;> intro bb)
            | ((first | refine w_emp ?_ | refine w_make ?_ | refine w_app ?_) <;> intro u hu1 hu2)
            | refine w_stv ?_ | refine w_str ?_ | refine w_cpr ?_ | refine w_cps ?_
            | refine al_last (by kernel_rfl) ?_
          | fail)
          all_goals first | (exfalso; omega) | exact ⟨_, [], rl_, List.nil_sublist _, Sub.refl _, rfl⟩ | exact ⟨_, [], rl_, List.nil_sublist _, Sub.eq (congrArg B (by simp)), rfl⟩
    · rw [if_neg hc] at c1
      have c2 : True := trivial
      refine af_intro Tryd.func5 rfl (by decide) Tryd.ntmps5 rfl ?_
      repeat' (first
      | fail
      | refine s_y ?_
        | refine c_ ?_
        | (refine aw_if ?_ ?_ <;> intro hb <;> try (exfalso; first | assumption | omega | (simp only [or_self, and_self, not_true_eq_false, not_false_eq_true, or_false, false_or, and_false, false_and, true_and, and_true] at hb; first | done | omega)))
        | refine s_call ?_ (c := by first | exact f_scanned | exact c1 | exact c2 | exact c3 | exact c4 | exact c5 | fail)
        | refine s_op ?_ (hy := by first | fail | fail)
        | refine s_yg ?_
        | refine s_callg ?_ (c := by intro hk hk2; first | exact f_scanned | exact c1 | exact c2 | exact c3 | exact c4 | exact c5 | fail)
        | refine s_opg ?_ (hy := by intro hk hk2; first | fail | fail)
        | refine s_skip ?_
        | ((first | refine w_alloc ?_ | refine w_box ?_) <;> intro bb)
        | ((first | refine w_emp ?_ | refine w_make ?_ | refine w_app ?_) <;> intro u hu1 hu2)
        | refine w_stv ?_ | refine w_str ?_ | refine w_cpr ?_ | refine w_cps ?_
        | refine al_last (by kernel_rfl) ?_
      | fail)
      all_goals first | (exfalso; omega) | (exfalso; simp at hb; done) | skip
      clear c1 c2
      have c1 : True := trivial
      have c2 : True := trivial
      refine aw_lf (σ := Nat) (fun i => [(10, I i)]) (fun i => 1 ≤ i ∧ i ≤ 9) (fun i => 9 - i) 1 ⟨by omega, by omega⟩ ?_
      rintro i ⟨i1, i2⟩
      by_cases hlt2 : i < t.length
      · clear c4
        have c4 := hmore i i1 hlt2
        repeat' (first
        | fail
        | refine s_y ?_
          | refine c_ ?_
          | (refine aw_if ?_ ?_ <;> intro hb <;> try (exfalso; first | assumption | omega | (simp only [or_self, and_self, not_true_eq_false, not_false_eq_true, or_false, false_or, and_false, false_and, true_and, and_true] at hb; first | done | omega)))
          | refine s_call ?_ (c := by first | exact f_scanned | exact c1 | exact c2 | exact c3 | exact c4 | exact c5 | fail)
          | refine s_op ?_ (hy := by first | fail | fail)
          | refine s_yg ?_
          | refine s_callg ?_ (c := by intro hk hk2; first | exact f_scanned | exact c1 | exact c2 | exact c3 | exact c4 | exact c5 | fail)
          | refine s_opg ?_ (hy := by intro hk hk2; first | fail | fail)
          | refine s_skip ?_
          | ((first | refine w_alloc ?_ | refine w_box ?_) <;> intro bb)
          | ((first | refine w_emp ?_ | refine w_make ?_ | refine w_app ?_) <;> intro u hu1 hu2)
          | refine w_stv ?_ | refine w_str ?_ | refine w_cpr ?_ | refine w_cps ?_
          | refine al_last (by kernel_rfl) ?_
        | fail)
        all_goals first | (exfalso; omega) | exact ⟨i + 1, ⟨by omega, by omega⟩, by omega, wx_, sl_⟩
      · by_cases he : e' = 0
        · subst he
          obtain ⟨y1, y2⟩ := hy rfl
          have y3 := hy2 rfl
          rw [putR', if_pos y1] at c5
          generalize bytesB (k', a', b', r') = z at c5 y2 y3
          have y4 : t'.length ≤ 1000 := by rw [← y2, List.length_append] at hl; omega
          replace c5 : AP Tryd.prog T0 22 [cmdA (k', a', b', r')] (tupA [SA z, I 0]) := c5
          clear hy hy2 hbad hmore hn
          repeat' (first
          | fail
          | refine s_y ?_
            | refine c_ ?_
            | (refine aw_if ?_ ?_ <;> intro hb <;> try (exfalso; first | assumption | omega | (simp only [or_self, and_self, not_true_eq_false, not_false_eq_true, or_false, false_or, and_false, false_and, true_and, and_true] at hb; first | done | omega)))
            | refine s_call ?_ (c := by first | exact f_scanned | exact c1 | exact c2 | exact c3 | exact c4 | exact c5 | fail)
            | refine s_op ?_ (hy := by first | fail | fail)
            | refine s_yg ?_
            | refine s_callg ?_ (c := by intro hk hk2; first | exact f_scanned | exact c1 | exact c2 | exact c3 | exact c4 | exact c5 | fail)
            | refine s_opg ?_ (hy := by intro hk hk2; first | fail | fail)
            | refine s_skip ?_
            | ((first | refine w_alloc ?_ | refine w_box ?_) <;> intro bb)
            | ((first | refine w_emp ?_ | refine w_make ?_ | refine w_app ?_) <;> intro u hu1 hu2)
            | refine w_stv ?_ | refine w_str ?_ | refine w_cpr ?_ | refine w_cps ?_
            | refine al_last (by kernel_rfl) ?_
          | fail)
          all_goals first | (exfalso; omega) | exact ⟨_, [], rl_, List.nil_sublist _, Sub.refl _, rfl⟩ | exact ⟨_, [], rl_, List.nil_sublist _, Sub.eq (congrArg B (by simp [y2])), rfl⟩
        · obtain ⟨y1, y2⟩ := hbad he
          obtain ⟨rfl, rfl, rfl, rfl⟩ : k' = 0 ∧ a' = 0 ∧ b' = 0 ∧ r' = 0 := by simpa using y1
          subst y2
          clear hy hy2 hbad hmore hn c5
          have c5 : True := trivial
          repeat' (first
          | fail
          | refine s_y ?_
            | refine c_ ?_
            | (refine aw_if ?_ ?_ <;> intro hb <;> try (exfalso; first | assumption | omega | (simp only [or_self, and_self, not_true_eq_false, not_false_eq_true, or_false, false_or, and_false, false_and, true_and, and_true] at hb; first | done | omega)))
            | refine s_call ?_ (c := by first | exact f_scanned | exact c1 | exact c2 | exact c3 | exact c4 | exact c5 | fail)
            | refine s_op ?_ (hy := by first | fail | fail)
            | refine s_yg ?_
            | refine s_callg ?_ (c := by intro hk hk2; first | exact f_scanned | exact c1 | exact c2 | exact c3 | exact c4 | exact c5 | fail)
            | refine s_opg ?_ (hy := by intro hk hk2; first | fail | fail)
            | refine s_skip ?_
            | ((first | refine w_alloc ?_ | refine w_box ?_) <;> intro bb)
            | ((first | refine w_emp ?_ | refine w_make ?_ | refine w_app ?_) <;> intro u hu1 hu2)
            | refine w_stv ?_ | refine w_str ?_ | refine w_cpr ?_ | refine w_cps ?_
            | refine al_last (by kernel_rfl) ?_
          | fail)
          all_goals first | (exfalso; omega) | exact ⟨_, [], rl_, List.nil_sublist _, Sub.refl _, rfl⟩ | exact ⟨_, [], rl_, List.nil_sublist _, Sub.eq (congrArg B (by simp)), rfl⟩
  · have c1 : True := trivial
    have c2 : True := trivial
    have c3 : True := trivial
    have c4 : True := trivial
    have c5 : True := trivial
    refine af_intro Tryd.func5 rfl (by decide) Tryd.ntmps5 rfl ?_
    repeat' (first
    | fail
    | refine s_y ?_
      | refine c_ ?_
      | (refine aw_if ?_ ?_ <;> intro hb <;> try (exfalso; first | assumption | omega | (simp only [or_self, and_self, not_true_eq_false, not_false_eq_true, or_false, false_or, and_false, false_and, true_and, and_true] at hb; first | done | omega)))
      | refine s_call ?_ (c := by first | exact f_scanned | exact c1 | exact c2 | exact c3 | exact c4 | exact c5 | fail)
      | refine s_op ?_ (hy := by first | fail | fail)
      | refine s_yg ?_
      | refine s_callg ?_ (c := by intro hk hk2; first | exact f_scanned | exact c1 | exact c2 | exact c3 | exact c4 | exact c5 | fail)
      | refine s_opg ?_ (hy := by intro hk hk2; first | fail | fail)
      | refine s_skip ?_
      | ((first | refine w_alloc ?_ | refine w_box ?_) <;> intro bb)
      | ((first | refine w_emp ?_ | refine w_make ?_ | refine w_app ?_) <;> intro u hu1 hu2)
      | refine w_stv ?_ | refine w_str ?_ | refine w_cpr ?_ | refine w_cps ?_
      | refine al_last (by kernel_rfl) ?_
    | fail)
    all_goals first | exact ⟨_, [], rl_, List.nil_sublist _, Sub.refl _, rfl⟩ | (exfalso; omega)
end Go.Proofs.YtplabpjkkcillaaDoor
/- Layer 6 (scan): the law of commands that were put, and that of cuts. No condition. -/
namespace Go.Proofs.YtplabpjkkcillaaDoor
set_option linter.unusedSimpArgs false
set_option linter.unusedVariables false
set_option linter.unusedSectionVars false
set_option maxHeartbeats 4000000
open Go Go.RowKit
variable {T0 : Gh} [TabU T0]
set_option maxRecDepth 200000
theorem put_len : ∀ l : List Cmd, (∀ c ∈ l, isCmd c = true) → (l.flatMap bytesB).length ≤ 8 * l.length
  | [], _ => by simp
  | c :: l, h => by
    have h1 := (bytesB_len (h c (by simp))).2
    have := put_len l fun d hd => h d (by simp [hd])
    rw [List.flatMap_cons, List.length_append, List.length_cons]; omega
theorem put_snoc (l : List Cmd) (k : Nat) (h : k < l.length) : (isCmd l[k] = true → (l.take (k + 1)).filter isCmd = (l.take k).filter isCmd ++ [l[k]]) ∧ (isCmd l[k] = false → (l.take (k + 1)).filter isCmd = (l.take k).filter isCmd) := by
  rw [List.take_succ_eq_append_getElem h, List.filter_append]
  constructor <;> intro e <;> simp [e]
attribute [local irreducible] thenA inBlockA AW AL AO QY varO rowO rsA Opd OpdN vA gvA tupA aggA slA slcA ipA rpA EqK LnK IxK LdK FaK FdK
theorem l_ScanGoes (l : List Cmd) (s : List UInt8) : AP Tryd.prog T0 6 [slA cmdT l, SA s] (B true) := by
  by_cases hl : l.length ≤ 200 ∧ s.length ≤ 1000
  · obtain ⟨hl, hs⟩ := hl
    have c1 : True := trivial
    have c2 : True := trivial
    refine af_intro Tryd.func6 rfl (by decide) Tryd.ntmps6 rfl ?_
    repeat' (first
    | fail
    | refine s_y ?_
      | refine c_ ?_
      | (refine aw_if ?_ ?_ <;> intro hb <;> try (exfalso; first | assumption | omega | (simp only [or_self, and_self, not_true_eq_false, not_false_eq_true, or_false, false_or, and_false, false_and, true_and, and_true] at hb; first | done | omega)))
      | refine s_call ?_ (c := by first | exact f_scanned | exact c1 | exact c2 | exact f_ref05Same _ _ gb_ gb_ | fail)
      | refine s_op ?_ (hy := by first | (apply bs_cmdA rfl un_; exact oo_; done) | fail)
      | refine s_yg ?_
      | refine s_callg ?_ (c := by intro hk hk2; first | exact f_scanned | exact c1 | exact c2 | exact f_ref05Same _ _ gb_ gb_ | fail)
      | refine s_opg ?_ (hy := by intro hk hk2; first | (apply bs_cmdA rfl un_; exact oo_; done) | fail)
      | refine s_skip ?_
      | ((first | refine w_alloc ?_ | refine w_box ?_) <;> intro bb)
      | ((first | refine w_emp ?_ | refine w_make ?_ | refine w_app ?_) <;> intro u hu1 hu2)
      | refine w_stv ?_ | refine w_str ?_ | refine w_cpr ?_ | refine w_cps ?_
      | refine al_last (by kernel_rfl) ?_
    | fail)
    all_goals first | (exfalso; omega) | skip
    refine aw_la 6 (fun y : Nat × List UInt8 × List Cmd => [(5, SA y.2.1), (7, I y.1)]) (fun y => y.2.2) (fun y => y.1 ≤ l.length ∧ y.2.2 = (l.take y.1).filter isCmd ∧ y.2.1 = y.2.2.flatMap bytesB ∧ y.2.2.length ≤ y.1 ∧ y.2.1.length ≤ 8 * y.1) (fun y => l.length - y.1) (0, [], []) ⟨Nat.zero_le _, by simp, rfl, Nat.le_refl _, by simp⟩ rfl ?_
    rintro ⟨k, t, out⟩ u ⟨i1, i2, i3, i4, i5⟩ hu1 hu2
    simp only at i1 i2 i3 i4 i5 ⊢
    by_cases hlt : k < l.length
    · clear c1
      have c1 := f_vtPut (T0 := T0) l[k]
      obtain ⟨n1, n2⟩ := put_snoc l k hlt
      cases hc : isCmd l[k] with
      | true =>
        have n1 := n1 hc
        have b1 := (bytesB_len hc).2
        rw [putR', if_pos hc] at c1
        replace c1 : AP Tryd.prog T0 22 [cmdA l[k]] (tupA [SA (bytesB l[k]), I 0]) := c1
        have n3 : (out ++ [l[k]]).flatMap bytesB = t ++ bytesB l[k] := by rw [i3]; simp
        rw [← i2] at n1
        obtain ⟨z, hz⟩ : ∃ z, z = bytesB l[k] := ⟨_, rfl⟩
        rw [← hz] at c1 b1 n3
        obtain ⟨c, hcc⟩ : ∃ c, c = l[k] := ⟨_, rfl⟩
        have hget : l[k]? = some c := by rw [hcc]; exact List.getElem?_eq_getElem hlt
        rw [← hcc] at c1 n1 n3
        clear hz n2 hc hcc
        repeat' (first
        | fail
        | refine s_y ?_
          | refine c_ ?_
          | (refine aw_if ?_ ?_ <;> intro hb <;> try (exfalso; first | assumption | omega | (simp only [or_self, and_self, not_true_eq_false, not_false_eq_true, or_false, false_or, and_false, false_and, true_and, and_true] at hb; first | done | omega)))
          | refine s_call ?_ (c := by first | exact f_scanned | exact c1 | exact c2 | exact f_ref05Same _ _ gb_ gb_ | fail)
          | refine s_op ?_ (hy := by first | (apply bs_cmdA rfl un_; exact oo_; done) | fail)
          | refine s_yg ?_
          | refine s_callg ?_ (c := by intro hk hk2; first | exact f_scanned | exact c1 | exact c2 | exact f_ref05Same _ _ gb_ gb_ | fail)
          | refine s_opg ?_ (hy := by intro hk hk2; first | (apply bs_cmdA rfl un_; exact oo_; done) | fail)
          | refine s_skip ?_
          | ((first | refine w_alloc ?_ | refine w_box ?_) <;> intro bb)
          | ((first | refine w_emp ?_ | refine w_make ?_ | refine w_app ?_) <;> intro u hu1 hu2)
          | refine w_stv ?_ | refine w_str ?_ | refine w_cpr ?_ | refine w_cps ?_
          | refine al_last (by kernel_rfl) ?_
        | fail)
        all_goals first | (exfalso; omega) | exact ⟨(k + 1, t ++ z, out ++ [c]), _, ⟨by simp only; omega, n1.symm, n3.symm, by simp only [List.length_append, List.length_singleton]; omega, by simp only [List.length_append]; omega⟩, by simp only; omega, wx_, sl_⟩
      | false =>
        have n2 := n2 hc
        rw [putR', if_neg (by rw [hc]; decide)] at c1
        replace c1 : AP Tryd.prog T0 22 [cmdA l[k]] (tupA [SA [], I 1]) := c1
        rw [← i2] at n2
        obtain ⟨c, hcc⟩ : ∃ c, c = l[k] := ⟨_, rfl⟩
        have hget : l[k]? = some c := by rw [hcc]; exact List.getElem?_eq_getElem hlt
        rw [← hcc] at c1
        clear n1 hc hcc
        repeat' (first
        | fail
        | refine s_y ?_
          | refine c_ ?_
          | (refine aw_if ?_ ?_ <;> intro hb <;> try (exfalso; first | assumption | omega | (simp only [or_self, and_self, not_true_eq_false, not_false_eq_true, or_false, false_or, and_false, false_and, true_and, and_true] at hb; first | done | omega)))
          | refine s_call ?_ (c := by first | exact f_scanned | exact c1 | exact c2 | exact f_ref05Same _ _ gb_ gb_ | fail)
          | refine s_op ?_ (hy := by first | (apply bs_cmdA rfl un_; exact oo_; done) | fail)
          | refine s_yg ?_
          | refine s_callg ?_ (c := by intro hk hk2; first | exact f_scanned | exact c1 | exact c2 | exact f_ref05Same _ _ gb_ gb_ | fail)
          | refine s_opg ?_ (hy := by intro hk hk2; first | (apply bs_cmdA rfl un_; exact oo_; done) | fail)
          | refine s_skip ?_
          | ((first | refine w_alloc ?_ | refine w_box ?_) <;> intro bb)
          | ((first | refine w_emp ?_ | refine w_make ?_ | refine w_app ?_) <;> intro u hu1 hu2)
          | refine w_stv ?_ | refine w_str ?_ | refine w_cpr ?_ | refine w_cps ?_
          | refine al_last (by kernel_rfl) ?_
        | fail)
        all_goals first | (exfalso; omega) | exact ⟨(k + 1, t, out), _, ⟨by simp only; omega, n2.symm, i3, by simp only; omega, by simp only; omega⟩, by simp only; omega, wx_, sl_⟩
    · rw [List.take_of_length_le (by omega)] at i2
      have hr : ∀ c ∈ out, isCmd c = true := fun c hc => by rw [i2] at hc; exact (List.mem_filter.1 hc).2
      have hp := allS_put out s hr
      rw [← i3] at hp
      have hlen := allS_len s
      clear c1 c2
      have c1 := f_scanAll (T0 := T0) (t ++ s) (by rw [List.length_append]; omega)
      have c2 := f_scanAll (T0 := T0) s (by omega)
      rw [hp] at c1
      apply aw_freezeF 0 rfl
      case hz => simp only [List.cons_append, List.nil_append]; repeat' (first | exact fzf_nil | apply fzf_cons | exact fz_here | exact fz_keep)
      rcases allS_err s with he | he
      · obtain ⟨⟨m, x, e⟩, hx⟩ : ∃ x, x = allS s := ⟨_, rfl⟩
        rw [← hx] at c1 c2 he hlen
        simp only at he
        subst he
        replace c1 : AP Tryd.prog T0 19 [SA (t ++ s)] (tupA [slA cmdT (out ++ m), SA x, I 0]) := c1
        replace c2 : AP Tryd.prog T0 19 [SA s] (tupA [slA cmdT m, SA x, I 0]) := c2
        simp only at hlen
        clear hp hr i2 i3 hx
        repeat' (first
        | fail
        | refine s_y ?_
          | refine c_ ?_
          | (refine aw_if ?_ ?_ <;> intro hb <;> try (exfalso; first | assumption | omega | (simp only [or_self, and_self, not_true_eq_false, not_false_eq_true, or_false, false_or, and_false, false_and, true_and, and_true] at hb; first | done | omega)))
          | refine s_call ?_ (c := by first | exact f_scanned | exact c1 | exact c2 | exact f_ref05Same _ _ gb_ gb_ | fail)
          | refine s_op ?_ (hy := by first | (apply bs_cmdA rfl un_; exact oo_; done) | fail)
          | refine s_yg ?_
          | refine s_callg ?_ (c := by intro hk hk2; first | exact f_scanned | exact c1 | exact c2 | exact f_ref05Same _ _ gb_ gb_ | fail)
          | refine s_opg ?_ (hy := by intro hk hk2; first | (apply bs_cmdA rfl un_; exact oo_; done) | fail)
          | refine s_skip ?_
          | ((first | refine w_alloc ?_ | refine w_box ?_) <;> intro bb)
          | ((first | refine w_emp ?_ | refine w_make ?_ | refine w_app ?_) <;> intro u hu1 hu2)
          | refine w_stv ?_ | refine w_str ?_ | refine w_cpr ?_ | refine w_cps ?_
          | refine al_last (by kernel_rfl) ?_
        | fail)
        all_goals first | (exfalso; omega) | (exfalso; simp at hb; done) | exact ⟨_, [], rl_, List.nil_sublist _, Sub.refl _, rfl⟩ | exact ⟨_, [], rl_, List.nil_sublist _, Sub.eq (congrArg B (by simp)), rfl⟩
      · rw [he] at c1 c2
        replace c1 : AP Tryd.prog T0 19 [SA (t ++ s)] (tupA [slA cmdT [], SA [], I 2]) := c1
        replace c2 : AP Tryd.prog T0 19 [SA s] (tupA [slA cmdT [], SA [], I 2]) := c2
        clear hp hr i2 i3
        repeat' (first
        | fail
        | refine s_y ?_
          | refine c_ ?_
          | (refine aw_if ?_ ?_ <;> intro hb <;> try (exfalso; first | assumption | omega | (simp only [or_self, and_self, not_true_eq_false, not_false_eq_true, or_false, false_or, and_false, false_and, true_and, and_true] at hb; first | done | omega)))
          | refine s_call ?_ (c := by first | exact f_scanned | exact c1 | exact c2 | exact f_ref05Same _ _ gb_ gb_ | fail)
          | refine s_op ?_ (hy := by first | (apply bs_cmdA rfl un_; exact oo_; done) | fail)
          | refine s_yg ?_
          | refine s_callg ?_ (c := by intro hk hk2; first | exact f_scanned | exact c1 | exact c2 | exact f_ref05Same _ _ gb_ gb_ | fail)
          | refine s_opg ?_ (hy := by intro hk hk2; first | (apply bs_cmdA rfl un_; exact oo_; done) | fail)
          | refine s_skip ?_
          | ((first | refine w_alloc ?_ | refine w_box ?_) <;> intro bb)
          | ((first | refine w_emp ?_ | refine w_make ?_ | refine w_app ?_) <;> intro u hu1 hu2)
          | refine w_stv ?_ | refine w_str ?_ | refine w_cpr ?_ | refine w_cps ?_
          | refine al_last (by kernel_rfl) ?_
        | fail)
        all_goals first | (exfalso; omega) | (exfalso; simp at hb; done) | exact ⟨_, [], rl_, List.nil_sublist _, Sub.refl _, rfl⟩ | exact ⟨_, [], rl_, List.nil_sublist _, Sub.eq (congrArg B (by simp)), rfl⟩
  · have c1 : True := trivial
    have c2 : True := trivial
    refine af_intro Tryd.func6 rfl (by decide) Tryd.ntmps6 rfl ?_
    repeat' (first
    | fail
    | refine s_y ?_
      | refine c_ ?_
      | (refine aw_if ?_ ?_ <;> intro hb <;> try (exfalso; first | assumption | omega | (simp only [or_self, and_self, not_true_eq_false, not_false_eq_true, or_false, false_or, and_false, false_and, true_and, and_true] at hb; first | done | omega)))
      | refine s_call ?_ (c := by first | exact f_scanned | exact c1 | exact c2 | exact f_ref05Same _ _ gb_ gb_ | fail)
      | refine s_op ?_ (hy := by first | (apply bs_cmdA rfl un_; exact oo_; done) | fail)
      | refine s_yg ?_
      | refine s_callg ?_ (c := by intro hk hk2; first | exact f_scanned | exact c1 | exact c2 | exact f_ref05Same _ _ gb_ gb_ | fail)
      | refine s_opg ?_ (hy := by intro hk hk2; first | (apply bs_cmdA rfl un_; exact oo_; done) | fail)
      | refine s_skip ?_
      | ((first | refine w_alloc ?_ | refine w_box ?_) <;> intro bb)
      | ((first | refine w_emp ?_ | refine w_make ?_ | refine w_app ?_) <;> intro u hu1 hu2)
      | refine w_stv ?_ | refine w_str ?_ | refine w_cpr ?_ | refine w_cps ?_
      | refine al_last (by kernel_rfl) ?_
    | fail)
    all_goals first | exact ⟨_, [], rl_, List.nil_sublist _, Sub.refl _, rfl⟩ | (exfalso; omega)
/-- where scan.All bears the bytes (it is asked ahead of the guard on their number) -/
theorem l_ScanCuts (s : List UInt8) (i : Int) (hs : s.length ≤ 4000000000) : AP Tryd.prog T0 7 [SA s, I i] (B true) := by
  have c1 := f_scanAll (T0 := T0) s hs
  have hsound := allS_sound s
  have happ := fun n => allS_app (s.take n) (s.drop n)
  have hlen := allS_len s
  have herr := allS_err s
  simp only [List.take_append_drop] at happ
  obtain ⟨⟨l, x, e⟩, hx⟩ : ∃ x, x = allS s := ⟨_, rfl⟩
  rw [← hx] at c1 hsound happ hlen herr
  simp only at c1 hsound hlen
  by_cases hg : s.length ≤ 1000 ∧ 0 ≤ i ∧ i ≤ s.length ∧ e = 0
  · obtain ⟨h1, h2, h3, h4⟩ := hg
    subst h4
    obtain ⟨n, rfl⟩ := Int.eq_ofNat_of_zero_le h2
    have hn : n ≤ s.length := by omega
    obtain ⟨a1, a2⟩ := happ n
    have a3 : (allS (s.take n)).2.2 = 0 := by
      by_cases h : (allS (s.take n)).2.2 = 0
      · exact h
      · have := congrArg (·.2.2) (a2 h); cases this
    have a4 := a1 a3
    obtain ⟨s1, s2, s3, s4⟩ := hsound rfl
    obtain ⟨f1, f2, f3, f4⟩ := allS_sound (s.take n) a3
    have fl := allS_len (s.take n)
    have htl : (s.take n).length = n := by rw [List.length_take]; omega
    rw [htl] at f1 fl
    have c2 := f_scanAll (T0 := T0) (s.take n) (by omega)
    have f5 : (allS (s.take n)).2.1.length ≤ 7 := by
      rcases f4 with ⟨h, _⟩ | ⟨h, _⟩
      · rw [h]; simp
      · have := more_len h; omega
    have c4 := f_scanNext (T0 := T0) (allS (s.take n)).2.1 (by omega)
    have c3 := f_scanAll (T0 := T0) ((allS (s.take n)).2.1 ++ s.drop n) (by rw [List.length_append, List.length_drop]; omega)
    have f6 : (nextM (allS (s.take n)).2.1).2.2 = 3 ∨ (nextM (allS (s.take n)).2.1).2.2 = 6 := by
      rcases f4 with ⟨_, h⟩ | ⟨_, h⟩
      · exact .inr h
      · exact .inl h
    obtain ⟨⟨⟨k', a', b', r'⟩, t', e'⟩, hy⟩ : ∃ x, x = nextM (allS (s.take n)).2.1 := ⟨_, rfl⟩
    rw [← hy] at c4 f6
    simp only at c4 f6
    obtain ⟨⟨a, left, f⟩, hz⟩ : ∃ x, x = allS (s.take n) := ⟨_, rfl⟩
    rw [← hz] at a3 a4 f1 f5 c2 c3 c4 fl
    simp only at a3 a4 f1 f5 c2 c3 c4 fl
    subst a3
    rcases allS_err (left ++ s.drop n) with hb | hb
    · obtain ⟨⟨b, last, g⟩, hw⟩ : ∃ x, x = allS (left ++ s.drop n) := ⟨_, rfl⟩
      rw [← hw] at a4 c3 hb
      simp only at c3 hb
      subst hb
      have a5 : (l, x, (0 : Int)) = (a ++ b, last, 0) := a4
      simp only [Prod.mk.injEq, and_true] at a5
      obtain ⟨rfl, rfl⟩ := a5
      have e1 : (s.drop n) = (s.drop n).take (s.length - n) := (List.take_of_length_le (by rw [List.length_drop]; omega)).symm
      rw [e1] at c3
      clear e1 hsound happ herr hx a1 a2 a4 s2 s3 s4 f2 f3 f4 hy hz hw h2
      have b1 : (a ++ b).length = a.length + b.length := List.length_append
      have b2 := costM_le (a ++ b)
      rcases f6 with rfl | rfl
      · refine af_intro Tryd.func7 rfl (by decide) Tryd.ntmps7 rfl ?_
        repeat' (first
        | fail
        | refine s_y ?_
          | refine c_ ?_
          | (refine aw_if ?_ ?_ <;> intro hb <;> try (exfalso; first | assumption | omega | (simp only [or_self, and_self, not_true_eq_false, not_false_eq_true, or_false, false_or, and_false, false_and, true_and, and_true] at hb; first | done | omega)))
          | refine s_call ?_ (c := by first | exact f_scanned | exact c1 | exact c2 | exact c3 | exact c4 | exact f_ref05Same _ _ gb_ gb_ | exact f_vtCost _ gb_ | fail)
          | refine s_op ?_ (hy := by first | (apply bs_cmdA rfl un_; exact oo_; done) | fail)
          | refine s_yg ?_
          | refine s_callg ?_ (c := by intro hk hk2; first | exact f_scanned | exact c1 | exact c2 | exact c3 | exact c4 | exact f_ref05Same _ _ gb_ gb_ | exact f_vtCost _ gb_ | fail)
          | refine s_opg ?_ (hy := by intro hk hk2; first | (apply bs_cmdA rfl un_; exact oo_; done) | fail)
          | refine s_skip ?_
          | ((first | refine w_alloc ?_ | refine w_box ?_) <;> intro bb)
          | ((first | refine w_emp ?_ | refine w_make ?_ | refine w_app ?_) <;> intro u hu1 hu2)
          | refine w_stv ?_ | refine w_str ?_ | refine w_cpr ?_ | refine w_cps ?_
          | refine al_last (by kernel_rfl) ?_
        | fail)
        all_goals first | (exfalso; omega) | (exfalso; simp at hb; done) | exact ⟨_, [], rl_, List.nil_sublist _, Sub.refl _, rfl⟩ | exact ⟨_, [], rl_, List.nil_sublist _, Sub.eq (congrArg B (by simp; omega)), rfl⟩
      · refine af_intro Tryd.func7 rfl (by decide) Tryd.ntmps7 rfl ?_
        repeat' (first
        | fail
        | refine s_y ?_
          | refine c_ ?_
          | (refine aw_if ?_ ?_ <;> intro hb <;> try (exfalso; first | assumption | omega | (simp only [or_self, and_self, not_true_eq_false, not_false_eq_true, or_false, false_or, and_false, false_and, true_and, and_true] at hb; first | done | omega)))
          | refine s_call ?_ (c := by first | exact f_scanned | exact c1 | exact c2 | exact c3 | exact c4 | exact f_ref05Same _ _ gb_ gb_ | exact f_vtCost _ gb_ | fail)
          | refine s_op ?_ (hy := by first | (apply bs_cmdA rfl un_; exact oo_; done) | fail)
          | refine s_yg ?_
          | refine s_callg ?_ (c := by intro hk hk2; first | exact f_scanned | exact c1 | exact c2 | exact c3 | exact c4 | exact f_ref05Same _ _ gb_ gb_ | exact f_vtCost _ gb_ | fail)
          | refine s_opg ?_ (hy := by intro hk hk2; first | (apply bs_cmdA rfl un_; exact oo_; done) | fail)
          | refine s_skip ?_
          | ((first | refine w_alloc ?_ | refine w_box ?_) <;> intro bb)
          | ((first | refine w_emp ?_ | refine w_make ?_ | refine w_app ?_) <;> intro u hu1 hu2)
          | refine w_stv ?_ | refine w_str ?_ | refine w_cpr ?_ | refine w_cps ?_
          | refine al_last (by kernel_rfl) ?_
        | fail)
        all_goals first | (exfalso; omega) | (exfalso; simp at hb; done) | exact ⟨_, [], rl_, List.nil_sublist _, Sub.refl _, rfl⟩ | exact ⟨_, [], rl_, List.nil_sublist _, Sub.eq (congrArg B (by simp; omega)), rfl⟩
    · rw [hb] at a4
      have := congrArg (·.2.2) a4; cases this
  · have c2 : True := trivial
    have c3 : True := trivial
    have c4 : True := trivial
    clear hsound happ herr hx
    refine af_intro Tryd.func7 rfl (by decide) Tryd.ntmps7 rfl ?_
    repeat' (first
    | fail
    | refine s_y ?_
      | refine c_ ?_
      | (refine aw_if ?_ ?_ <;> intro hb <;> try (exfalso; first | assumption | omega | (simp only [or_self, and_self, not_true_eq_false, not_false_eq_true, or_false, false_or, and_false, false_and, true_and, and_true] at hb; first | done | omega)))
      | refine s_call ?_ (c := by first | exact f_scanned | exact c1 | exact c2 | exact c3 | exact c4 | exact f_ref05Same _ _ gb_ gb_ | exact f_vtCost _ gb_ | fail)
      | refine s_op ?_ (hy := by first | (apply bs_cmdA rfl un_; exact oo_; done) | fail)
      | refine s_yg ?_
      | refine s_callg ?_ (c := by intro hk hk2; first | exact f_scanned | exact c1 | exact c2 | exact c3 | exact c4 | exact f_ref05Same _ _ gb_ gb_ | exact f_vtCost _ gb_ | fail)
      | refine s_opg ?_ (hy := by intro hk hk2; first | (apply bs_cmdA rfl un_; exact oo_; done) | fail)
      | refine s_skip ?_
      | ((first | refine w_alloc ?_ | refine w_box ?_) <;> intro bb)
      | ((first | refine w_emp ?_ | refine w_make ?_ | refine w_app ?_) <;> intro u hu1 hu2)
      | refine w_stv ?_ | refine w_str ?_ | refine w_cpr ?_ | refine w_cps ?_
      | refine al_last (by kernel_rfl) ?_
    | fail)
    all_goals first | exact ⟨_, [], rl_, List.nil_sublist _, Sub.refl _, rfl⟩ | (exfalso; omega)
end Go.Proofs.YtplabpjkkcillaaDoor
