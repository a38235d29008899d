/- Layer 6 (scan): the laws of what is put and of cuts. No condition. -/
import Derived.Test.YtplabpjkkcillaaDoorRB
namespace Go.Proofs.YtplabpjkkcillaaDoor
set_option linter.unusedSimpArgs false
set_option linter.unusedVariables false
set_option linter.unusedSectionVars false
set_option maxHeartbeats 4000000
open Go Go.RowKit
variable {T0 : Gh} [TabU T0]
set_option maxRecDepth 200000
theorem nextM_more {s : List UInt8} (h : MoreC s) : nextM s = ((0, 0, 0, 0), [], 3) := by
  have h0 : s ≠ [] := by rcases h with ⟨h, _⟩ | ⟨h, _⟩ <;> exact h
  rw [nextM, if_neg h0, cmd_more h]; rfl
theorem nextM_full {c : Cmd} (hc : isCmd c = true) (s : List UInt8) : nextM (bytesB c ++ s) = (c, s, 0) := by
  have hp := (bytesB_len hc).1
  have hne : bytesB c ++ s ≠ [] := by
    intro e; have := congrArg List.length e; simp only [List.length_append, List.length_nil] at this; omega
  rw [nextM, if_neg hne, cmd_full (shape_of hc)]
theorem nextM_bad {s : List UInt8} (h : (nextM s).2.2 ≠ 0) : (nextM s).1 = (0, 0, 0, 0) ∧ (nextM s).2.1 = [] := by
  by_cases h0 : s = []
  · subst h0; exact ⟨rfl, rfl⟩
  · rcases cmd_sound s h0 with ⟨c, l, t, k1, k2, k3⟩ | ⟨k1, k2⟩ | k1
    · exact absurd (by rw [nextM, if_neg h0, k3]) h
    · rw [nextM, if_neg h0, k1]; exact ⟨rfl, rfl⟩
    · rw [nextM, if_neg h0, k1]; exact ⟨rfl, rfl⟩
theorem next_bytes {s : List UInt8} (h : (nextM s).2.2 = 0) : isCmd (nextM s).1 = true ∧ bytesB (nextM s).1 ++ (nextM s).2.1 = s := by
  obtain ⟨l, h1, h2⟩ := next_ok h
  obtain ⟨h3, h4⟩ := shape_is h1
  exact ⟨h3, by rw [h4]; exact h2.symm⟩
attribute [local irreducible] thenA inBlockA AW AL AO QY varO rowO rsA Opd OpdN vA gvA tupA aggA slA slcA ipA rpA EqK LnK IxK LdK FaK FdK
/-- the law's end: what is scanned is what would be put -/
theorem l_ScanBack (c : Cmd) (s : List UInt8) : AP Tryd.prog T0 5 [cmdA c, SA s] (B true) := by
  by_cases hl : s.length ≤ 1000
  · have c1 := f_vtPut (T0 := T0) c
    have c3 := f_scanNext (T0 := T0) s (by omega)
    have hbad := @nextM_bad s
    have hy := @next_bytes s
    obtain ⟨⟨⟨k', a', b', r'⟩, t', e'⟩, hx⟩ : ∃ x, x = nextM s := ⟨_, rfl⟩
    rw [← hx] at c3 hbad hy
    simp only at c3 hbad hy
    clear hx
    have hy2 : e' = 0 → (bytesB (k', a', b', r')).length ≤ 8 := fun h => (bytesB_len (hy h).1).2
    have c5 := f_vtPut (T0 := T0) (k', a', b', r')
    have c4 : True := trivial
    obtain ⟨t, ht, hlt, c2, hmore⟩ : ∃ t : List UInt8, t = (putR' c).1 ∧ t.length ≤ 8 ∧ (isCmd c = true → AP Tryd.prog T0 16 [SA (t ++ s)] (tupA [cmdA c, SA s, I 0])) ∧ ∀ i, 1 ≤ i → i < t.length → AP Tryd.prog T0 16 [SA (t.take i)] (tupA [cmdA (0, 0, 0, 0), SA [], I 3]) := by
      refine ⟨_, rfl, lenC_le c, fun h => ?_, fun i i1 i2 => ?_⟩
      · have e : (putR' c).1 = bytesB c := by rw [putR', if_pos h]
        have := f_scanNext (T0 := T0) (bytesB c ++ s) (by have := (bytesB_len h).2; rw [List.length_append]; omega)
        rw [nextM_full h] at this
        rw [e]; exact this
      · have h : isCmd c = true := by
          by_cases h : isCmd c = true
          · exact h
          · rw [putR', if_neg h] at i2; simp at i2
        have e : (putR' c).1 = bytesB c := by rw [putR', if_pos h]
        rw [e] at i2 ⊢
        have := f_scanNext (T0 := T0) ((bytesB c).take i) (by have := (bytesB_len h).2; rw [List.length_take]; omega)
        rw [nextM_more (more_take (shape_of h) i1 i2)] at this
        exact this
    have hq : putR' c = (t, if isCmd c = true then 0 else 1) := by
      rw [ht, putR']; split <;> rfl
    have hn : ¬ isCmd c = true → t = [] := fun h => by rw [ht, putR', if_neg h]
    rw [hq] at c1
    clear hq ht
    obtain ⟨k, a, b, r⟩ := c
    by_cases hc : isCmd (k, a, b, r) = true
    · rw [if_pos hc] at c1
      have c2 := c2 hc
      refine af_intro Tryd.func5 rfl (by decide) Tryd.ntmps5 rfl ?_
      repeat' (first
      | fail
      | refine s_y ?_
        | refine c_ ?_
        | (refine aw_if ?_ ?_ <;> intro hb <;> try (exfalso; first | assumption | omega | (simp only [or_self, and_self, not_true_eq_false, not_false_eq_true, or_false, false_or, and_false, false_and, true_and, and_true] at hb; first | done | omega)))
        | refine s_call ?_ (c := by first | exact f_scanned | exact c1 | exact c2 | exact c3 | exact c4 | exact c5 | fail)
        | refine s_op ?_ (hy := by first | fail | fail)
        | refine s_yg ?_
        | refine s_callg ?_ (c := by intro hk hk2; first | exact f_scanned | exact c1 | exact c2 | exact c3 | exact c4 | exact c5 | fail)
        | refine s_opg ?_ (hy := by intro hk hk2; first | fail | fail)
        | refine s_skip ?_
        | ((first | refine w_alloc ?_ | refine w_box ?_) <;> intro bb)
        | ((first | refine w_emp ?_ | refine w_make ?_ | refine w_app ?_) <;> intro u hu1 hu2)
        | refine w_stv ?_ | refine w_str ?_ | refine w_cpr ?_ | refine w_cps ?_
        | refine al_last (by kernel_rfl) ?_
      | fail)
      all_goals first | (exfalso; omega) | (exfalso; simp at hb; done) | skip
      clear c1 c2
      have c1 : True := trivial
      have c2 : True := trivial
      refine aw_lf (σ := Nat) (fun i => [(10, I i)]) (fun i => 1 ≤ i ∧ i ≤ 9) (fun i => 9 - i) 1 ⟨by omega, by omega⟩ ?_
      rintro i ⟨i1, i2⟩
      by_cases hlt2 : i < t.length
      · clear c4
        have c4 := hmore i i1 hlt2
        repeat' (first
        | fail
        | refine s_y ?_
          | refine c_ ?_
          | (refine aw_if ?_ ?_ <;> intro hb <;> try (exfalso; first | assumption | omega | (simp only [or_self, and_self, not_true_eq_false, not_false_eq_true, or_false, false_or, and_false, false_and, true_and, and_true] at hb; first | done | omega)))
          | refine s_call ?_ (c := by first | exact f_scanned | exact c1 | exact c2 | exact c3 | exact c4 | exact c5 | fail)
          | refine s_op ?_ (hy := by first | fail | fail)
          | refine s_yg ?_
          | refine s_callg ?_ (c := by intro hk hk2; first | exact f_scanned | exact c1 | exact c2 | exact c3 | exact c4 | exact c5 | fail)
          | refine s_opg ?_ (hy := by intro hk hk2; first | fail | fail)
          | refine s_skip ?_
          | ((first | refine w_alloc ?_ | refine w_box ?_) <;> intro bb)
          | ((first | refine w_emp ?_ | refine w_make ?_ | refine w_app ?_) <;> intro u hu1 hu2)
          | refine w_stv ?_ | refine w_str ?_ | refine w_cpr ?_ | refine w_cps ?_
          | refine al_last (by kernel_rfl) ?_
        | fail)
        all_goals first | (exfalso; omega) | exact ⟨i + 1, ⟨by omega, by omega⟩, by omega, wx_, sl_⟩
      · by_cases he : e' = 0
        · subst he
          obtain ⟨y1, y2⟩ := hy rfl
          have y3 := hy2 rfl
          rw [putR', if_pos y1] at c5
          generalize bytesB (k', a', b', r') = z at c5 y2 y3
          have y4 : t'.length ≤ 1000 := by rw [← y2, List.length_append] at hl; omega
          replace c5 : AP Tryd.prog T0 22 [cmdA (k', a', b', r')] (tupA [SA z, I 0]) := c5
          clear hy hy2 hbad hmore hn
          repeat' (first
          | fail
          | refine s_y ?_
            | refine c_ ?_
            | (refine aw_if ?_ ?_ <;> intro hb <;> try (exfalso; first | assumption | omega | (simp only [or_self, and_self, not_true_eq_false, not_false_eq_true, or_false, false_or, and_false, false_and, true_and, and_true] at hb; first | done | omega)))
            | refine s_call ?_ (c := by first | exact f_scanned | exact c1 | exact c2 | exact c3 | exact c4 | exact c5 | fail)
            | refine s_op ?_ (hy := by first | fail | fail)
            | refine s_yg ?_
            | refine s_callg ?_ (c := by intro hk hk2; first | exact f_scanned | exact c1 | exact c2 | exact c3 | exact c4 | exact c5 | fail)
            | refine s_opg ?_ (hy := by intro hk hk2; first | fail | fail)
            | refine s_skip ?_
            | ((first | refine w_alloc ?_ | refine w_box ?_) <;> intro bb)
            | ((first | refine w_emp ?_ | refine w_make ?_ | refine w_app ?_) <;> intro u hu1 hu2)
            | refine w_stv ?_ | refine w_str ?_ | refine w_cpr ?_ | refine w_cps ?_
            | refine al_last (by kernel_rfl) ?_
          | fail)
          all_goals first | (exfalso; omega) | exact ⟨_, [], rl_, List.nil_sublist _, Sub.refl _, rfl⟩ | exact ⟨_, [], rl_, List.nil_sublist _, Sub.eq (congrArg B (by simp [y2])), rfl⟩
        · obtain ⟨y1, y2⟩ := hbad he
          obtain ⟨rfl, rfl, rfl, rfl⟩ : k' = 0 ∧ a' = 0 ∧ b' = 0 ∧ r' = 0 := by simpa using y1
          subst y2
          clear hy hy2 hbad hmore hn c5
          have c5 : True := trivial
          repeat' (first
          | fail
          | refine s_y ?_
            | refine c_ ?_
            | (refine aw_if ?_ ?_ <;> intro hb <;> try (exfalso; first | assumption | omega | (simp only [or_self, and_self, not_true_eq_false, not_false_eq_true, or_false, false_or, and_false, false_and, true_and, and_true] at hb; first | done | omega)))
            | refine s_call ?_ (c := by first | exact f_scanned | exact c1 | exact c2 | exact c3 | exact c4 | exact c5 | fail)
            | refine s_op ?_ (hy := by first | fail | fail)
            | refine s_yg ?_
            | refine s_callg ?_ (c := by intro hk hk2; first | exact f_scanned | exact c1 | exact c2 | exact c3 | exact c4 | exact c5 | fail)
            | refine s_opg ?_ (hy := by intro hk hk2; first | fail | fail)
            | refine s_skip ?_
            | ((first | refine w_alloc ?_ | refine w_box ?_) <;> intro bb)
            | ((first | refine w_emp ?_ | refine w_make ?_ | refine w_app ?_) <;> intro u hu1 hu2)
            | refine w_stv ?_ | refine w_str ?_ | refine w_cpr ?_ | refine w_cps ?_
            | refine al_last (by kernel_rfl) ?_
          | fail)
          all_goals first | (exfalso; omega) | exact ⟨_, [], rl_, List.nil_sublist _, Sub.refl _, rfl⟩ | exact ⟨_, [], rl_, List.nil_sublist _, Sub.eq (congrArg B (by simp)), rfl⟩
    · rw [if_neg hc] at c1
      have c2 : True := trivial
      refine af_intro Tryd.func5 rfl (by decide) Tryd.ntmps5 rfl ?_
      repeat' (first
      | fail
      | refine s_y ?_
        | refine c_ ?_
        | (refine aw_if ?_ ?_ <;> intro hb <;> try (exfalso; first | assumption | omega | (simp only [or_self, and_self, not_true_eq_false, not_false_eq_true, or_false, false_or, and_false, false_and, true_and, and_true] at hb; first | done | omega)))
        | refine s_call ?_ (c := by first | exact f_scanned | exact c1 | exact c2 | exact c3 | exact c4 | exact c5 | fail)
        | refine s_op ?_ (hy := by first | fail | fail)
        | refine s_yg ?_
        | refine s_callg ?_ (c := by intro hk hk2; first | exact f_scanned | exact c1 | exact c2 | exact c3 | exact c4 | exact c5 | fail)
        | refine s_opg ?_ (hy := by intro hk hk2; first | fail | fail)
        | refine s_skip ?_
        | ((first | refine w_alloc ?_ | refine w_box ?_) <;> intro bb)
        | ((first | refine w_emp ?_ | refine w_make ?_ | refine w_app ?_) <;> intro u hu1 hu2)
        | refine w_stv ?_ | refine w_str ?_ | refine w_cpr ?_ | refine w_cps ?_
        | refine al_last (by kernel_rfl) ?_
      | fail)
      all_goals first | (exfalso; omega) | (exfalso; simp at hb; done) | skip
      clear c1 c2
      have c1 : True := trivial
      have c2 : True := trivial
      refine aw_lf (σ := Nat) (fun i => [(10, I i)]) (fun i => 1 ≤ i ∧ i ≤ 9) (fun i => 9 - i) 1 ⟨by omega, by omega⟩ ?_
      rintro i ⟨i1, i2⟩
      by_cases hlt2 : i < t.length
      · clear c4
        have c4 := hmore i i1 hlt2
        repeat' (first
        | fail
        | refine s_y ?_
          | refine c_ ?_
          | (refine aw_if ?_ ?_ <;> intro hb <;> try (exfalso; first | assumption | omega | (simp only [or_self, and_self, not_true_eq_false, not_false_eq_true, or_false, false_or, and_false, false_and, true_and, and_true] at hb; first | done | omega)))
          | refine s_call ?_ (c := by first | exact f_scanned | exact c1 | exact c2 | exact c3 | exact c4 | exact c5 | fail)
          | refine s_op ?_ (hy := by first | fail | fail)
          | refine s_yg ?_
          | refine s_callg ?_ (c := by intro hk hk2; first | exact f_scanned | exact c1 | exact c2 | exact c3 | exact c4 | exact c5 | fail)
          | refine s_opg ?_ (hy := by intro hk hk2; first | fail | fail)
          | refine s_skip ?_
          | ((first | refine w_alloc ?_ | refine w_box ?_) <;> intro bb)
          | ((first | refine w_emp ?_ | refine w_make ?_ | refine w_app ?_) <;> intro u hu1 hu2)
          | refine w_stv ?_ | refine w_str ?_ | refine w_cpr ?_ | refine w_cps ?_
          | refine al_last (by kernel_rfl) ?_
        | fail)
        all_goals first | (exfalso; omega) | exact ⟨i + 1, ⟨by omega, by omega⟩, by omega, wx_, sl_⟩
      · by_cases he : e' = 0
        · subst he
          obtain ⟨y1, y2⟩ := hy rfl
          have y3 := hy2 rfl
          rw [putR', if_pos y1] at c5
          generalize bytesB (k', a', b', r') = z at c5 y2 y3
          have y4 : t'.length ≤ 1000 := by rw [← y2, List.length_append] at hl; omega
          replace c5 : AP Tryd.prog T0 22 [cmdA (k', a', b', r')] (tupA [SA z, I 0]) := c5
          clear hy hy2 hbad hmore hn
          repeat' (first
          | fail
          | refine s_y ?_
            | refine c_ ?_
            | (refine aw_if ?_ ?_ <;> intro hb <;> try (exfalso; first | assumption | omega | (simp only [or_self, and_self, not_true_eq_false, not_false_eq_true, or_false, false_or, and_false, false_and, true_and, and_true] at hb; first | done | omega)))
            | refine s_call ?_ (c := by first | exact f_scanned | exact c1 | exact c2 | exact c3 | exact c4 | exact c5 | fail)
            | refine s_op ?_ (hy := by first | fail | fail)
            | refine s_yg ?_
            | refine s_callg ?_ (c := by intro hk hk2; first | exact f_scanned | exact c1 | exact c2 | exact c3 | exact c4 | exact c5 | fail)
            | refine s_opg ?_ (hy := by intro hk hk2; first | fail | fail)
            | refine s_skip ?_
            | ((first | refine w_alloc ?_ | refine w_box ?_) <;> intro bb)
            | ((first | refine w_emp ?_ | refine w_make ?_ | refine w_app ?_) <;> intro u hu1 hu2)
            | refine w_stv ?_ | refine w_str ?_ | refine w_cpr ?_ | refine w_cps ?_
            | refine al_last (by kernel_rfl) ?_
          | fail)
          all_goals first | (exfalso; omega) | exact ⟨_, [], rl_, List.nil_sublist _, Sub.refl _, rfl⟩ | exact ⟨_, [], rl_, List.nil_sublist _, Sub.eq (congrArg B (by simp [y2])), rfl⟩
        · obtain ⟨y1, y2⟩ := hbad he
          obtain ⟨rfl, rfl, rfl, rfl⟩ : k' = 0 ∧ a' = 0 ∧ b' = 0 ∧ r' = 0 := by simpa using y1
          subst y2
          clear hy hy2 hbad hmore hn c5
          have c5 : True := trivial
          repeat' (first
          | fail
          | refine s_y ?_
            | refine c_ ?_
            | (refine aw_if ?_ ?_ <;> intro hb <;> try (exfalso; first | assumption | omega | (simp only [or_self, and_self, not_true_eq_false, not_false_eq_true, or_false, false_or, and_false, false_and, true_and, and_true] at hb; first | done | omega)))
            | refine s_call ?_ (c := by first | exact f_scanned | exact c1 | exact c2 | exact c3 | exact c4 | exact c5 | fail)
            | refine s_op ?_ (hy := by first | fail | fail)
            | refine s_yg ?_
            | refine s_callg ?_ (c := by intro hk hk2; first | exact f_scanned | exact c1 | exact c2 | exact c3 | exact c4 | exact c5 | fail)
            | refine s_opg ?_ (hy := by intro hk hk2; first | fail | fail)
            | refine s_skip ?_
            | ((first | refine w_alloc ?_ | refine w_box ?_) <;> intro bb)
            | ((first | refine w_emp ?_ | refine w_make ?_ | refine w_app ?_) <;> intro u hu1 hu2)
            | refine w_stv ?_ | refine w_str ?_ | refine w_cpr ?_ | refine w_cps ?_
            | refine al_last (by kernel_rfl) ?_
          | fail)
          all_goals first | (exfalso; omega) | exact ⟨_, [], rl_, List.nil_sublist _, Sub.refl _, rfl⟩ | exact ⟨_, [], rl_, List.nil_sublist _, Sub.eq (congrArg B (by simp)), rfl⟩
  · have c1 : True := trivial
    have c2 : True := trivial
    have c3 : True := trivial
    have c4 : True := trivial
    have c5 : True := trivial
    refine af_intro Tryd.func5 rfl (by decide) Tryd.ntmps5 rfl ?_
    repeat' (first
    | fail
    | refine s_y ?_
      | refine c_ ?_
      | (refine aw_if ?_ ?_ <;> intro hb <;> try (exfalso; first | assumption | omega | (simp only [or_self, and_self, not_true_eq_false, not_false_eq_true, or_false, false_or, and_false, false_and, true_and, and_true] at hb; first | done | omega)))
      | refine s_call ?_ (c := by first | exact f_scanned | exact c1 | exact c2 | exact c3 | exact c4 | exact c5 | fail)
      | refine s_op ?_ (hy := by first | fail | fail)
      | refine s_yg ?_
      | refine s_callg ?_ (c := by intro hk hk2; first | exact f_scanned | exact c1 | exact c2 | exact c3 | exact c4 | exact c5 | fail)
      | refine s_opg ?_ (hy := by intro hk hk2; first | fail | fail)
      | refine s_skip ?_
      | ((first | refine w_alloc ?_ | refine w_box ?_) <;> intro bb)
      | ((first | refine w_emp ?_ | refine w_make ?_ | refine w_app ?_) <;> intro u hu1 hu2)
      | refine w_stv ?_ | refine w_str ?_ | refine w_cpr ?_ | refine w_cps ?_
      | refine al_last (by kernel_rfl) ?_
    | fail)
    all_goals first | exact ⟨_, [], rl_, List.nil_sublist _, Sub.refl _, rfl⟩ | (exfalso; omega)
end Go.Proofs.YtplabpjkkcillaaDoor
