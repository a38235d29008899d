/- Layer 6 (scan): the reference's Next and All are the program's. No condition. -/
import Derived.Test.YtplabpjkkcillaaDoorR7
namespace Go.Proofs.YtplabpjkkcillaaDoor
set_option linter.unusedSimpArgs false
set_option linter.unusedVariables false
set_option linter.unusedSectionVars false
set_option maxHeartbeats 4000000
open Go Go.RowKit
variable {T0 : Gh}
set_option maxRecDepth 200000
theorem nextM_found {s : List UInt8} {k : Nat} (hk : 1 ≤ k) (hs : k ≤ s.length) (h : (wholeR (s.take k)).2 = true) : nextM s = ((wholeR (s.take k)).1, s.drop k, 0) := by
  have h1 := cmd_full (whole_shape h) (s.drop k)
  rw [List.take_append_drop] at h1
  have hne : s ≠ [] := by rintro rfl; simp only [List.length_nil] at hs; omega
  rw [nextM, if_neg hne, h1]; rfl
theorem shape_len {c : Cmd} {l : List UInt8} (h : Shape c l) : l.length ≤ 8 := by
  obtain ⟨h1, h2⟩ := shape_is h
  rw [← h2]; exact (bytesB_len h1).2
theorem nextM_none {s : List UInt8} (h0 : s ≠ []) (h : ∀ k, 1 ≤ k → k ≤ 8 → k ≤ s.length → (wholeR (s.take k)).2 = false) : nextM s = if decide ((cmdM s).1 = 3) = true then ((0, 0, 0, 0), [], 3) else ((0, 0, 0, 0), [], 2) := by
  rw [nextM, if_neg h0]
  rcases cmd_sound s h0 with ⟨c, l, t, h1, h2, h3⟩ | ⟨h1, _⟩ | h1
  · exfalso
    have e : s.take l.length = l := by rw [h2, List.take_left]
    have := h l.length (shape_pos h1) (shape_len h1) (by rw [h2, List.length_append]; omega)
    rw [e, whole_full h1] at this; cases this
  · rw [h1]; rfl
  · rw [h1]; rfl
attribute [local irreducible] thenA inBlockA AW AL AO QY varO rowO rsA Opd OpdN vA gvA tupA aggA slA slcA ipA rpA EqK LnK IxK LdK FaK FdK
theorem f_ref06Next (s : List UInt8) (hl : s.length ≤ 80000) : AP Tryd.prog T0 17 [SA s] (tupA [cmdA (nextM s).1, SA (nextM s).2.1, I (nextM s).2.2]) := by
  by_cases h0 : s = []
  · have c1 : True := trivial
    subst h0
    refine af_intro Tryd.func17 rfl (by decide) Tryd.ntmps17 rfl ?_
    repeat' (first
    | fail
    | (apply aw_regionN; (case hn => rfl); (case hm => kernel_rfl))
      | refine an_end ?_ (by rfl)
      | (apply an_all; (case hL => rfl); (case hne => rfl))
      | exact ai_nil
      | apply ai_cons
      | (apply at_i; (case ho => rfl))
      | (apply j_first; exact ext1_)
      | (apply j_next; (case h => exact ext_); (case hk => exact wk_); (case hc => rfl))
    | refine s_y ?_
      | refine c_ ?_
      | (refine aw_if ?_ ?_ <;> intro hb <;> try (exfalso; first | assumption | omega | (simp only [or_self, and_self, not_true_eq_false, not_false_eq_true, or_false, false_or, and_false, false_and, true_and, and_true] at hb; first | done | omega)))
      | refine s_call ?_ (c := by first | exact c1 | fail)
      | refine s_op ?_ (hy := by first | (apply bs_cmdA rfl un_; exact oo_; done) | fail)
      | refine s_yg ?_
      | refine s_callg ?_ (c := by intro hk hk2; first | exact c1 | fail)
      | refine s_opg ?_ (hy := by intro hk hk2; first | (apply bs_cmdA rfl un_; exact oo_; done) | fail)
      | refine s_skip ?_
      | ((first | refine w_alloc ?_ | refine w_box ?_) <;> intro bb)
      | ((first | refine w_emp ?_ | refine w_make ?_ | refine w_app ?_) <;> intro u hu1 hu2)
      | refine w_stv ?_ | refine w_str ?_ | refine w_cpr ?_ | refine w_cps ?_
      | refine al_last (by kernel_rfl) ?_
    | fail)
    all_goals first | exact ⟨_, [], rl_, List.nil_sublist _, Sub.eq (by rfl), rfl⟩ | (exfalso; simp at hb; done)
  · have hpos : 1 ≤ s.length := by cases s with | nil => exact absurd rfl h0 | cons => simp
    have c1 := f_more06 (T0 := T0) s h0 hl
    have hnone := nextM_none h0
    refine af_intro Tryd.func17 rfl (by decide) Tryd.ntmps17 rfl ?_
    repeat' (first
    | fail
    | (apply aw_regionN; (case hn => rfl); (case hm => kernel_rfl))
      | refine an_end ?_ (by rfl)
      | (apply an_all; (case hL => rfl); (case hne => rfl))
      | exact ai_nil
      | apply ai_cons
      | (apply at_i; (case ho => rfl))
      | (apply j_first; exact ext1_)
      | (apply j_next; (case h => exact ext_); (case hk => exact wk_); (case hc => rfl))
    | refine s_y ?_
      | refine c_ ?_
      | (refine aw_if ?_ ?_ <;> intro hb <;> try (exfalso; first | assumption | omega | (simp only [or_self, and_self, not_true_eq_false, not_false_eq_true, or_false, false_or, and_false, false_and, true_and, and_true] at hb; first | done | omega)))
      | refine s_call ?_ (c := by first | exact c1 | fail)
      | refine s_op ?_ (hy := by first | (apply bs_cmdA rfl un_; exact oo_; done) | fail)
      | refine s_yg ?_
      | refine s_callg ?_ (c := by intro hk hk2; first | exact c1 | fail)
      | refine s_opg ?_ (hy := by intro hk hk2; first | (apply bs_cmdA rfl un_; exact oo_; done) | fail)
      | refine s_skip ?_
      | ((first | refine w_alloc ?_ | refine w_box ?_) <;> intro bb)
      | ((first | refine w_emp ?_ | refine w_make ?_ | refine w_app ?_) <;> intro u hu1 hu2)
      | refine w_stv ?_ | refine w_str ?_ | refine w_cpr ?_ | refine w_cps ?_
      | refine al_last (by kernel_rfl) ?_
    | fail)
    all_goals first | (exfalso; exact h0 (by simpa using hb)) | skip
    refine aw_lf (σ := Nat) (fun k => [(5, I k)]) (fun k => 1 ≤ k ∧ k ≤ 9 ∧ ∀ j, 1 ≤ j → j < k → j ≤ s.length → (wholeR (s.take j)).2 = false) (fun k => 9 - k) 1 ⟨by omega, by omega, fun j a b => by omega⟩ ?_
    rintro k ⟨i1, i2, i3⟩
    by_cases hk : k ≤ 8 ∧ k ≤ s.length
    · obtain ⟨k1, k2⟩ := hk
      clear c1
      have c1 := f_whole06 (T0 := T0) (s.take k) (by rw [List.length_take]; omega)
      have e : s.drop k = (s.drop k).take (s.length - k) := (List.take_of_length_le (by rw [List.length_drop]; omega)).symm
      cases w : (wholeR (s.take k)).2 with
      | true =>
        have hf := nextM_found i1 k2 w
        rw [w] at c1
        rw [hf, e]
        clear e hnone i3 hf
        repeat' (first
        | fail
        | (apply aw_regionN; (case hn => rfl); (case hm => kernel_rfl))
          | refine an_end ?_ (by rfl)
          | (apply an_all; (case hL => rfl); (case hne => rfl))
          | exact ai_nil
          | apply ai_cons
          | (apply at_i; (case ho => rfl))
          | (apply j_first; exact ext1_)
          | (apply j_next; (case h => exact ext_); (case hk => exact wk_); (case hc => rfl))
        | refine s_y ?_
          | refine c_ ?_
          | (refine aw_if ?_ ?_ <;> intro hb <;> try (exfalso; first | assumption | omega | (simp only [or_self, and_self, not_true_eq_false, not_false_eq_true, or_false, false_or, and_false, false_and, true_and, and_true] at hb; first | done | omega)))
          | refine s_call ?_ (c := by first | exact c1 | fail)
          | refine s_op ?_ (hy := by first | (apply bs_cmdA rfl un_; exact oo_; done) | fail)
          | refine s_yg ?_
          | refine s_callg ?_ (c := by intro hk hk2; first | exact c1 | fail)
          | refine s_opg ?_ (hy := by intro hk hk2; first | (apply bs_cmdA rfl un_; exact oo_; done) | fail)
          | refine s_skip ?_
          | ((first | refine w_alloc ?_ | refine w_box ?_) <;> intro bb)
          | ((first | refine w_emp ?_ | refine w_make ?_ | refine w_app ?_) <;> intro u hu1 hu2)
          | refine w_stv ?_ | refine w_str ?_ | refine w_cpr ?_ | refine w_cps ?_
          | refine al_last (by kernel_rfl) ?_
        | fail)
        all_goals first | (exfalso; omega) | exact ⟨_, [], rl_, List.nil_sublist _, Sub.refl _, rfl⟩
      | false =>
        rw [w] at c1
        have hn : ∀ j, 1 ≤ j → j < k + 1 → j ≤ s.length → (wholeR (s.take j)).2 = false := fun j a b c => by
          rcases Nat.lt_or_ge j k with h | h
          · exact i3 j a h c
          · obtain rfl : j = k := by omega
            exact w
        repeat' (first
        | fail
        | (apply aw_regionN; (case hn => rfl); (case hm => kernel_rfl))
          | refine an_end ?_ (by rfl)
          | (apply an_all; (case hL => rfl); (case hne => rfl))
          | exact ai_nil
          | apply ai_cons
          | (apply at_i; (case ho => rfl))
          | (apply j_first; exact ext1_)
          | (apply j_next; (case h => exact ext_); (case hk => exact wk_); (case hc => rfl))
        | refine s_y ?_
          | refine c_ ?_
          | (refine aw_if ?_ ?_ <;> intro hb <;> try (exfalso; first | assumption | omega | (simp only [or_self, and_self, not_true_eq_false, not_false_eq_true, or_false, false_or, and_false, false_and, true_and, and_true] at hb; first | done | omega)))
          | refine s_call ?_ (c := by first | exact c1 | fail)
          | refine s_op ?_ (hy := by first | (apply bs_cmdA rfl un_; exact oo_; done) | fail)
          | refine s_yg ?_
          | refine s_callg ?_ (c := by intro hk hk2; first | exact c1 | fail)
          | refine s_opg ?_ (hy := by intro hk hk2; first | (apply bs_cmdA rfl un_; exact oo_; done) | fail)
          | refine s_skip ?_
          | ((first | refine w_alloc ?_ | refine w_box ?_) <;> intro bb)
          | ((first | refine w_emp ?_ | refine w_make ?_ | refine w_app ?_) <;> intro u hu1 hu2)
          | refine w_stv ?_ | refine w_str ?_ | refine w_cpr ?_ | refine w_cps ?_
          | refine al_last (by kernel_rfl) ?_
        | fail)
        all_goals first | (exfalso; omega) | exact ⟨k + 1, ⟨by omega, by omega, hn⟩, by omega, wx_, sl_⟩
    · have e := hnone fun j a b c => i3 j a (by omega) c
      rw [e]
      clear hnone i3 e
      cases hf : decide ((cmdM s).1 = 3) <;> rw [hf] at c1
      · repeat' (first
        | fail
        | (apply aw_regionN; (case hn => rfl); (case hm => kernel_rfl))
          | refine an_end ?_ (by rfl)
          | (apply an_all; (case hL => rfl); (case hne => rfl))
          | exact ai_nil
          | apply ai_cons
          | (apply at_i; (case ho => rfl))
          | (apply j_first; exact ext1_)
          | (apply j_next; (case h => exact ext_); (case hk => exact wk_); (case hc => rfl))
        | refine s_y ?_
          | refine c_ ?_
          | (refine aw_if ?_ ?_ <;> intro hb <;> try (exfalso; first | assumption | omega | (simp only [or_self, and_self, not_true_eq_false, not_false_eq_true, or_false, false_or, and_false, false_and, true_and, and_true] at hb; first | done | omega)))
          | refine s_call ?_ (c := by first | exact c1 | fail)
          | refine s_op ?_ (hy := by first | (apply bs_cmdA rfl un_; exact oo_; done) | fail)
          | refine s_yg ?_
          | refine s_callg ?_ (c := by intro hk hk2; first | exact c1 | fail)
          | refine s_opg ?_ (hy := by intro hk hk2; first | (apply bs_cmdA rfl un_; exact oo_; done) | fail)
          | refine s_skip ?_
          | ((first | refine w_alloc ?_ | refine w_box ?_) <;> intro bb)
          | ((first | refine w_emp ?_ | refine w_make ?_ | refine w_app ?_) <;> intro u hu1 hu2)
          | refine w_stv ?_ | refine w_str ?_ | refine w_cpr ?_ | refine w_cps ?_
          | refine al_last (by kernel_rfl) ?_
        | fail)
        all_goals first | (exfalso; omega) | exact ⟨_, [], rl_, List.nil_sublist _, Sub.eq (by rfl), rfl⟩
      · repeat' (first
        | fail
        | (apply aw_regionN; (case hn => rfl); (case hm => kernel_rfl))
          | refine an_end ?_ (by rfl)
          | (apply an_all; (case hL => rfl); (case hne => rfl))
          | exact ai_nil
          | apply ai_cons
          | (apply at_i; (case ho => rfl))
          | (apply j_first; exact ext1_)
          | (apply j_next; (case h => exact ext_); (case hk => exact wk_); (case hc => rfl))
        | refine s_y ?_
          | refine c_ ?_
          | (refine aw_if ?_ ?_ <;> intro hb <;> try (exfalso; first | assumption | omega | (simp only [or_self, and_self, not_true_eq_false, not_false_eq_true, or_false, false_or, and_false, false_and, true_and, and_true] at hb; first | done | omega)))
          | refine s_call ?_ (c := by first | exact c1 | fail)
          | refine s_op ?_ (hy := by first | (apply bs_cmdA rfl un_; exact oo_; done) | fail)
          | refine s_yg ?_
          | refine s_callg ?_ (c := by intro hk hk2; first | exact c1 | fail)
          | refine s_opg ?_ (hy := by intro hk hk2; first | (apply bs_cmdA rfl un_; exact oo_; done) | fail)
          | refine s_skip ?_
          | ((first | refine w_alloc ?_ | refine w_box ?_) <;> intro bb)
          | ((first | refine w_emp ?_ | refine w_make ?_ | refine w_app ?_) <;> intro u hu1 hu2)
          | refine w_stv ?_ | refine w_str ?_ | refine w_cpr ?_ | refine w_cps ?_
          | refine al_last (by kernel_rfl) ?_
        | fail)
        all_goals first | (exfalso; omega) | exact ⟨_, [], rl_, List.nil_sublist _, Sub.eq (by rfl), rfl⟩
end Go.Proofs.YtplabpjkkcillaaDoor
