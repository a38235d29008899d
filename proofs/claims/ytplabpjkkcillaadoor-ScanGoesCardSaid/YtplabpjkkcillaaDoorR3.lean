/- Layer 1: the reference's next sign is the program's. No condition. -/
import Derived.Test.YtplabpjkkcillaaDoorR2
import Derived.Test.YtplabpjkkcillaaDoorU5
namespace Go.Proofs.YtplabpjkkcillaaDoor
set_option linter.unusedSimpArgs false
set_option linter.unusedVariables false
set_option linter.unusedSectionVars false
set_option maxHeartbeats 4000000
open Go Go.RowKit
variable {T0 : Gh}
set_option maxRecDepth 100000
/-- where a front of the bytes is just a sign's, it is the sign that the program finds -/
theorem next_found {s : List UInt8} {k : Nat} (hk : 1 ≤ k) (hs : k ≤ s.length) (h : (wholeS (s.take k)).2 = true) : nextG s = ((wholeS (s.take k)).1, (k : Int), 0) := by
  obtain ⟨h1, h2⟩ := whole_is h
  have e : s = encC (wholeS (s.take k)).1 ++ s.drop k := by rw [h2, List.take_append_drop]
  have hne : s ≠ [] := by rintro rfl; simp only [List.length_nil] at hs; omega
  have hf := full_enc h1 (s.drop k)
  obtain ⟨d1, d2⟩ := dec_enc h1 (s.drop k)
  rw [← e] at hf d1 d2
  rw [nextG, if_neg hne, if_neg (by rw [hf]; decide), d1, d2, h2, List.length_take, Nat.min_eq_left hs]
theorem next_none {s : List UInt8} (h0 : s ≠ []) (h : ∀ k, 1 ≤ k → k ≤ 4 → k ≤ s.length → (wholeS (s.take k)).2 = false) : nextG s = if fullG s = false then (0, 0, 3) else (65533, 1, 0) := by
  rw [nextG, if_neg h0]
  split
  · rfl
  · rcases dec_sound h0 with e | ⟨e1, e2, e3⟩
    · rw [e]; rfl
    · exfalso
      have hl := encC_len ((decG s).1 : Nat)
      rw [← e3, List.length_take, Nat.min_eq_left e2] at hl
      have := h (decG s).2 hl.1 hl.2 e2
      rw [e3, whole_of e1 rfl] at this; cases this
attribute [local irreducible] thenA inBlockA AW AL AO QY varO rowO rsA Opd OpdN vA gvA tupA aggA slA slcA ipA rpA EqK LnK IxK LdK FaK FdK
theorem f_ref01Next (s : List UInt8) (hl : s.length ≤ 90000) : AP Tryd.prog T0 84 [SA s] (tupA [R (nextG s).1, I (nextG s).2.1, I (nextG s).2.2]) := by
  by_cases h0 : s = []
  · have c1 : True := trivial
    subst h0
    refine af_intro Tryd.func84 rfl (by decide) Tryd.ntmps84 rfl ?_
    repeat' (first
    | fail
    | refine s_y ?_
      | refine c_ ?_
      | (refine aw_if ?_ ?_ <;> intro hb <;> try (exfalso; first | assumption | omega | (simp only [or_self, and_self, not_true_eq_false, not_false_eq_true, or_false, false_or, and_false, false_and, true_and, and_true] at hb; first | done | omega)))
      | refine s_call ?_ (c := by first | exact c1 | fail)
      | refine s_op ?_ (hy := by first | fail | fail)
      | refine s_yg ?_
      | refine s_callg ?_ (c := by intro hk hk2; first | exact c1 | fail)
      | refine s_opg ?_ (hy := by intro hk hk2; first | fail | fail)
      | refine s_skip ?_
      | ((first | refine w_alloc ?_ | refine w_box ?_) <;> intro bb)
      | ((first | refine w_emp ?_ | refine w_make ?_ | refine w_app ?_) <;> intro u hu1 hu2)
      | refine w_stv ?_ | refine w_str ?_ | refine w_cpr ?_ | refine w_cps ?_
      | refine al_last (by kernel_rfl) ?_
    | fail)
    all_goals first | exact ⟨_, [], rl_, List.nil_sublist _, Sub.eq (by rfl), rfl⟩ | (exfalso; simp at hb; done)
  · have hne : ¬ s = [] := h0
    have hpos : 1 ≤ s.length := by cases s with | nil => exact absurd rfl h0 | cons => simp
    have c1 := f_more (T0 := T0) s h0 hl
    have hnone := next_none h0
    refine af_intro Tryd.func84 rfl (by decide) Tryd.ntmps84 rfl ?_
    repeat' (first
    | fail
    | refine s_y ?_
      | refine c_ ?_
      | (refine aw_if ?_ ?_ <;> intro hb <;> try (exfalso; first | assumption | omega | (simp only [or_self, and_self, not_true_eq_false, not_false_eq_true, or_false, false_or, and_false, false_and, true_and, and_true] at hb; first | done | omega)))
      | refine s_call ?_ (c := by first | exact c1 | fail)
      | refine s_op ?_ (hy := by first | fail | fail)
      | refine s_yg ?_
      | refine s_callg ?_ (c := by intro hk hk2; first | exact c1 | fail)
      | refine s_opg ?_ (hy := by intro hk hk2; first | fail | fail)
      | refine s_skip ?_
      | ((first | refine w_alloc ?_ | refine w_box ?_) <;> intro bb)
      | ((first | refine w_emp ?_ | refine w_make ?_ | refine w_app ?_) <;> intro u hu1 hu2)
      | refine w_stv ?_ | refine w_str ?_ | refine w_cpr ?_ | refine w_cps ?_
      | refine al_last (by kernel_rfl) ?_
    | fail)
    all_goals first | (exfalso; exact h0 (by simpa using hb)) | skip
    refine aw_lf (σ := Nat) (fun k => [(5, I k)]) (fun k => 1 ≤ k ∧ k ≤ 5 ∧ ∀ j, 1 ≤ j → j < k → j ≤ s.length → (wholeS (s.take j)).2 = false) (fun k => 5 - k) 1 ⟨by omega, by omega, fun j a b => by omega⟩ ?_
    rintro k ⟨i1, i2, i3⟩
    by_cases hk : k ≤ 4 ∧ k ≤ s.length
    · obtain ⟨k1, k2⟩ := hk
      clear c1
      have c1 := f_whole (T0 := T0) (s.take k) (by rw [ne_eq, List.take_eq_nil_iff]; rintro (h | h); omega; exact h0 h) (by rw [List.length_take]; omega)
      cases w : (wholeS (s.take k)).2 with
      | true =>
        have hf := next_found i1 k2 w
        rw [w] at c1
        repeat' (first
        | fail
        | refine s_y ?_
          | refine c_ ?_
          | (refine aw_if ?_ ?_ <;> intro hb <;> try (exfalso; first | assumption | omega | (simp only [or_self, and_self, not_true_eq_false, not_false_eq_true, or_false, false_or, and_false, false_and, true_and, and_true] at hb; first | done | omega)))
          | refine s_call ?_ (c := by first | exact c1 | fail)
          | refine s_op ?_ (hy := by first | fail | fail)
          | refine s_yg ?_
          | refine s_callg ?_ (c := by intro hk hk2; first | exact c1 | fail)
          | refine s_opg ?_ (hy := by intro hk hk2; first | fail | fail)
          | refine s_skip ?_
          | ((first | refine w_alloc ?_ | refine w_box ?_) <;> intro bb)
          | ((first | refine w_emp ?_ | refine w_make ?_ | refine w_app ?_) <;> intro u hu1 hu2)
          | refine w_stv ?_ | refine w_str ?_ | refine w_cpr ?_ | refine w_cps ?_
          | refine al_last (by kernel_rfl) ?_
        | fail)
        all_goals first | (exfalso; omega) | exact ⟨_, [], rl_, List.nil_sublist _, Sub.eq (by rw [hf]), rfl⟩
      | false =>
        rw [w] at c1
        have hn : ∀ j, 1 ≤ j → j < k + 1 → j ≤ s.length → (wholeS (s.take j)).2 = false := fun j a b c => by
          rcases Nat.lt_or_ge j k with h | h
          · exact i3 j a h c
          · obtain rfl : j = k := by omega
            exact w
        repeat' (first
        | fail
        | refine s_y ?_
          | refine c_ ?_
          | (refine aw_if ?_ ?_ <;> intro hb <;> try (exfalso; first | assumption | omega | (simp only [or_self, and_self, not_true_eq_false, not_false_eq_true, or_false, false_or, and_false, false_and, true_and, and_true] at hb; first | done | omega)))
          | refine s_call ?_ (c := by first | exact c1 | fail)
          | refine s_op ?_ (hy := by first | fail | fail)
          | refine s_yg ?_
          | refine s_callg ?_ (c := by intro hk hk2; first | exact c1 | fail)
          | refine s_opg ?_ (hy := by intro hk hk2; first | fail | fail)
          | refine s_skip ?_
          | ((first | refine w_alloc ?_ | refine w_box ?_) <;> intro bb)
          | ((first | refine w_emp ?_ | refine w_make ?_ | refine w_app ?_) <;> intro u hu1 hu2)
          | refine w_stv ?_ | refine w_str ?_ | refine w_cpr ?_ | refine w_cps ?_
          | refine al_last (by kernel_rfl) ?_
        | fail)
        all_goals first | (exfalso; omega) | exact ⟨k + 1, ⟨by omega, by omega, hn⟩, by omega, wx_, sl_⟩
    · have e := hnone fun j a b c => i3 j a (by omega) c
      rw [e]
      clear hnone i3 e
      cases hf : fullG s <;> rw [hf] at c1
      · repeat' (first
        | fail
        | refine s_y ?_
          | refine c_ ?_
          | (refine aw_if ?_ ?_ <;> intro hb <;> try (exfalso; first | assumption | omega | (simp only [or_self, and_self, not_true_eq_false, not_false_eq_true, or_false, false_or, and_false, false_and, true_and, and_true] at hb; first | done | omega)))
          | refine s_call ?_ (c := by first | exact c1 | fail)
          | refine s_op ?_ (hy := by first | fail | fail)
          | refine s_yg ?_
          | refine s_callg ?_ (c := by intro hk hk2; first | exact c1 | fail)
          | refine s_opg ?_ (hy := by intro hk hk2; first | fail | fail)
          | refine s_skip ?_
          | ((first | refine w_alloc ?_ | refine w_box ?_) <;> intro bb)
          | ((first | refine w_emp ?_ | refine w_make ?_ | refine w_app ?_) <;> intro u hu1 hu2)
          | refine w_stv ?_ | refine w_str ?_ | refine w_cpr ?_ | refine w_cps ?_
          | refine al_last (by kernel_rfl) ?_
        | fail)
        all_goals first | (exfalso; omega) | exact ⟨_, [], rl_, List.nil_sublist _, Sub.eq (by rfl), rfl⟩
      · repeat' (first
        | fail
        | refine s_y ?_
          | refine c_ ?_
          | (refine aw_if ?_ ?_ <;> intro hb <;> try (exfalso; first | assumption | omega | (simp only [or_self, and_self, not_true_eq_false, not_false_eq_true, or_false, false_or, and_false, false_and, true_and, and_true] at hb; first | done | omega)))
          | refine s_call ?_ (c := by first | exact c1 | fail)
          | refine s_op ?_ (hy := by first | fail | fail)
          | refine s_yg ?_
          | refine s_callg ?_ (c := by intro hk hk2; first | exact c1 | fail)
          | refine s_opg ?_ (hy := by intro hk hk2; first | fail | fail)
          | refine s_skip ?_
          | ((first | refine w_alloc ?_ | refine w_box ?_) <;> intro bb)
          | ((first | refine w_emp ?_ | refine w_make ?_ | refine w_app ?_) <;> intro u hu1 hu2)
          | refine w_stv ?_ | refine w_str ?_ | refine w_cpr ?_ | refine w_cps ?_
          | refine al_last (by kernel_rfl) ?_
        | fail)
        all_goals first | (exfalso; omega) | exact ⟨_, [], rl_, List.nil_sublist _, Sub.eq (by rfl), rfl⟩
end Go.Proofs.YtplabpjkkcillaaDoor
