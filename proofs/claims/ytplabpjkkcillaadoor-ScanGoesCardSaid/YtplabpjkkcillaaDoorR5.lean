/- Layer 6 (scan): the reference's maybe and whole. No condition. -/
import Derived.Test.YtplabpjkkcillaaDoorR4
namespace Go.Proofs.YtplabpjkkcillaaDoor
set_option linter.unusedSimpArgs false
set_option linter.unusedVariables false
set_option linter.unusedSectionVars false
set_option maxHeartbeats 4000000
open Go Go.RowKit
variable {T0 : Gh}
set_option maxRecDepth 100000
theorem maybe_c1 : maybeM [13] = (9, 0, 0, 0) := rfl
theorem maybe_c2 : maybeM [10] = (10, 0, 0, 0) := rfl
theorem maybe_c3 : maybeM [8] = (11, 0, 0, 0) := rfl
theorem maybe_c4 : maybeM [7] = (12, 0, 0, 0) := rfl
attribute [local irreducible] thenA inBlockA AW AL AO QY varO rowO rsA Opd OpdN vA gvA tupA aggA slA slcA ipA rpA EqK LnK IxK LdK FaK FdK
theorem f_maybe (s : List UInt8) (hs : s.length ≤ 90000) : AP Tryd.prog T0 82 [SA s] (cmdA (maybeM s)) := by
  have c1 : True := trivial
  have c2 : True := trivial
  by_cases e1 : s = [13]
  · subst e1; rw [maybe_c1]
    refine af_intro Tryd.func82 rfl (by decide) Tryd.ntmps82 rfl ?_
    repeat' (first
    | fail
    | refine s_y ?_
      | refine c_ ?_
      | (refine aw_if ?_ ?_ <;> intro hb <;> try (exfalso; first | assumption | omega | (simp only [or_self, and_self, not_true_eq_false, not_false_eq_true, or_false, false_or, and_false, false_and, true_and, and_true] at hb; first | done | omega)))
      | refine s_call ?_ (c := by first | exact c1 | exact c2 | fail)
      | refine s_op ?_ (hy := by first | fail | fail)
      | refine s_yg ?_
      | refine s_callg ?_ (c := by intro hk hk2; first | exact c1 | exact c2 | fail)
      | refine s_opg ?_ (hy := by intro hk hk2; first | fail | fail)
      | refine s_skip ?_
      | ((first | refine w_alloc ?_ | refine w_box ?_) <;> intro bb)
      | ((first | refine w_emp ?_ | refine w_make ?_ | refine w_app ?_) <;> intro u hu1 hu2)
      | refine w_stv ?_ | refine w_str ?_ | refine w_cpr ?_ | refine w_cps ?_
      | refine al_last (by kernel_rfl) ?_
    | fail)
    all_goals first | exact ⟨_, [], rl_, List.nil_sublist _, Sub.refl _, rfl⟩ | (exfalso; simp at hb; done)
  by_cases e2 : s = [10]
  · subst e2; rw [maybe_c2]
    refine af_intro Tryd.func82 rfl (by decide) Tryd.ntmps82 rfl ?_
    repeat' (first
    | fail
    | refine s_y ?_
      | refine c_ ?_
      | (refine aw_if ?_ ?_ <;> intro hb <;> try (exfalso; first | assumption | omega | (simp only [or_self, and_self, not_true_eq_false, not_false_eq_true, or_false, false_or, and_false, false_and, true_and, and_true] at hb; first | done | omega)))
      | refine s_call ?_ (c := by first | exact c1 | exact c2 | fail)
      | refine s_op ?_ (hy := by first | fail | fail)
      | refine s_yg ?_
      | refine s_callg ?_ (c := by intro hk hk2; first | exact c1 | exact c2 | fail)
      | refine s_opg ?_ (hy := by intro hk hk2; first | fail | fail)
      | refine s_skip ?_
      | ((first | refine w_alloc ?_ | refine w_box ?_) <;> intro bb)
      | ((first | refine w_emp ?_ | refine w_make ?_ | refine w_app ?_) <;> intro u hu1 hu2)
      | refine w_stv ?_ | refine w_str ?_ | refine w_cpr ?_ | refine w_cps ?_
      | refine al_last (by kernel_rfl) ?_
    | fail)
    all_goals first | exact ⟨_, [], rl_, List.nil_sublist _, Sub.refl _, rfl⟩ | (exfalso; simp at hb; done)
  by_cases e3 : s = [8]
  · subst e3; rw [maybe_c3]
    refine af_intro Tryd.func82 rfl (by decide) Tryd.ntmps82 rfl ?_
    repeat' (first
    | fail
    | refine s_y ?_
      | refine c_ ?_
      | (refine aw_if ?_ ?_ <;> intro hb <;> try (exfalso; first | assumption | omega | (simp only [or_self, and_self, not_true_eq_false, not_false_eq_true, or_false, false_or, and_false, false_and, true_and, and_true] at hb; first | done | omega)))
      | refine s_call ?_ (c := by first | exact c1 | exact c2 | fail)
      | refine s_op ?_ (hy := by first | fail | fail)
      | refine s_yg ?_
      | refine s_callg ?_ (c := by intro hk hk2; first | exact c1 | exact c2 | fail)
      | refine s_opg ?_ (hy := by intro hk hk2; first | fail | fail)
      | refine s_skip ?_
      | ((first | refine w_alloc ?_ | refine w_box ?_) <;> intro bb)
      | ((first | refine w_emp ?_ | refine w_make ?_ | refine w_app ?_) <;> intro u hu1 hu2)
      | refine w_stv ?_ | refine w_str ?_ | refine w_cpr ?_ | refine w_cps ?_
      | refine al_last (by kernel_rfl) ?_
    | fail)
    all_goals first | exact ⟨_, [], rl_, List.nil_sublist _, Sub.refl _, rfl⟩ | (exfalso; simp at hb; done)
  by_cases e4 : s = [7]
  · subst e4; rw [maybe_c4]
    refine af_intro Tryd.func82 rfl (by decide) Tryd.ntmps82 rfl ?_
    repeat' (first
    | fail
    | refine s_y ?_
      | refine c_ ?_
      | (refine aw_if ?_ ?_ <;> intro hb <;> try (exfalso; first | assumption | omega | (simp only [or_self, and_self, not_true_eq_false, not_false_eq_true, or_false, false_or, and_false, false_and, true_and, and_true] at hb; first | done | omega)))
      | refine s_call ?_ (c := by first | exact c1 | exact c2 | fail)
      | refine s_op ?_ (hy := by first | fail | fail)
      | refine s_yg ?_
      | refine s_callg ?_ (c := by intro hk hk2; first | exact c1 | exact c2 | fail)
      | refine s_opg ?_ (hy := by intro hk hk2; first | fail | fail)
      | refine s_skip ?_
      | ((first | refine w_alloc ?_ | refine w_box ?_) <;> intro bb)
      | ((first | refine w_emp ?_ | refine w_make ?_ | refine w_app ?_) <;> intro u hu1 hu2)
      | refine w_stv ?_ | refine w_str ?_ | refine w_cpr ?_ | refine w_cps ?_
      | refine al_last (by kernel_rfl) ?_
    | fail)
    all_goals first | exact ⟨_, [], rl_, List.nil_sublist _, Sub.refl _, rfl⟩ | (exfalso; simp at hb; done)
  rw [maybeM, if_neg e1, if_neg e2, if_neg e3, if_neg e4]
  by_cases h3 : s.length < 3 ∨ bt s 0 ≠ 27
  · rw [if_pos h3]
    clear c1
    have c1 := f_ref01Next (T0 := T0) s hs
    have c3 := fun h => bt_bang (s := s) (j := 0) h
    refine af_intro Tryd.func82 rfl (by decide) Tryd.ntmps82 rfl ?_
    repeat' (first
    | fail
    | refine s_y ?_
      | refine c_ ?_
      | (refine aw_if ?_ ?_ <;> intro hb <;> try (exfalso; first | assumption | omega | (simp only [or_self, and_self, not_true_eq_false, not_false_eq_true, or_false, false_or, and_false, false_and, true_and, and_true] at hb; first | done | omega)))
      | refine s_call ?_ (c := by first | exact c1 | exact c2 | fail)
      | refine s_op ?_ (hy := by first | fail | fail)
      | refine s_yg ?_
      | refine s_callg ?_ (c := by intro hk hk2; first | exact c1 | exact c2 | fail)
      | refine s_opg ?_ (hy := by intro hk hk2; first | fail | fail)
      | refine s_skip ?_
      | ((first | refine w_alloc ?_ | refine w_box ?_) <;> intro bb)
      | ((first | refine w_emp ?_ | refine w_make ?_ | refine w_app ?_) <;> intro u hu1 hu2)
      | refine w_stv ?_ | refine w_str ?_ | refine w_cpr ?_ | refine w_cps ?_
      | refine al_last (by kernel_rfl) ?_
    | fail)
    all_goals first | exact ⟨_, [], rl_, List.nil_sublist _, Sub.refl _, rfl⟩ | (exfalso; first | exact e1 (by simpa using hb) | exact e2 (by simpa using hb) | exact e3 (by simpa using hb) | exact e4 (by simpa using hb) | (have := c3 (by omega); omega))
  · rw [if_neg h3]
    have hlen : 3 ≤ s.length := by omega
    obtain ⟨x0, hx0⟩ : ∃ x, s[0]? = some x := ⟨_, List.getElem?_eq_getElem (by omega)⟩
    have hx27 : x0.toNat = 27 := by have := bt_at hx0; omega
    obtain ⟨x, hx⟩ : ∃ x, s[s.length - 1]? = some x := ⟨_, List.getElem?_eq_getElem (by omega)⟩
    have hxx : UInt8.ofNat (bt s (s.length - 1)) = x := by rw [bt_at hx]; simp
    rw [hxx]
    have hx2 := x.toNat_lt
    obtain ⟨mid, hmid⟩ : ∃ m, m = (s.drop 2).take (s.length - 1 - 2) := ⟨_, rfl⟩
    have hml : mid.length ≤ 90000 := by rw [hmid, List.length_take, List.length_drop]; omega
    rw [← hmid]
    by_cases k1 : x.toNat = 75
    · rw [escM, if_pos k1]
      refine af_intro Tryd.func82 rfl (by decide) Tryd.ntmps82 rfl ?_
      repeat' (first
      | fail
      | refine s_y ?_
        | refine c_ ?_
        | (refine aw_if ?_ ?_ <;> intro hb <;> try (exfalso; first | assumption | omega | (simp only [or_self, and_self, not_true_eq_false, not_false_eq_true, or_false, false_or, and_false, false_and, true_and, and_true] at hb; first | done | omega)))
        | refine s_call ?_ (c := by first | exact c1 | exact c2 | fail)
        | refine s_op ?_ (hy := by first | fail | fail)
        | refine s_yg ?_
        | refine s_callg ?_ (c := by intro hk hk2; first | exact c1 | exact c2 | fail)
        | refine s_opg ?_ (hy := by intro hk hk2; first | fail | fail)
        | refine s_skip ?_
        | ((first | refine w_alloc ?_ | refine w_box ?_) <;> intro bb)
        | ((first | refine w_emp ?_ | refine w_make ?_ | refine w_app ?_) <;> intro u hu1 hu2)
        | refine w_stv ?_ | refine w_str ?_ | refine w_cpr ?_ | refine w_cps ?_
        | refine al_last (by kernel_rfl) ?_
      | fail)
      all_goals first | exact ⟨_, [], rl_, List.nil_sublist _, Sub.refl _, rfl⟩ | (exfalso; first | omega | exact e1 (by simpa using hb) | exact e2 (by simpa using hb) | exact e3 (by simpa using hb) | exact e4 (by simpa using hb))
    by_cases k2 : x.toNat = 74
    · rw [escM, if_neg k1, if_pos k2]
      refine af_intro Tryd.func82 rfl (by decide) Tryd.ntmps82 rfl ?_
      repeat' (first
      | fail
      | refine s_y ?_
        | refine c_ ?_
        | (refine aw_if ?_ ?_ <;> intro hb <;> try (exfalso; first | assumption | omega | (simp only [or_self, and_self, not_true_eq_false, not_false_eq_true, or_false, false_or, and_false, false_and, true_and, and_true] at hb; first | done | omega)))
        | refine s_call ?_ (c := by first | exact c1 | exact c2 | fail)
        | refine s_op ?_ (hy := by first | fail | fail)
        | refine s_yg ?_
        | refine s_callg ?_ (c := by intro hk hk2; first | exact c1 | exact c2 | fail)
        | refine s_opg ?_ (hy := by intro hk hk2; first | fail | fail)
        | refine s_skip ?_
        | ((first | refine w_alloc ?_ | refine w_box ?_) <;> intro bb)
        | ((first | refine w_emp ?_ | refine w_make ?_ | refine w_app ?_) <;> intro u hu1 hu2)
        | refine w_stv ?_ | refine w_str ?_ | refine w_cpr ?_ | refine w_cps ?_
        | refine al_last (by kernel_rfl) ?_
      | fail)
      all_goals first | exact ⟨_, [], rl_, List.nil_sublist _, Sub.refl _, rfl⟩ | (exfalso; first | omega | exact e1 (by simpa using hb) | exact e2 (by simpa using hb) | exact e3 (by simpa using hb) | exact e4 (by simpa using hb))
    by_cases k3 : x.toNat = 72
    · rw [escM, if_neg k1, if_neg k2, if_pos k3]
      refine af_intro Tryd.func82 rfl (by decide) Tryd.ntmps82 rfl ?_
      repeat' (first
      | fail
      | refine s_y ?_
        | refine c_ ?_
        | (refine aw_if ?_ ?_ <;> intro hb <;> try (exfalso; first | assumption | omega | (simp only [or_self, and_self, not_true_eq_false, not_false_eq_true, or_false, false_or, and_false, false_and, true_and, and_true] at hb; first | done | omega)))
        | refine s_call ?_ (c := by first | exact c1 | exact c2 | fail)
        | refine s_op ?_ (hy := by first | fail | fail)
        | refine s_yg ?_
        | refine s_callg ?_ (c := by intro hk hk2; first | exact c1 | exact c2 | fail)
        | refine s_opg ?_ (hy := by intro hk hk2; first | fail | fail)
        | refine s_skip ?_
        | ((first | refine w_alloc ?_ | refine w_box ?_) <;> intro bb)
        | ((first | refine w_emp ?_ | refine w_make ?_ | refine w_app ?_) <;> intro u hu1 hu2)
        | refine w_stv ?_ | refine w_str ?_ | refine w_cpr ?_ | refine w_cps ?_
        | refine al_last (by kernel_rfl) ?_
      | fail)
      all_goals first | (exfalso; first | omega | exact e1 (by simpa using hb) | exact e2 (by simpa using hb) | exact e3 (by simpa using hb) | exact e4 (by simpa using hb)) | skip
      rw [← hmid]
      clear hx hx0 h3 hmid
      refine aw_lf (σ := Nat) (fun i => [(8, I i)]) (fun i => i ≤ mid.length ∧ ∀ j, j < i → bt mid j ≠ 59) (fun i => mid.length - i) 0 ⟨by omega, fun j h => by omega⟩ ?_
      rintro i ⟨i1, i2⟩
      by_cases hlt : i < mid.length
      · obtain ⟨y, hy⟩ : ∃ y, mid[i]? = some y := ⟨_, List.getElem?_eq_getElem hlt⟩
        have hy2 := y.toNat_lt
        by_cases h59 : y.toNat = 59
        · have hsm := semi_at hy h59 i2
          have hg : goM mid = (2, numR (mid.take i) - 1, numR (mid.drop (i + 1)) - 1, 0) := by rw [goM, hsm, if_pos hlt]
          rw [hg]
          have r1 := numR_rng (mid.take i)
          have r2 := numR_rng (mid.drop (i + 1))
          clear c1 c2
          have c1 := f_number06 (T0 := T0) (mid.take i) (by rw [List.length_take]; omega)
          have c2 := f_number06 (T0 := T0) (mid.drop (i + 1)) (by rw [List.length_drop]; omega)
          have e : mid.drop (i + 1) = (mid.drop (i + 1)).take (mid.length - (i + 1)) := (List.take_of_length_le (by rw [List.length_drop]; omega)).symm
          generalize numR (mid.take i) = v1 at r1 c1 ⊢
          generalize numR (mid.drop (i + 1)) = v2 at r2 c2 ⊢
          rw [e] at c2
          clear e
          repeat' (first
          | fail
          | refine s_y ?_
            | refine c_ ?_
            | (refine aw_if ?_ ?_ <;> intro hb <;> try (exfalso; first | assumption | omega | (simp only [or_self, and_self, not_true_eq_false, not_false_eq_true, or_false, false_or, and_false, false_and, true_and, and_true] at hb; first | done | omega)))
            | refine s_call ?_ (c := by first | exact c1 | exact c2 | fail)
            | refine s_op ?_ (hy := by first | fail | fail)
            | refine s_yg ?_
            | refine s_callg ?_ (c := by intro hk hk2; first | exact c1 | exact c2 | fail)
            | refine s_opg ?_ (hy := by intro hk hk2; first | fail | fail)
            | refine s_skip ?_
            | ((first | refine w_alloc ?_ | refine w_box ?_) <;> intro bb)
            | ((first | refine w_emp ?_ | refine w_make ?_ | refine w_app ?_) <;> intro u hu1 hu2)
            | refine w_stv ?_ | refine w_str ?_ | refine w_cpr ?_ | refine w_cps ?_
            | refine al_last (by kernel_rfl) ?_
          | fail)
          all_goals first | (exfalso; omega) | exact ⟨_, [], rl_, List.nil_sublist _, Sub.refl _, rfl⟩
        · have hn : ∀ j, j < i + 1 → bt mid j ≠ 59 := fun j h => by
            rcases Nat.lt_or_ge j i with h' | h'
            · exact i2 j h'
            · obtain rfl : j = i := by omega
              rw [bt_at hy]; exact h59
          repeat' (first
          | fail
          | refine s_y ?_
            | refine c_ ?_
            | (refine aw_if ?_ ?_ <;> intro hb <;> try (exfalso; first | assumption | omega | (simp only [or_self, and_self, not_true_eq_false, not_false_eq_true, or_false, false_or, and_false, false_and, true_and, and_true] at hb; first | done | omega)))
            | refine s_call ?_ (c := by first | exact c1 | exact c2 | fail)
            | refine s_op ?_ (hy := by first | fail | fail)
            | refine s_yg ?_
            | refine s_callg ?_ (c := by intro hk hk2; first | exact c1 | exact c2 | fail)
            | refine s_opg ?_ (hy := by intro hk hk2; first | fail | fail)
            | refine s_skip ?_
            | ((first | refine w_alloc ?_ | refine w_box ?_) <;> intro bb)
            | ((first | refine w_emp ?_ | refine w_make ?_ | refine w_app ?_) <;> intro u hu1 hu2)
            | refine w_stv ?_ | refine w_str ?_ | refine w_cpr ?_ | refine w_cps ?_
            | refine al_last (by kernel_rfl) ?_
          | fail)
          all_goals first | (exfalso; omega) | exact ⟨i + 1, ⟨by omega, hn⟩, by omega, wx_, sl_⟩
      · have hg : goM mid = (0, 0, 0, 0) := by rw [goM, if_neg (semi_no fun j h => i2 j (by omega))]
        rw [hg]
        repeat' (first
        | fail
        | refine s_y ?_
          | refine c_ ?_
          | (refine aw_if ?_ ?_ <;> intro hb <;> try (exfalso; first | assumption | omega | (simp only [or_self, and_self, not_true_eq_false, not_false_eq_true, or_false, false_or, and_false, false_and, true_and, and_true] at hb; first | done | omega)))
          | refine s_call ?_ (c := by first | exact c1 | exact c2 | fail)
          | refine s_op ?_ (hy := by first | fail | fail)
          | refine s_yg ?_
          | refine s_callg ?_ (c := by intro hk hk2; first | exact c1 | exact c2 | fail)
          | refine s_opg ?_ (hy := by intro hk hk2; first | fail | fail)
          | refine s_skip ?_
          | ((first | refine w_alloc ?_ | refine w_box ?_) <;> intro bb)
          | ((first | refine w_emp ?_ | refine w_make ?_ | refine w_app ?_) <;> intro u hu1 hu2)
          | refine w_stv ?_ | refine w_str ?_ | refine w_cpr ?_ | refine w_cps ?_
          | refine al_last (by kernel_rfl) ?_
        | fail)
        all_goals first | (exfalso; omega) | exact ⟨_, [], rl_, List.nil_sublist _, Sub.refl _, rfl⟩
    · rw [escM, if_neg k1, if_neg k2, if_neg k3]
      have hr := numR_rng mid
      clear c1
      have c1 := f_number06 (T0 := T0) mid hml
      have c2 : mid = [] → (if mid = [] then (1 : Int) else numR mid) = 1 := fun h => by rw [if_pos h]
      have c3 : mid ≠ [] → (if mid = [] then (1 : Int) else numR mid) = numR mid := fun h => by rw [if_neg h]
      rw [hmid] at c1
      refine af_intro Tryd.func82 rfl (by decide) Tryd.ntmps82 rfl ?_
      repeat' (first
      | fail
      | refine s_y ?_
        | refine c_ ?_
        | (refine aw_if ?_ ?_ <;> intro hb <;> try (exfalso; first | assumption | omega | (simp only [or_self, and_self, not_true_eq_false, not_false_eq_true, or_false, false_or, and_false, false_and, true_and, and_true] at hb; first | done | omega)))
        | refine s_call ?_ (c := by first | exact c1 | exact c2 | fail)
        | refine s_op ?_ (hy := by first | fail | fail)
        | refine s_yg ?_
        | refine s_callg ?_ (c := by intro hk hk2; first | exact c1 | exact c2 | fail)
        | refine s_opg ?_ (hy := by intro hk hk2; first | fail | fail)
        | refine s_skip ?_
        | ((first | refine w_alloc ?_ | refine w_box ?_) <;> intro bb)
        | ((first | refine w_emp ?_ | refine w_make ?_ | refine w_app ?_) <;> intro u hu1 hu2)
        | refine w_stv ?_ | refine w_str ?_ | refine w_cpr ?_ | refine w_cps ?_
        | refine al_last (by kernel_rfl) ?_
      | fail)
      all_goals first | (exfalso; first | omega | exact e1 (by simpa using hb) | exact e2 (by simpa using hb) | exact e3 (by simpa using hb) | exact e4 (by simpa using hb)) | skip
      all_goals first | exact ⟨_, [], rl_, List.nil_sublist _, Sub.eq (by rw [c2 (hmid.trans (by simpa using hb))]; rfl), rfl⟩ | exact ⟨_, [], rl_, List.nil_sublist _, Sub.eq (by rw [c3 (by rw [hmid]; simpa using hb), hmid]; rfl), rfl⟩
/-- is it just a command's bytes? -/
def wholeR (s : List UInt8) : Cmd × Bool := (maybeM s, isCmd (maybeM s) && decide (bytesB (maybeM s) = s))
theorem whole_shape {s : List UInt8} (h : (wholeR s).2 = true) : Shape (maybeM s) s := by
  simp only [wholeR, Bool.and_eq_true, decide_eq_true_eq] at h
  have := shape_of h.1
  rw [h.2] at this; exact this
theorem f_whole06 (s : List UInt8) (hs : s.length ≤ 90000) : AP Tryd.prog T0 42 [SA s] (tupA [cmdA (wholeR s).1, B (wholeR s).2]) := by
  have c1 := f_maybe (T0 := T0) s hs
  have c2 := f_ref05Put (T0 := T0) (maybeM s)
  rw [wholeR]
  generalize maybeM s = c at c1 c2 ⊢
  cases hc : isCmd c with
  | true =>
    have e2 : putR' c = (bytesB c, 0) := by rw [putR', if_pos hc]
    rw [e2] at c2
    refine af_intro Tryd.func42 rfl (by decide) Tryd.ntmps42 rfl ?_
    repeat' (first
    | fail
    | refine s_y ?_
      | refine c_ ?_
      | (refine aw_if ?_ ?_ <;> intro hb <;> try (exfalso; first | assumption | omega | (simp only [or_self, and_self, not_true_eq_false, not_false_eq_true, or_false, false_or, and_false, false_and, true_and, and_true] at hb; first | done | omega)))
      | refine s_call ?_ (c := by first | exact c1 | exact c2 | fail)
      | refine s_op ?_ (hy := by first | fail | fail)
      | refine s_yg ?_
      | refine s_callg ?_ (c := by intro hk hk2; first | exact c1 | exact c2 | fail)
      | refine s_opg ?_ (hy := by intro hk hk2; first | fail | fail)
      | refine s_skip ?_
      | ((first | refine w_alloc ?_ | refine w_box ?_) <;> intro bb)
      | ((first | refine w_emp ?_ | refine w_make ?_ | refine w_app ?_) <;> intro u hu1 hu2)
      | refine w_stv ?_ | refine w_str ?_ | refine w_cpr ?_ | refine w_cps ?_
      | refine al_last (by kernel_rfl) ?_
    | fail)
    all_goals first | exact ⟨_, [], rl_, List.nil_sublist _, Sub.refl _, rfl⟩ | exact ⟨_, [], rl_, List.nil_sublist _, Sub.eq (by simp), rfl⟩
  | false =>
    have e2 : putR' c = ([], 1) := by rw [putR', if_neg (by rw [hc]; decide)]
    rw [e2] at c2
    refine af_intro Tryd.func42 rfl (by decide) Tryd.ntmps42 rfl ?_
    repeat' (first
    | fail
    | refine s_y ?_
      | refine c_ ?_
      | (refine aw_if ?_ ?_ <;> intro hb <;> try (exfalso; first | assumption | omega | (simp only [or_self, and_self, not_true_eq_false, not_false_eq_true, or_false, false_or, and_false, false_and, true_and, and_true] at hb; first | done | omega)))
      | refine s_call ?_ (c := by first | exact c1 | exact c2 | fail)
      | refine s_op ?_ (hy := by first | fail | fail)
      | refine s_yg ?_
      | refine s_callg ?_ (c := by intro hk hk2; first | exact c1 | exact c2 | fail)
      | refine s_opg ?_ (hy := by intro hk hk2; first | fail | fail)
      | refine s_skip ?_
      | ((first | refine w_alloc ?_ | refine w_box ?_) <;> intro bb)
      | ((first | refine w_emp ?_ | refine w_make ?_ | refine w_app ?_) <;> intro u hu1 hu2)
      | refine w_stv ?_ | refine w_str ?_ | refine w_cpr ?_ | refine w_cps ?_
      | refine al_last (by kernel_rfl) ?_
    | fail)
    all_goals first | exact ⟨_, [], rl_, List.nil_sublist _, Sub.refl _, rfl⟩ | exact ⟨_, [], rl_, List.nil_sublist _, Sub.eq (by simp), rfl⟩
end Go.Proofs.YtplabpjkkcillaaDoor
