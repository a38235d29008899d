/- Layer 27 (belief): the reference: are two beliefs the same. No condition. -/
import Derived.Test.YtockidoncngdbaaGreatDoorQ2B9
namespace Go.Proofs.YtockidoncngdbaaGreatDoor
set_option linter.unusedSimpArgs false
set_option linter.unusedVariables false
set_option linter.unusedSectionVars false
set_option maxHeartbeats 4000000
open Go Go.RowKit
set_option maxRecDepth 100000
noncomputable def sameB (a b : Bel) : Bool := @decide (a = b) (Classical.propDecidable _)
theorem sameB_iff {a b : Bel} : sameB a b = true ↔ a = b := @decide_eq_true_iff _ (Classical.propDecidable _)
theorem sameB_self (a : Bel) : sameB a a = true := sameB_iff.2 rfl
theorem sameB_no {a b : Bel} (h : a ≠ b) : sameB a b = false := by
  cases e : sameB a b with
  | true => exact absurd (sameB_iff.1 e) h
  | false => rfl
variable {T0 : Gh} [TabS T0]
attribute [local irreducible] thenA inBlockA AW AL AO QY varO rowO rsA Opd OpdN vA gvA tupA aggA slA slcA ipA rpA EqK LnK IxK LdK FaK FdK
theorem f_ref27Same (w h : Int) (l : List Guess) (x y : Int) (b s : Bool) (w' h' : Int) (l' : List Guess) (x' y' : Int) (b' s' : Bool) (hn : l.length ≤ 100000) : AP Tryz.prog T0 7 [belA w h l x y b s, belA w' h' l' x' y' b' s'] (B (sameB (w, h, l, x, y, b, s) (w', h', l', x', y', b', s'))) := by
  by_cases h0 : w = w' ∧ h = h' ∧ l.length = l'.length ∧ x = x' ∧ y = y' ∧ b = b' ∧ s = s'
  · obtain ⟨rfl, rfl, hl, rfl, rfl, rfl, rfl⟩ := h0
    have e : sameB (w, h, l, x, y, b, s) (w, h, l', x, y, b, s) = decide (l = l') := by
      rw [Bool.eq_iff_iff, sameB_iff, decide_eq_true_eq]; simp
    rw [e]
    refine af_intro Tryz.func7 rfl (by decide) Tryz.ntmps7 rfl ?_
    repeat' (first
    | refine s_op ?_ (hy := by first | (apply k_ix rfl; exact oo_; exact on_; apply ik_sl un_ el_; exact g_in gb_) | fail)
    | refine s_y ?_
      | refine c_ ?_
      | (refine aw_if ?_ ?_ <;> intro hb <;> try (exfalso; first | assumption | omega | (simp only [or_self, and_self, not_true_eq_false, not_false_eq_true, or_false, false_or, and_false, false_and, true_and, and_true] at hb; first | done | omega)))
      | refine s_call ?_ (c := by first | fail | fail)
      | refine s_op ?_ (hy := by first | (apply k_neq rfl; exact oo_; exact oo_; exact ek_gu) | fail)
      | refine s_yg ?_
      | refine s_callg ?_ (c := by intro hk hk2; first | fail | fail)
      | refine s_opg ?_ (hy := by intro hk hk2; first | (apply k_neq rfl; exact oo_; exact oo_; exact ek_gu) | fail)
      | refine s_skip ?_
      | ((first | refine w_alloc ?_ | refine w_box ?_) <;> intro bb)
      | ((first | refine w_emp ?_ | refine w_make ?_ | refine w_app ?_) <;> intro u hu1 hu2)
      | refine w_stv ?_ | refine w_str ?_ | refine w_cpr ?_ | refine w_cps ?_
      | refine al_last (by kernel_rfl) ?_
    | fail)
    all_goals first | (exfalso; simp at hb; omega) | skip
    refine aw_lf (fun k : Nat => [(5, I k)]) (fun k => k ≤ l.length ∧ ∀ j, j < k → gAt l j = gAt l' j) (fun k => l.length - k) 0 ⟨Nat.zero_le _, fun _ k => absurd k (Nat.not_lt_zero _)⟩ ?_
    rintro k ⟨k1, k2⟩
    by_cases hlt : k < l.length
    · repeat' (first
      | refine s_op ?_ (hy := by first | (apply k_ix rfl; exact oo_; exact on_; apply ik_sl un_ el_; exact g_in gb_) | fail)
      | refine s_y ?_
        | refine c_ ?_
        | (refine aw_if ?_ ?_ <;> intro hb <;> try (exfalso; first | assumption | omega | (simp only [or_self, and_self, not_true_eq_false, not_false_eq_true, or_false, false_or, and_false, false_and, true_and, and_true] at hb; first | done | omega)))
        | refine s_call ?_ (c := by first | fail | fail)
        | refine s_op ?_ (hy := by first | (apply k_neq rfl; exact oo_; exact oo_; exact ek_gu) | fail)
        | refine s_yg ?_
        | refine s_callg ?_ (c := by intro hk hk2; first | fail | fail)
        | refine s_opg ?_ (hy := by intro hk hk2; first | (apply k_neq rfl; exact oo_; exact oo_; exact ek_gu) | fail)
        | refine s_skip ?_
        | ((first | refine w_alloc ?_ | refine w_box ?_) <;> intro bb)
        | ((first | refine w_emp ?_ | refine w_make ?_ | refine w_app ?_) <;> intro u hu1 hu2)
        | refine w_stv ?_ | refine w_str ?_ | refine w_cpr ?_ | refine w_cps ?_
        | refine al_last (by kernel_rfl) ?_
      | fail)
      all_goals first | (exfalso; omega) | skip
      · refine ⟨_, [], rl_, List.nil_sublist _, Sub.eq (congrArg B ?_), rfl⟩
        rw [eq_comm, decide_eq_false_iff_not]
        rintro rfl
        exact hb rfl
      · refine ⟨k + 1, ⟨by omega, fun j hj => ?_⟩, by omega, wx_, sl_⟩
        by_cases e : j = k
        · subst e
          first | exact hb | exact Classical.byContradiction fun z => hb z | exact Classical.not_not.1 hb
        · exact k2 j (by omega)
    · have hall : decide (l = l') = true := decide_eq_true (gAt_ext hl fun j hj => k2 j (by omega))
      rw [hall]
      repeat' (first
      | refine s_op ?_ (hy := by first | (apply k_ix rfl; exact oo_; exact on_; apply ik_sl un_ el_; exact g_in gb_) | fail)
      | refine s_y ?_
        | refine c_ ?_
        | (refine aw_if ?_ ?_ <;> intro hb <;> try (exfalso; first | assumption | omega | (simp only [or_self, and_self, not_true_eq_false, not_false_eq_true, or_false, false_or, and_false, false_and, true_and, and_true] at hb; first | done | omega)))
        | refine s_call ?_ (c := by first | fail | fail)
        | refine s_op ?_ (hy := by first | (apply k_neq rfl; exact oo_; exact oo_; exact ek_gu) | fail)
        | refine s_yg ?_
        | refine s_callg ?_ (c := by intro hk hk2; first | fail | fail)
        | refine s_opg ?_ (hy := by intro hk hk2; first | (apply k_neq rfl; exact oo_; exact oo_; exact ek_gu) | fail)
        | refine s_skip ?_
        | ((first | refine w_alloc ?_ | refine w_box ?_) <;> intro bb)
        | ((first | refine w_emp ?_ | refine w_make ?_ | refine w_app ?_) <;> intro u hu1 hu2)
        | refine w_stv ?_ | refine w_str ?_ | refine w_cpr ?_ | refine w_cps ?_
        | refine al_last (by kernel_rfl) ?_
      | fail)
      all_goals first | (exfalso; omega) | skip
      exact ⟨_, [], rl_, List.nil_sublist _, Sub.refl _, rfl⟩
  · have e : sameB (w, h, l, x, y, b, s) (w', h', l', x', y', b', s') = false := by
      refine sameB_no fun z => ?_
      simp only [Prod.mk.injEq] at z
      obtain ⟨rfl, rfl, rfl, rfl, rfl, rfl, rfl⟩ := z
      exact h0 ⟨rfl, rfl, rfl, rfl, rfl, rfl, rfl⟩
    rw [e]
    refine af_intro Tryz.func7 rfl (by decide) Tryz.ntmps7 rfl ?_
    repeat' (first
    | refine s_op ?_ (hy := by first | (apply k_ix rfl; exact oo_; exact on_; apply ik_sl un_ el_; exact g_in gb_) | fail)
    | refine s_y ?_
      | refine c_ ?_
      | (refine aw_if ?_ ?_ <;> intro hb <;> try (exfalso; first | assumption | omega | (simp only [or_self, and_self, not_true_eq_false, not_false_eq_true, or_false, false_or, and_false, false_and, true_and, and_true] at hb; first | done | omega)))
      | refine s_call ?_ (c := by first | fail | fail)
      | refine s_op ?_ (hy := by first | (apply k_neq rfl; exact oo_; exact oo_; exact ek_gu) | fail)
      | refine s_yg ?_
      | refine s_callg ?_ (c := by intro hk hk2; first | fail | fail)
      | refine s_opg ?_ (hy := by intro hk hk2; first | (apply k_neq rfl; exact oo_; exact oo_; exact ek_gu) | fail)
      | refine s_skip ?_
      | ((first | refine w_alloc ?_ | refine w_box ?_) <;> intro bb)
      | ((first | refine w_emp ?_ | refine w_make ?_ | refine w_app ?_) <;> intro u hu1 hu2)
      | refine w_stv ?_ | refine w_str ?_ | refine w_cpr ?_ | refine w_cps ?_
      | refine al_last (by kernel_rfl) ?_
    | fail)
    all_goals first | exact ⟨_, [], rl_, List.nil_sublist _, Sub.refl _, rfl⟩ | skip
    exfalso
    obtain ⟨⟨⟨⟨⟨⟨q1, q2⟩, q3⟩, q4⟩, q5⟩, q6⟩, q7⟩ := hb
    exact h0 ⟨q1, q2, by omega, q4, q5, by simpa using q6, by simpa using q7⟩
end Go.Proofs.YtockidoncngdbaaGreatDoor
