/- Layer 27 (belief): is a row of guesses right, by the program. No condition. -/
import Derived.Test.YtockidoncngdbaaGreatDoorQ2B1
namespace Go.Proofs.YtockidoncngdbaaGreatDoor
set_option linter.unusedSimpArgs false
set_option linter.unusedVariables false
set_option linter.unusedSectionVars false
set_option maxHeartbeats 4000000
open Go Go.RowKit
variable {T0 : Gh} [TabS T0]
attribute [local irreducible] thenA inBlockA AW AL AO QY varO rowO rsA Opd OpdN vA gvA tupA aggA slA slcA ipA rpA EqK LnK IxK LdK FaK FdK
set_option maxRecDepth 100000
theorem f_sure (c : Cell) : AP Tryz.prog T0 41 [cellA c] (guA (c, true)) := by
  refine af_intro Tryz.func41 rfl (by decide) Tryz.ntmps41 rfl ?_
  repeat' (first
  | fail
  | refine s_y ?_
    | refine c_ ?_
    | (refine aw_if ?_ ?_ <;> intro hb <;> try (exfalso; first | assumption | omega | (simp only [or_self, and_self, not_true_eq_false, not_false_eq_true, or_false, false_or, and_false, false_and, true_and, and_true] at hb; first | done | omega)))
    | refine s_call ?_ (c := by first | fail | fail)
    | refine s_op ?_ (hy := by first | fail | fail)
    | refine s_yg ?_
    | refine s_callg ?_ (c := by intro hk hk2; first | fail | fail)
    | refine s_opg ?_ (hy := by intro hk hk2; first | fail | fail)
    | refine s_skip ?_
    | ((first | refine w_alloc ?_ | refine w_box ?_) <;> intro bb)
    | ((first | refine w_emp ?_ | refine w_make ?_ | refine w_app ?_) <;> intro u hu1 hu2)
    | refine w_stv ?_ | refine w_str ?_ | refine w_cpr ?_ | refine w_cps ?_
    | refine al_last (by kernel_rfl) ?_
  | fail)
  exact ⟨_, [], rs_, List.nil_sublist _, Sub.refl _, rfl⟩
theorem f_bBlank : AP Tryz.prog T0 42 [] (cellA (32, 0)) := by
  refine af_intro Tryz.func42 rfl (by decide) Tryz.ntmps42 rfl ?_
  repeat' (first
  | fail
  | refine s_y ?_
    | refine c_ ?_
    | (refine aw_if ?_ ?_ <;> intro hb <;> try (exfalso; first | assumption | omega | (simp only [or_self, and_self, not_true_eq_false, not_false_eq_true, or_false, false_or, and_false, false_and, true_and, and_true] at hb; first | done | omega)))
    | refine s_call ?_ (c := by first | fail | fail)
    | refine s_op ?_ (hy := by first | fail | fail)
    | refine s_yg ?_
    | refine s_callg ?_ (c := by intro hk hk2; first | fail | fail)
    | refine s_opg ?_ (hy := by intro hk hk2; first | fail | fail)
    | refine s_skip ?_
    | ((first | refine w_alloc ?_ | refine w_box ?_) <;> intro bb)
    | ((first | refine w_emp ?_ | refine w_make ?_ | refine w_app ?_) <;> intro u hu1 hu2)
    | refine w_stv ?_ | refine w_str ?_ | refine w_cpr ?_ | refine w_cps ?_
    | refine al_last (by kernel_rfl) ?_
  | fail)
  exact ⟨_, [], rs_, List.nil_sublist _, Sub.refl _, rfl⟩
theorem ay_ix0 {fr : Fr} {M : List Own} {ops : Array Oper} {o : Oper} {x y : Operand} {k : Bool} (ho : o.op = .indexAddr 22 x y) (hk : k = true) (h0 : k = false) : AY Tryz.prog T0 ops o fr M (ipA (guT.enc ((0, 0), false))) := by rw [h0] at hk; cases hk
theorem f_beRow (l : List Guess) (hl : l.length ≤ 100000) : AP Tryz.prog T0 37 [slA guT l] (B (rowGs l)) := by
  have bad : ∀ k, k < l.length → rowG l k = false → rowGs l = false := fun k hk h => by
    cases e : rowGs l with
    | false => rfl
    | true => rw [rowGs_iff.1 e k hk] at h; cases h
  refine af_intro Tryz.func37 rfl (by decide) Tryz.ntmps37 rfl ?_
  repeat' (first
  | fail
  | refine s_y ?_
    | refine c_ ?_
    | (refine aw_if ?_ ?_ <;> intro hb <;> try (exfalso; first | assumption | omega | (simp only [or_self, and_self, not_true_eq_false, not_false_eq_true, or_false, false_or, and_false, false_and, true_and, and_true] at hb; first | done | omega)))
    | refine s_call ?_ (c := by first | exact f_wideIs (_, _) | exact f_sure (_, 2) | exact f_sure (_, 1) | exact f_sure (_, _) | fail)
    | refine s_op ?_ (hy := by first | (apply ay_sub rfl (a := 3) (b := 1); exact oo_; exact oo_; exact fit_) | (apply ay_sub rfl (a := 3) (b := 2); exact oo_; exact oo_; exact fit_) | (apply k_neq rfl; exact oo_; exact oo_; exact ek_gu) | (apply k_neq rfl; exact oog_; exact oog_; exact ek_gu) | (apply k_eql rfl; exact oo_; exact oo_;  exact ek_gu) | exact ay_ix0 rfl hk (by simp) | fail)
    | refine s_yg ?_
    | refine s_callg ?_ (c := by intro hk hk2; first | exact f_wideIs (_, _) | exact f_sure (_, 2) | exact f_sure (_, 1) | exact f_sure (_, _) | fail)
    | refine s_opg ?_ (hy := by intro hk hk2; first | (apply ay_sub rfl (a := 3) (b := 1); exact oo_; exact oo_; exact fit_) | (apply ay_sub rfl (a := 3) (b := 2); exact oo_; exact oo_; exact fit_) | (apply k_neq rfl; exact oo_; exact oo_; exact ek_gu) | (apply k_neq rfl; exact oog_; exact oog_; exact ek_gu) | (apply k_eql rfl; exact oo_; exact oo_;  exact ek_gu) | exact ay_ix0 rfl hk (by simp) | fail)
    | refine s_skip ?_
    | ((first | refine w_alloc ?_ | refine w_box ?_) <;> intro bb)
    | ((first | refine w_emp ?_ | refine w_make ?_ | refine w_app ?_) <;> intro u hu1 hu2)
    | refine w_stv ?_ | refine w_str ?_ | refine w_cpr ?_ | refine w_cps ?_
    | refine al_last (by kernel_rfl) ?_
  | fail)
  refine aw_lf (fun k : Nat => [(9, I k)]) (fun k => k ≤ l.length ∧ ∀ j, j < k → rowG l j = true) (fun k => l.length - k) 0 ⟨Nat.zero_le _, fun j hj => absurd hj (Nat.not_lt_zero _)⟩ ?_
  rintro k ⟨h1, h2⟩
  by_cases hlt : k < l.length
  · have hat := g_in hlt
    have hb0 := bad k hlt
    have nxt : rowG l k = true → ∀ j, j < k + 1 → rowG l j = true := fun h j hj => by
      by_cases e : j = k
      · subst e; exact h
      · exact h2 j (by omega)
    have hr : rowG l k = rowG l k := rfl
    conv at hr => rhs; unfold rowG
    have gn : k + 1 < l.length → l[k + 1]? = some (gAt l (k + 1)) := fun h => g_in h
    have gp : 1 ≤ k → l[k - 1]? = some (gAt l (k - 1)) := fun h => g_in (by omega)
    generalize gAt l (k + 1) = gx at *
    generalize gAt l (k - 1) = gy at *
    generalize rowG l k = rk at *
    generalize rowGs l = rl at *
    generalize gAt l k = g at *
    clear bad
    obtain ⟨⟨x1, x2⟩, x3⟩ := gx
    obtain ⟨⟨y1, y2⟩, y3⟩ := gy
    obtain ⟨⟨c1, c2⟩, s⟩ := g
    cases s with
    | false =>
      repeat' (first
      | fail
      | refine s_y ?_
        | refine c_ ?_
        | (refine aw_if ?_ ?_ <;> intro hb <;> try (exfalso; first | assumption | omega | (simp only [or_self, and_self, not_true_eq_false, not_false_eq_true, or_false, false_or, and_false, false_and, true_and, and_true] at hb; first | done | omega)))
        | refine s_call ?_ (c := by first | exact f_wideIs (_, _) | exact f_sure (_, 2) | exact f_sure (_, 1) | exact f_sure (_, _) | fail)
        | refine s_op ?_ (hy := by first | (apply ay_sub rfl (a := 3) (b := 1); exact oo_; exact oo_; exact fit_) | (apply ay_sub rfl (a := 3) (b := 2); exact oo_; exact oo_; exact fit_) | (apply k_neq rfl; exact oo_; exact oo_; exact ek_gu) | (apply k_neq rfl; exact oog_; exact oog_; exact ek_gu) | (apply k_eql rfl; exact oo_; exact oo_;  exact ek_gu) | exact ay_ix0 rfl hk (by simp) | fail)
        | refine s_yg ?_
        | refine s_callg ?_ (c := by intro hk hk2; first | exact f_wideIs (_, _) | exact f_sure (_, 2) | exact f_sure (_, 1) | exact f_sure (_, _) | fail)
        | refine s_opg ?_ (hy := by intro hk hk2; first | (apply ay_sub rfl (a := 3) (b := 1); exact oo_; exact oo_; exact fit_) | (apply ay_sub rfl (a := 3) (b := 2); exact oo_; exact oo_; exact fit_) | (apply k_neq rfl; exact oo_; exact oo_; exact ek_gu) | (apply k_neq rfl; exact oog_; exact oog_; exact ek_gu) | (apply k_eql rfl; exact oo_; exact oo_;  exact ek_gu) | exact ay_ix0 rfl hk (by simp) | fail)
        | refine s_skip ?_
        | ((first | refine w_alloc ?_ | refine w_box ?_) <;> intro bb)
        | ((first | refine w_emp ?_ | refine w_make ?_ | refine w_app ?_) <;> intro u hu1 hu2)
        | refine w_stv ?_ | refine w_str ?_ | refine w_cpr ?_ | refine w_cps ?_
        | refine al_last (by kernel_rfl) ?_
      | fail)
      all_goals first | exact ⟨_, [], rl_, List.nil_sublist _, Sub.eq (congrArg B (hb0 (by rw [hr]; simp_all)).symm), rfl⟩ | exact ⟨k + 1, ⟨by omega, nxt (by rw [hr]; simp_all)⟩, by omega, wx_, sl_⟩ | skip
    | true =>
      by_cases hK1 : c2 = 1
      · subst hK1
        by_cases hn : k + 1 < l.length
        · have gn := gn hn
          cases x3 with
          | false =>
            repeat' (first
            | fail
            | refine s_y ?_
              | refine c_ ?_
              | (refine aw_if ?_ ?_ <;> intro hb <;> try (exfalso; first | assumption | omega | (simp only [or_self, and_self, not_true_eq_false, not_false_eq_true, or_false, false_or, and_false, false_and, true_and, and_true] at hb; first | done | omega)))
              | refine s_call ?_ (c := by first | exact f_wideIs (_, _) | exact f_sure (_, 2) | exact f_sure (_, 1) | exact f_sure (_, _) | fail)
              | refine s_op ?_ (hy := by first | (apply ay_sub rfl (a := 3) (b := 1); exact oo_; exact oo_; exact fit_) | (apply ay_sub rfl (a := 3) (b := 2); exact oo_; exact oo_; exact fit_) | (apply k_neq rfl; exact oo_; exact oo_; exact ek_gu) | (apply k_neq rfl; exact oog_; exact oog_; exact ek_gu) | (apply k_eql rfl; exact oo_; exact oo_;  exact ek_gu) | exact ay_ix0 rfl hk (by simp) | fail)
              | refine s_yg ?_
              | refine s_callg ?_ (c := by intro hk hk2; first | exact f_wideIs (_, _) | exact f_sure (_, 2) | exact f_sure (_, 1) | exact f_sure (_, _) | fail)
              | refine s_opg ?_ (hy := by intro hk hk2; first | (apply ay_sub rfl (a := 3) (b := 1); exact oo_; exact oo_; exact fit_) | (apply ay_sub rfl (a := 3) (b := 2); exact oo_; exact oo_; exact fit_) | (apply k_neq rfl; exact oo_; exact oo_; exact ek_gu) | (apply k_neq rfl; exact oog_; exact oog_; exact ek_gu) | (apply k_eql rfl; exact oo_; exact oo_;  exact ek_gu) | exact ay_ix0 rfl hk (by simp) | fail)
              | refine s_skip ?_
              | ((first | refine w_alloc ?_ | refine w_box ?_) <;> intro bb)
              | ((first | refine w_emp ?_ | refine w_make ?_ | refine w_app ?_) <;> intro u hu1 hu2)
              | refine w_stv ?_ | refine w_str ?_ | refine w_cpr ?_ | refine w_cps ?_
              | refine al_last (by kernel_rfl) ?_
            | fail)
            all_goals first | exact ⟨_, [], rl_, List.nil_sublist _, Sub.eq (congrArg B (hb0 (by rw [hr]; simp_all)).symm), rfl⟩ | exact ⟨k + 1, ⟨by omega, nxt (by rw [hr]; simp_all)⟩, by omega, wx_, sl_⟩ | skip
          | true =>
            by_cases he : x1 = c1 ∧ x2 = 2
            · obtain ⟨rfl, rfl⟩ := he
              repeat' (first
              | fail
              | refine s_y ?_
                | refine c_ ?_
                | (refine aw_if ?_ ?_ <;> intro hb <;> try (exfalso; first | assumption | omega | (simp only [or_self, and_self, not_true_eq_false, not_false_eq_true, or_false, false_or, and_false, false_and, true_and, and_true] at hb; first | done | omega)))
                | refine s_call ?_ (c := by first | exact f_wideIs (_, _) | exact f_sure (_, 2) | exact f_sure (_, 1) | exact f_sure (_, _) | fail)
                | refine s_op ?_ (hy := by first | (apply ay_sub rfl (a := 3) (b := 1); exact oo_; exact oo_; exact fit_) | (apply ay_sub rfl (a := 3) (b := 2); exact oo_; exact oo_; exact fit_) | (apply k_neq rfl; exact oo_; exact oo_; exact ek_gu) | (apply k_neq rfl; exact oog_; exact oog_; exact ek_gu) | (apply k_eql rfl; exact oo_; exact oo_;  exact ek_gu) | exact ay_ix0 rfl hk (by simp) | fail)
                | refine s_yg ?_
                | refine s_callg ?_ (c := by intro hk hk2; first | exact f_wideIs (_, _) | exact f_sure (_, 2) | exact f_sure (_, 1) | exact f_sure (_, _) | fail)
                | refine s_opg ?_ (hy := by intro hk hk2; first | (apply ay_sub rfl (a := 3) (b := 1); exact oo_; exact oo_; exact fit_) | (apply ay_sub rfl (a := 3) (b := 2); exact oo_; exact oo_; exact fit_) | (apply k_neq rfl; exact oo_; exact oo_; exact ek_gu) | (apply k_neq rfl; exact oog_; exact oog_; exact ek_gu) | (apply k_eql rfl; exact oo_; exact oo_;  exact ek_gu) | exact ay_ix0 rfl hk (by simp) | fail)
                | refine s_skip ?_
                | ((first | refine w_alloc ?_ | refine w_box ?_) <;> intro bb)
                | ((first | refine w_emp ?_ | refine w_make ?_ | refine w_app ?_) <;> intro u hu1 hu2)
                | refine w_stv ?_ | refine w_str ?_ | refine w_cpr ?_ | refine w_cps ?_
                | refine al_last (by kernel_rfl) ?_
              | fail)
              all_goals first | exact ⟨_, [], rl_, List.nil_sublist _, Sub.eq (congrArg B (hb0 (by rw [hr]; simp_all)).symm), rfl⟩ | exact ⟨k + 1, ⟨by omega, nxt (by rw [hr]; simp_all)⟩, by omega, wx_, sl_⟩ | skip
            · repeat' (first
              | fail
              | refine s_y ?_
                | refine c_ ?_
                | (refine aw_if ?_ ?_ <;> intro hb <;> try (exfalso; first | assumption | omega | (simp only [or_self, and_self, not_true_eq_false, not_false_eq_true, or_false, false_or, and_false, false_and, true_and, and_true] at hb; first | done | omega)))
                | refine s_call ?_ (c := by first | exact f_wideIs (_, _) | exact f_sure (_, 2) | exact f_sure (_, 1) | exact f_sure (_, _) | fail)
                | refine s_op ?_ (hy := by first | (apply ay_sub rfl (a := 3) (b := 1); exact oo_; exact oo_; exact fit_) | (apply ay_sub rfl (a := 3) (b := 2); exact oo_; exact oo_; exact fit_) | (apply k_neq rfl; exact oo_; exact oo_; exact ek_gu) | (apply k_neq rfl; exact oog_; exact oog_; exact ek_gu) | (apply k_eql rfl; exact oo_; exact oo_;  exact ek_gu) | exact ay_ix0 rfl hk (by simp) | fail)
                | refine s_yg ?_
                | refine s_callg ?_ (c := by intro hk hk2; first | exact f_wideIs (_, _) | exact f_sure (_, 2) | exact f_sure (_, 1) | exact f_sure (_, _) | fail)
                | refine s_opg ?_ (hy := by intro hk hk2; first | (apply ay_sub rfl (a := 3) (b := 1); exact oo_; exact oo_; exact fit_) | (apply ay_sub rfl (a := 3) (b := 2); exact oo_; exact oo_; exact fit_) | (apply k_neq rfl; exact oo_; exact oo_; exact ek_gu) | (apply k_neq rfl; exact oog_; exact oog_; exact ek_gu) | (apply k_eql rfl; exact oo_; exact oo_;  exact ek_gu) | exact ay_ix0 rfl hk (by simp) | fail)
                | refine s_skip ?_
                | ((first | refine w_alloc ?_ | refine w_box ?_) <;> intro bb)
                | ((first | refine w_emp ?_ | refine w_make ?_ | refine w_app ?_) <;> intro u hu1 hu2)
                | refine w_stv ?_ | refine w_str ?_ | refine w_cpr ?_ | refine w_cps ?_
                | refine al_last (by kernel_rfl) ?_
              | fail)
              all_goals first | exact ⟨_, [], rl_, List.nil_sublist _, Sub.eq (congrArg B (hb0 (by rw [hr]; simp_all)).symm), rfl⟩ | exact ⟨k + 1, ⟨by omega, nxt (by rw [hr]; simp_all)⟩, by omega, wx_, sl_⟩ | skip
        · have he : l.length = k + 1 := by omega
          repeat' (first
          | fail
          | refine s_y ?_
            | refine c_ ?_
            | (refine aw_if ?_ ?_ <;> intro hb <;> try (exfalso; first | assumption | omega | (simp only [or_self, and_self, not_true_eq_false, not_false_eq_true, or_false, false_or, and_false, false_and, true_and, and_true] at hb; first | done | omega)))
            | refine s_call ?_ (c := by first | exact f_wideIs (_, _) | exact f_sure (_, 2) | exact f_sure (_, 1) | exact f_sure (_, _) | fail)
            | refine s_op ?_ (hy := by first | (apply ay_sub rfl (a := 3) (b := 1); exact oo_; exact oo_; exact fit_) | (apply ay_sub rfl (a := 3) (b := 2); exact oo_; exact oo_; exact fit_) | (apply k_neq rfl; exact oo_; exact oo_; exact ek_gu) | (apply k_neq rfl; exact oog_; exact oog_; exact ek_gu) | (apply k_eql rfl; exact oo_; exact oo_;  exact ek_gu) | exact ay_ix0 rfl hk (by simp) | fail)
            | refine s_yg ?_
            | refine s_callg ?_ (c := by intro hk hk2; first | exact f_wideIs (_, _) | exact f_sure (_, 2) | exact f_sure (_, 1) | exact f_sure (_, _) | fail)
            | refine s_opg ?_ (hy := by intro hk hk2; first | (apply ay_sub rfl (a := 3) (b := 1); exact oo_; exact oo_; exact fit_) | (apply ay_sub rfl (a := 3) (b := 2); exact oo_; exact oo_; exact fit_) | (apply k_neq rfl; exact oo_; exact oo_; exact ek_gu) | (apply k_neq rfl; exact oog_; exact oog_; exact ek_gu) | (apply k_eql rfl; exact oo_; exact oo_;  exact ek_gu) | exact ay_ix0 rfl hk (by simp) | fail)
            | refine s_skip ?_
            | ((first | refine w_alloc ?_ | refine w_box ?_) <;> intro bb)
            | ((first | refine w_emp ?_ | refine w_make ?_ | refine w_app ?_) <;> intro u hu1 hu2)
            | refine w_stv ?_ | refine w_str ?_ | refine w_cpr ?_ | refine w_cps ?_
            | refine al_last (by kernel_rfl) ?_
          | fail)
          all_goals first | exact ⟨_, [], rl_, List.nil_sublist _, Sub.eq (congrArg B (hb0 (by rw [hr]; simp_all)).symm), rfl⟩ | exact ⟨k + 1, ⟨by omega, nxt (by rw [hr]; simp_all)⟩, by omega, wx_, sl_⟩ | skip
      · by_cases hK2 : c2 = 2
        · subst hK2
          by_cases h0 : 1 ≤ k
          · have gp := gp h0
            cases y3 with
            | false =>
              repeat' (first
              | fail
              | refine s_y ?_
                | refine c_ ?_
                | (refine aw_if ?_ ?_ <;> intro hb <;> try (exfalso; first | assumption | omega | (simp only [or_self, and_self, not_true_eq_false, not_false_eq_true, or_false, false_or, and_false, false_and, true_and, and_true] at hb; first | done | omega)))
                | refine s_call ?_ (c := by first | exact f_wideIs (_, _) | exact f_sure (_, 2) | exact f_sure (_, 1) | exact f_sure (_, _) | fail)
                | refine s_op ?_ (hy := by first | (apply ay_sub rfl (a := 3) (b := 1); exact oo_; exact oo_; exact fit_) | (apply ay_sub rfl (a := 3) (b := 2); exact oo_; exact oo_; exact fit_) | (apply k_neq rfl; exact oo_; exact oo_; exact ek_gu) | (apply k_neq rfl; exact oog_; exact oog_; exact ek_gu) | (apply k_eql rfl; exact oo_; exact oo_;  exact ek_gu) | exact ay_ix0 rfl hk (by simp) | fail)
                | refine s_yg ?_
                | refine s_callg ?_ (c := by intro hk hk2; first | exact f_wideIs (_, _) | exact f_sure (_, 2) | exact f_sure (_, 1) | exact f_sure (_, _) | fail)
                | refine s_opg ?_ (hy := by intro hk hk2; first | (apply ay_sub rfl (a := 3) (b := 1); exact oo_; exact oo_; exact fit_) | (apply ay_sub rfl (a := 3) (b := 2); exact oo_; exact oo_; exact fit_) | (apply k_neq rfl; exact oo_; exact oo_; exact ek_gu) | (apply k_neq rfl; exact oog_; exact oog_; exact ek_gu) | (apply k_eql rfl; exact oo_; exact oo_;  exact ek_gu) | exact ay_ix0 rfl hk (by simp) | fail)
                | refine s_skip ?_
                | ((first | refine w_alloc ?_ | refine w_box ?_) <;> intro bb)
                | ((first | refine w_emp ?_ | refine w_make ?_ | refine w_app ?_) <;> intro u hu1 hu2)
                | refine w_stv ?_ | refine w_str ?_ | refine w_cpr ?_ | refine w_cps ?_
                | refine al_last (by kernel_rfl) ?_
              | fail)
              all_goals first | exact ⟨_, [], rl_, List.nil_sublist _, Sub.eq (congrArg B (hb0 (by rw [hr]; simp_all)).symm), rfl⟩ | exact ⟨k + 1, ⟨by omega, nxt (by rw [hr]; simp_all)⟩, by omega, wx_, sl_⟩ | skip
            | true =>
              by_cases he : y1 = c1 ∧ y2 = 1
              · obtain ⟨rfl, rfl⟩ := he
                repeat' (first
                | fail
                | refine s_y ?_
                  | refine c_ ?_
                  | (refine aw_if ?_ ?_ <;> intro hb <;> try (exfalso; first | assumption | omega | (simp only [or_self, and_self, not_true_eq_false, not_false_eq_true, or_false, false_or, and_false, false_and, true_and, and_true] at hb; first | done | omega)))
                  | refine s_call ?_ (c := by first | exact f_wideIs (_, _) | exact f_sure (_, 2) | exact f_sure (_, 1) | exact f_sure (_, _) | fail)
                  | refine s_op ?_ (hy := by first | (apply ay_sub rfl (a := 3) (b := 1); exact oo_; exact oo_; exact fit_) | (apply ay_sub rfl (a := 3) (b := 2); exact oo_; exact oo_; exact fit_) | (apply k_neq rfl; exact oo_; exact oo_; exact ek_gu) | (apply k_neq rfl; exact oog_; exact oog_; exact ek_gu) | (apply k_eql rfl; exact oo_; exact oo_;  exact ek_gu) | exact ay_ix0 rfl hk (by simp) | fail)
                  | refine s_yg ?_
                  | refine s_callg ?_ (c := by intro hk hk2; first | exact f_wideIs (_, _) | exact f_sure (_, 2) | exact f_sure (_, 1) | exact f_sure (_, _) | fail)
                  | refine s_opg ?_ (hy := by intro hk hk2; first | (apply ay_sub rfl (a := 3) (b := 1); exact oo_; exact oo_; exact fit_) | (apply ay_sub rfl (a := 3) (b := 2); exact oo_; exact oo_; exact fit_) | (apply k_neq rfl; exact oo_; exact oo_; exact ek_gu) | (apply k_neq rfl; exact oog_; exact oog_; exact ek_gu) | (apply k_eql rfl; exact oo_; exact oo_;  exact ek_gu) | exact ay_ix0 rfl hk (by simp) | fail)
                  | refine s_skip ?_
                  | ((first | refine w_alloc ?_ | refine w_box ?_) <;> intro bb)
                  | ((first | refine w_emp ?_ | refine w_make ?_ | refine w_app ?_) <;> intro u hu1 hu2)
                  | refine w_stv ?_ | refine w_str ?_ | refine w_cpr ?_ | refine w_cps ?_
                  | refine al_last (by kernel_rfl) ?_
                | fail)
                all_goals first | exact ⟨_, [], rl_, List.nil_sublist _, Sub.eq (congrArg B (hb0 (by rw [hr]; simp_all)).symm), rfl⟩ | exact ⟨k + 1, ⟨by omega, nxt (by rw [hr]; simp_all)⟩, by omega, wx_, sl_⟩ | skip
              · repeat' (first
                | fail
                | refine s_y ?_
                  | refine c_ ?_
                  | (refine aw_if ?_ ?_ <;> intro hb <;> try (exfalso; first | assumption | omega | (simp only [or_self, and_self, not_true_eq_false, not_false_eq_true, or_false, false_or, and_false, false_and, true_and, and_true] at hb; first | done | omega)))
                  | refine s_call ?_ (c := by first | exact f_wideIs (_, _) | exact f_sure (_, 2) | exact f_sure (_, 1) | exact f_sure (_, _) | fail)
                  | refine s_op ?_ (hy := by first | (apply ay_sub rfl (a := 3) (b := 1); exact oo_; exact oo_; exact fit_) | (apply ay_sub rfl (a := 3) (b := 2); exact oo_; exact oo_; exact fit_) | (apply k_neq rfl; exact oo_; exact oo_; exact ek_gu) | (apply k_neq rfl; exact oog_; exact oog_; exact ek_gu) | (apply k_eql rfl; exact oo_; exact oo_;  exact ek_gu) | exact ay_ix0 rfl hk (by simp) | fail)
                  | refine s_yg ?_
                  | refine s_callg ?_ (c := by intro hk hk2; first | exact f_wideIs (_, _) | exact f_sure (_, 2) | exact f_sure (_, 1) | exact f_sure (_, _) | fail)
                  | refine s_opg ?_ (hy := by intro hk hk2; first | (apply ay_sub rfl (a := 3) (b := 1); exact oo_; exact oo_; exact fit_) | (apply ay_sub rfl (a := 3) (b := 2); exact oo_; exact oo_; exact fit_) | (apply k_neq rfl; exact oo_; exact oo_; exact ek_gu) | (apply k_neq rfl; exact oog_; exact oog_; exact ek_gu) | (apply k_eql rfl; exact oo_; exact oo_;  exact ek_gu) | exact ay_ix0 rfl hk (by simp) | fail)
                  | refine s_skip ?_
                  | ((first | refine w_alloc ?_ | refine w_box ?_) <;> intro bb)
                  | ((first | refine w_emp ?_ | refine w_make ?_ | refine w_app ?_) <;> intro u hu1 hu2)
                  | refine w_stv ?_ | refine w_str ?_ | refine w_cpr ?_ | refine w_cps ?_
                  | refine al_last (by kernel_rfl) ?_
                | fail)
                all_goals first | exact ⟨_, [], rl_, List.nil_sublist _, Sub.eq (congrArg B (hb0 (by rw [hr]; simp_all)).symm), rfl⟩ | exact ⟨k + 1, ⟨by omega, nxt (by rw [hr]; simp_all)⟩, by omega, wx_, sl_⟩ | skip
          · obtain rfl : k = 0 := by omega
            repeat' (first
            | fail
            | refine s_y ?_
              | refine c_ ?_
              | (refine aw_if ?_ ?_ <;> intro hb <;> try (exfalso; first | assumption | omega | (simp only [or_self, and_self, not_true_eq_false, not_false_eq_true, or_false, false_or, and_false, false_and, true_and, and_true] at hb; first | done | omega)))
              | refine s_call ?_ (c := by first | exact f_wideIs (_, _) | exact f_sure (_, 2) | exact f_sure (_, 1) | exact f_sure (_, _) | fail)
              | refine s_op ?_ (hy := by first | (apply ay_sub rfl (a := 3) (b := 1); exact oo_; exact oo_; exact fit_) | (apply ay_sub rfl (a := 3) (b := 2); exact oo_; exact oo_; exact fit_) | (apply k_neq rfl; exact oo_; exact oo_; exact ek_gu) | (apply k_neq rfl; exact oog_; exact oog_; exact ek_gu) | (apply k_eql rfl; exact oo_; exact oo_;  exact ek_gu) | exact ay_ix0 rfl hk (by simp) | fail)
              | refine s_yg ?_
              | refine s_callg ?_ (c := by intro hk hk2; first | exact f_wideIs (_, _) | exact f_sure (_, 2) | exact f_sure (_, 1) | exact f_sure (_, _) | fail)
              | refine s_opg ?_ (hy := by intro hk hk2; first | (apply ay_sub rfl (a := 3) (b := 1); exact oo_; exact oo_; exact fit_) | (apply ay_sub rfl (a := 3) (b := 2); exact oo_; exact oo_; exact fit_) | (apply k_neq rfl; exact oo_; exact oo_; exact ek_gu) | (apply k_neq rfl; exact oog_; exact oog_; exact ek_gu) | (apply k_eql rfl; exact oo_; exact oo_;  exact ek_gu) | exact ay_ix0 rfl hk (by simp) | fail)
              | refine s_skip ?_
              | ((first | refine w_alloc ?_ | refine w_box ?_) <;> intro bb)
              | ((first | refine w_emp ?_ | refine w_make ?_ | refine w_app ?_) <;> intro u hu1 hu2)
              | refine w_stv ?_ | refine w_str ?_ | refine w_cpr ?_ | refine w_cps ?_
              | refine al_last (by kernel_rfl) ?_
            | fail)
            all_goals first | exact ⟨_, [], rl_, List.nil_sublist _, Sub.eq (congrArg B (hb0 (by rw [hr]; simp_all)).symm), rfl⟩ | exact ⟨0 + 1, ⟨by omega, nxt (by rw [hr]; simp_all)⟩, by omega, wx_, sl_⟩ | skip
        · repeat' (first
          | fail
          | refine s_y ?_
            | refine c_ ?_
            | (refine aw_if ?_ ?_ <;> intro hb <;> try (exfalso; first | assumption | omega | (simp only [or_self, and_self, not_true_eq_false, not_false_eq_true, or_false, false_or, and_false, false_and, true_and, and_true] at hb; first | done | omega)))
            | refine s_call ?_ (c := by first | exact f_wideIs (_, _) | exact f_sure (_, 2) | exact f_sure (_, 1) | exact f_sure (_, _) | fail)
            | refine s_op ?_ (hy := by first | (apply ay_sub rfl (a := 3) (b := 1); exact oo_; exact oo_; exact fit_) | (apply ay_sub rfl (a := 3) (b := 2); exact oo_; exact oo_; exact fit_) | (apply k_neq rfl; exact oo_; exact oo_; exact ek_gu) | (apply k_neq rfl; exact oog_; exact oog_; exact ek_gu) | (apply k_eql rfl; exact oo_; exact oo_;  exact ek_gu) | exact ay_ix0 rfl hk (by simp) | fail)
            | refine s_yg ?_
            | refine s_callg ?_ (c := by intro hk hk2; first | exact f_wideIs (_, _) | exact f_sure (_, 2) | exact f_sure (_, 1) | exact f_sure (_, _) | fail)
            | refine s_opg ?_ (hy := by intro hk hk2; first | (apply ay_sub rfl (a := 3) (b := 1); exact oo_; exact oo_; exact fit_) | (apply ay_sub rfl (a := 3) (b := 2); exact oo_; exact oo_; exact fit_) | (apply k_neq rfl; exact oo_; exact oo_; exact ek_gu) | (apply k_neq rfl; exact oog_; exact oog_; exact ek_gu) | (apply k_eql rfl; exact oo_; exact oo_;  exact ek_gu) | exact ay_ix0 rfl hk (by simp) | fail)
            | refine s_skip ?_
            | ((first | refine w_alloc ?_ | refine w_box ?_) <;> intro bb)
            | ((first | refine w_emp ?_ | refine w_make ?_ | refine w_app ?_) <;> intro u hu1 hu2)
            | refine w_stv ?_ | refine w_str ?_ | refine w_cpr ?_ | refine w_cps ?_
            | refine al_last (by kernel_rfl) ?_
          | fail)
          all_goals first | exact ⟨_, [], rl_, List.nil_sublist _, Sub.eq (congrArg B (hb0 (by rw [hr]; simp_all)).symm), rfl⟩ | exact ⟨k + 1, ⟨by omega, nxt (by rw [hr]; simp_all)⟩, by omega, wx_, sl_⟩ | skip
  · repeat' (first
    | fail
    | refine s_y ?_
      | refine c_ ?_
      | (refine aw_if ?_ ?_ <;> intro hb <;> try (exfalso; first | assumption | omega | (simp only [or_self, and_self, not_true_eq_false, not_false_eq_true, or_false, false_or, and_false, false_and, true_and, and_true] at hb; first | done | omega)))
      | refine s_call ?_ (c := by first | exact f_wideIs (_, _) | exact f_sure (_, 2) | exact f_sure (_, 1) | exact f_sure (_, _) | fail)
      | refine s_op ?_ (hy := by first | (apply ay_sub rfl (a := 3) (b := 1); exact oo_; exact oo_; exact fit_) | (apply ay_sub rfl (a := 3) (b := 2); exact oo_; exact oo_; exact fit_) | (apply k_neq rfl; exact oo_; exact oo_; exact ek_gu) | (apply k_neq rfl; exact oog_; exact oog_; exact ek_gu) | (apply k_eql rfl; exact oo_; exact oo_;  exact ek_gu) | exact ay_ix0 rfl hk (by simp) | fail)
      | refine s_yg ?_
      | refine s_callg ?_ (c := by intro hk hk2; first | exact f_wideIs (_, _) | exact f_sure (_, 2) | exact f_sure (_, 1) | exact f_sure (_, _) | fail)
      | refine s_opg ?_ (hy := by intro hk hk2; first | (apply ay_sub rfl (a := 3) (b := 1); exact oo_; exact oo_; exact fit_) | (apply ay_sub rfl (a := 3) (b := 2); exact oo_; exact oo_; exact fit_) | (apply k_neq rfl; exact oo_; exact oo_; exact ek_gu) | (apply k_neq rfl; exact oog_; exact oog_; exact ek_gu) | (apply k_eql rfl; exact oo_; exact oo_;  exact ek_gu) | exact ay_ix0 rfl hk (by simp) | fail)
      | refine s_skip ?_
      | ((first | refine w_alloc ?_ | refine w_box ?_) <;> intro bb)
      | ((first | refine w_emp ?_ | refine w_make ?_ | refine w_app ?_) <;> intro u hu1 hu2)
      | refine w_stv ?_ | refine w_str ?_ | refine w_cpr ?_ | refine w_cps ?_
      | refine al_last (by kernel_rfl) ?_
    | fail)
    refine ⟨_, [], rl_, List.nil_sublist _, Sub.eq (congrArg B ?_), rfl⟩
    exact (rowGs_iff.2 fun i hi => h2 i (by omega)).symm
end Go.Proofs.YtockidoncngdbaaGreatDoor
