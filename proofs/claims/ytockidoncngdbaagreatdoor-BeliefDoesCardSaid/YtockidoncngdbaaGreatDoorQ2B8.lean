/- Layer 27 (belief): a new belief, one of its own, blanks, by the program. No condition. -/
import Derived.Test.YtockidoncngdbaaGreatDoorQ2B2
import Derived.Test.YtockidoncngdbaaGreatDoorQ2B6
import Derived.Test.YtockidoncngdbaaGreatDoorQ2BR
namespace Go.Proofs.YtockidoncngdbaaGreatDoor
set_option linter.unusedSimpArgs false
set_option linter.unusedVariables false
set_option linter.unusedSectionVars false
set_option maxHeartbeats 4000000
open Go Go.RowKit
set_option maxRecDepth 100000
theorem sub_nilB : Sub (vA (.slice none 0 0)) (slA guT []) := fun _ _ h => by
  rw [h.eq]; exact .of ⟨none, 0, 0, rfl, rfl, Nat.le_refl _, Nat.zero_le _, fun _ => rfl, fun h => absurd rfl h⟩
variable {T0 : Gh} [TabS T0]
attribute [local irreducible] thenA inBlockA AW AL AO QY varO rowO rsA Opd OpdN vA gvA tupA aggA slA slcA ipA rpA EqK LnK IxK LdK FaK FdK
theorem f_beOwn (w h : Int) (l : List Guess) (x y : Int) (b s : Bool) (hl : l.length ≤ 100000) : AF Tryz.prog T0 12 [belA w h l x y b s] [] (fun A M' => ∃ u, A = aggA [I w, I h, vA u, I x, I y, B b, B s] ∧ M' = [rowO guT 65 u l]) := by
  refine af_intro Tryz.func12 rfl (by decide) Tryz.ntmps12 rfl ?_
  repeat' (first
  | fail
  | refine s_y ?_
    | refine c_ ?_
    | (refine aw_if ?_ ?_ <;> intro hb <;> try (exfalso; first | assumption | omega | (simp only [or_self, and_self, not_true_eq_false, not_false_eq_true, or_false, false_or, and_false, false_and, true_and, and_true] at hb; first | done | omega)))
    | refine s_call ?_ (c := by first | fail | fail)
    | refine s_op ?_ (hy := by first | fail | fail)
    | refine s_yg ?_
    | refine s_callg ?_ (c := by intro hk hk2; first | fail | fail)
    | refine s_opg ?_ (hy := by intro hk hk2; first | fail | fail)
    | refine s_skip ?_
    | ((first | refine w_alloc ?_ | refine w_box ?_) <;> intro bb)
    | ((first | refine w_emp ?_ | refine w_make ?_ | refine w_app ?_) <;> intro u hu1 hu2)
    | refine w_stv ?_ | refine w_str ?_ | refine w_cpr ?_ | refine w_cps ?_
    | refine al_last (by kernel_rfl) ?_
  | fail)
  refine ⟨_, _, rs_, (List.Sublist.cons_cons _ (List.nil_sublist _)), u, rfl, ?_⟩
  rw [List.length_replicate, List.take_length, show ovr (List.replicate l.length gZero) 0 l = l by simp [ovr]]
theorem f_changes (k : Int) : AP Tryz.prog T0 10 [I k] (B (chg k)) := by
  refine af_intro Tryz.func10 rfl (by decide) Tryz.ntmps10 rfl ?_
  repeat' (first
  | fail
  | refine s_y ?_
    | refine c_ ?_
    | (refine aw_if ?_ ?_ <;> intro hb <;> try (exfalso; first | assumption | omega | (simp only [or_self, and_self, not_true_eq_false, not_false_eq_true, or_false, false_or, and_false, false_and, true_and, and_true] at hb; first | done | omega)))
    | refine s_call ?_ (c := by first | fail | fail)
    | refine s_op ?_ (hy := by first | fail | fail)
    | refine s_yg ?_
    | refine s_callg ?_ (c := by intro hk hk2; first | fail | fail)
    | refine s_opg ?_ (hy := by intro hk hk2; first | fail | fail)
    | refine s_skip ?_
    | ((first | refine w_alloc ?_ | refine w_box ?_) <;> intro bb)
    | ((first | refine w_emp ?_ | refine w_make ?_ | refine w_app ?_) <;> intro u hu1 hu2)
    | refine w_stv ?_ | refine w_str ?_ | refine w_cpr ?_ | refine w_cps ?_
    | refine al_last (by kernel_rfl) ?_
  | fail)
  refine ⟨_, [], rl_, List.nil_sublist _, Sub.eq (congrArg B ?_), rfl⟩
  simp [chg]
theorem f_wraps (w h : Int) (l : List Guess) (x y : Int) (b s : Bool) (c : Cmd) (hx : -1000 ≤ x ∧ x ≤ 1000) : AP Tryz.prog T0 39 [belA w h l x y b s, cmdA c] (B (decide (c.1 = 1) && (b || decide (w < x + (cellsM c.2.2.2).length)))) := by
  obtain ⟨k, a, d, r⟩ := c
  have hr : (cellsM r).length ≤ 2 := (cellsM_len r).2
  have cw := f_Width (T0 := T0) r
  generalize (cellsM r).length = n at *
  refine af_intro Tryz.func39 rfl (by decide) Tryz.ntmps39 rfl ?_
  repeat' (first
  | fail
  | refine s_y ?_
    | refine c_ ?_
    | (refine aw_if ?_ ?_ <;> intro hb <;> try (exfalso; first | assumption | omega | (simp only [or_self, and_self, not_true_eq_false, not_false_eq_true, or_false, false_or, and_false, false_and, true_and, and_true] at hb; first | done | omega)))
    | refine s_call ?_ (c := by first | exact cw | fail)
    | refine s_op ?_ (hy := by first | fail | fail)
    | refine s_yg ?_
    | refine s_callg ?_ (c := by intro hk hk2; first | exact cw | fail)
    | refine s_opg ?_ (hy := by intro hk hk2; first | fail | fail)
    | refine s_skip ?_
    | ((first | refine w_alloc ?_ | refine w_box ?_) <;> intro bb)
    | ((first | refine w_emp ?_ | refine w_make ?_ | refine w_app ?_) <;> intro u hu1 hu2)
    | refine w_stv ?_ | refine w_str ?_ | refine w_cpr ?_ | refine w_cps ?_
    | refine al_last (by kernel_rfl) ?_
  | fail)
  refine ⟨_, [], rl_, List.nil_sublist _, Sub.eq (congrArg B ?_), rfl⟩
  first | rfl | (cases b <;> simp) | skip
theorem f_beNewO (w h : Nat) (h1 : 2 ≤ w) (h2 : w ≤ 80) (h3 : 1 ≤ h) (h4 : h ≤ 24) : AF Tryz.prog T0 11 [I w, I h] [] (fun A M' => ∃ u, A = tupA [aggA [I w, I h, vA u, I 0, I 0, B false, B false], I 0] ∧ M' = [rowO guT 65 u (List.replicate (w * h) gZero)]) := by
  have hb := side_le h2 h4
  have hnn : (0 : Int) ≤ ((w * h : Nat) : Int) := Int.natCast_nonneg _
  have c1 : AP Tryz.prog T0 35 [I w, I h] (tupA [gridA w h (List.replicate (w * h) (32, 0)), I 0]) := (f_New w h).to (by rw [newR, if_pos (by simp [sidesM]; omega)]; rfl)
  generalize List.replicate (w * h) ((32, 0) : Cell) = g0 at *
  refine af_intro Tryz.func11 rfl (by decide) Tryz.ntmps11 rfl ?_
  repeat' (first
  | fail
  | refine s_y ?_
    | refine c_ ?_
    | (refine aw_if ?_ ?_ <;> intro hb <;> try (exfalso; first | assumption | omega | (simp only [or_self, and_self, not_true_eq_false, not_false_eq_true, or_false, false_or, and_false, false_and, true_and, and_true] at hb; first | done | omega)))
    | refine s_call ?_ (c := by first | exact c1 | fail)
    | refine s_op ?_ (hy := by first | fail | fail)
    | refine s_yg ?_
    | refine s_callg ?_ (c := by intro hk hk2; first | exact c1 | fail)
    | refine s_opg ?_ (hy := by intro hk hk2; first | fail | fail)
    | refine s_skip ?_
    | ((first | refine w_alloc ?_ | refine w_box ?_) <;> intro bb)
    | ((first | refine w_emp ?_ | refine w_make ?_ | refine w_app ?_) <;> intro u hu1 hu2)
    | refine w_stv ?_ | refine w_str ?_ | refine w_cpr ?_ | refine w_cps ?_
    | refine al_last (by kernel_rfl) ?_
  | fail)
  all_goals first | (exfalso; omega) | skip
  exact ⟨_, _, rl_, sl_, u, rfl, rfl⟩
theorem f_beNew (w h : Int) : AP Tryz.prog T0 11 [I w, I h] (tupA [blA (newB w h).1, I (newB w h).2]) := by
  by_cases hs : sidesM w h = true
  · obtain ⟨w, h, rfl, rfl, h1, h2, h3, h4⟩ := sides_nat hs
    have := (f_beNewO (T0 := T0) w h h1 h2 h3 h4).frz1 fza_
    rw [newB, if_pos hs]
    simpa only [Int.toNat_natCast] using this
  · have c1 : AP Tryz.prog T0 35 [I w, I h] (tupA [gridA 0 0 [], I 4]) := (f_New w h).to (by simp only [newR, hs, grid2]; rfl)
    rw [newB, if_neg hs]
    refine af_intro Tryz.func11 rfl (by decide) Tryz.ntmps11 rfl ?_
    repeat' (first
    | fail
    | refine s_y ?_
      | refine c_ ?_
      | (refine aw_if ?_ ?_ <;> intro hb <;> try (exfalso; first | assumption | omega | (simp only [or_self, and_self, not_true_eq_false, not_false_eq_true, or_false, false_or, and_false, false_and, true_and, and_true] at hb; first | done | omega)))
      | refine s_call ?_ (c := by first | exact c1 | fail)
      | refine s_op ?_ (hy := by first | fail | fail)
      | refine s_yg ?_
      | refine s_callg ?_ (c := by intro hk hk2; first | exact c1 | fail)
      | refine s_opg ?_ (hy := by intro hk hk2; first | fail | fail)
      | refine s_skip ?_
      | ((first | refine w_alloc ?_ | refine w_box ?_) <;> intro bb)
      | ((first | refine w_emp ?_ | refine w_make ?_ | refine w_app ?_) <;> intro u hu1 hu2)
      | refine w_stv ?_ | refine w_str ?_ | refine w_cpr ?_ | refine w_cps ?_
      | refine al_last (by kernel_rfl) ?_
    | fail)
    all_goals first | (exfalso; omega) | exact ⟨_, [], rl_, List.nil_sublist _, Sub.refl _, rfl⟩ | exact ⟨_, [], rl_, List.nil_sublist _, sub_tup (subl1 (sub_agg (subl1 (Sub.refl _) (subl1 (Sub.refl _) (subl1 sub_nilB (subl1 (Sub.refl _) (subl1 (Sub.refl _) (subl1 (Sub.refl _) (subl1 (Sub.refl _) subl0)))))))) (subl1 (Sub.refl _) subl0)), rfl⟩ | skip
end Go.Proofs.YtockidoncngdbaaGreatDoor
