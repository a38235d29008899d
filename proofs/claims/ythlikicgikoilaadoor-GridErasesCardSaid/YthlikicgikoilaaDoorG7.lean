/- Layer 3 (grid): the reference's new grid, its cell, and sameness. No condition. -/
import Derived.Test.YthlikicgikoilaaDoorG6
namespace Go.Proofs.YthlikicgikoilaaDoor
set_option linter.unusedSimpArgs false
set_option linter.unusedVariables false
set_option maxHeartbeats 4000000
open Go Go.RowKit
attribute [local irreducible] AW AL AO QY varO rowO rsA Opd OpdN vA gvA tupA aggA slA slcA ipA rpA EqK LnK IxK LdK FaK FdK
set_option maxRecDepth 100000
theorem f_ref03At (w h : Int) (l : List Cell) (hl : l.length ≤ 3000) (x y : Int) : AP Tryd.prog tab0 14 [gridA w h l, I x, I y] (at2 (atR w h l x y)) := by
  by_cases hc : okG w h l = true ∧ 0 ≤ x ∧ x < w ∧ 0 ≤ y ∧ y < h
  · have hc' := hc
    obtain ⟨hok, x1, x2, y1, y2⟩ := hc
    obtain ⟨w, h, rfl, rfl, h1, h2, h3, h4, hlen, _⟩ := okG_nat hok
    obtain ⟨x, rfl⟩ := Int.eq_ofNat_of_zero_le x1
    obtain ⟨y, rfl⟩ := Int.eq_ofNat_of_zero_le y1
    have hp := cell_pos (show x < w by omega) (show y < h by omega)
    have hb := side_le h2 h4
    have m3 : (0 : Int) ≤ ((y * w : Nat) : Int) := Int.natCast_nonneg _
    have hat := c_in (l := l) (i := y * w + x) (by omega)
    refine af_intro Tryd.func14 rfl (by decide) Tryd.ntmps14 rfl ?_
    repeat' (first
    | fail
    | refine s_y ?_
      | refine c_ ?_
      | (refine aw_if ?_ ?_ <;> intro hb <;> try (exfalso; first | assumption | omega))
      | refine s_call ?_ (c := by first | exact f_in _ _ _ _ _ hl | fail)
      | refine s_op ?_ (hy := by first | fail | fail)
      | refine s_yg ?_
      | refine s_callg ?_ (c := by intro hk hk2; first | exact f_in _ _ _ _ _ hl | fail)
      | refine s_opg ?_ (hy := by intro hk hk2; first | fail | fail)
      | refine s_skip ?_
      | ((first | refine w_alloc ?_ | refine w_box ?_) <;> intro bb)
      | ((first | refine w_emp ?_ | refine w_make ?_ | refine w_app ?_) <;> intro u hu1 hu2)
      | refine w_stv ?_ | refine w_str ?_ | refine w_cpr ?_ | refine w_cps ?_
      | refine al_last (by kernel_rfl) ?_
    | fail)
    all_goals first | (exfalso; simp [hok] at hb; omega) | (exfalso; exact hb hc') | skip
    refine ⟨_, [], rs_, List.nil_sublist _, Sub.eq ?_, rfl⟩
    simp only [at2, atR, if_pos hc', Int.toNat_natCast]; rfl
  · refine af_intro Tryd.func14 rfl (by decide) Tryd.ntmps14 rfl ?_
    repeat' (first
    | fail
    | refine s_y ?_
      | refine c_ ?_
      | (refine aw_if ?_ ?_ <;> intro hb <;> try (exfalso; first | assumption | omega))
      | refine s_call ?_ (c := by first | exact f_in _ _ _ _ _ hl | fail)
      | refine s_op ?_ (hy := by first | fail | fail)
      | refine s_yg ?_
      | refine s_callg ?_ (c := by intro hk hk2; first | exact f_in _ _ _ _ _ hl | fail)
      | refine s_opg ?_ (hy := by intro hk hk2; first | fail | fail)
      | refine s_skip ?_
      | ((first | refine w_alloc ?_ | refine w_box ?_) <;> intro bb)
      | ((first | refine w_emp ?_ | refine w_make ?_ | refine w_app ?_) <;> intro u hu1 hu2)
      | refine w_stv ?_ | refine w_str ?_ | refine w_cpr ?_ | refine w_cps ?_
      | refine al_last (by kernel_rfl) ?_
    | fail)
    all_goals first | (exfalso; exact hc hb) | skip
    refine ⟨_, [], rs_, List.nil_sublist _, Sub.eq ?_, rfl⟩
    simp only [at2, atR, if_neg hc]; rfl
theorem f_ref03Same (w h w' h' : Int) (l l' : List Cell) : AP Tryd.prog tab0 16 [gridA w h l, gridA w' h' l'] (B (decide (w = w' ∧ h = h' ∧ l = l'))) := by
  refine af_intro Tryd.func16 rfl (by decide) Tryd.ntmps16 rfl ?_
  repeat' (first
  | fail
  | refine s_y ?_
    | refine c_ ?_
    | (refine aw_if ?_ ?_ <;> intro hb <;> try (exfalso; first | assumption | omega))
    | refine s_call ?_ (c := by first | exact f_ref02Same _ _ | fail)
    | refine s_op ?_ (hy := by first | fail | fail)
    | refine s_yg ?_
    | refine s_callg ?_ (c := by intro hk hk2; first | exact f_ref02Same _ _ | fail)
    | refine s_opg ?_ (hy := by intro hk hk2; first | fail | fail)
    | refine s_skip ?_
    | ((first | refine w_alloc ?_ | refine w_box ?_) <;> intro bb)
    | ((first | refine w_emp ?_ | refine w_make ?_ | refine w_app ?_) <;> intro u hu1 hu2)
    | refine w_stv ?_ | refine w_str ?_ | refine w_cpr ?_ | refine w_cps ?_
    | refine al_last (by kernel_rfl) ?_
  | fail)
  refine ⟨_, [], rs_, List.nil_sublist _, Sub.eq (congrArg B ?_), rfl⟩
  rw [Bool.eq_iff_iff]; simp [and_assoc]
theorem f_big (w h : Int) (l : List Cell) : AP Tryd.prog tab0 10 [gridA w h l] (B (decide ((3000 : Int) < l.length))) := by
  refine af_intro Tryd.func10 rfl (by decide) Tryd.ntmps10 rfl ?_
  repeat' (first
  | fail
  | refine s_y ?_
    | refine c_ ?_
    | (refine aw_if ?_ ?_ <;> intro hb <;> try (exfalso; first | assumption | omega))
    | refine s_call ?_ (c := by first | exact f_ref02Same _ _ | fail)
    | refine s_op ?_ (hy := by first | fail | fail)
    | refine s_yg ?_
    | refine s_callg ?_ (c := by intro hk hk2; first | exact f_ref02Same _ _ | fail)
    | refine s_opg ?_ (hy := by intro hk hk2; first | fail | fail)
    | refine s_skip ?_
    | ((first | refine w_alloc ?_ | refine w_box ?_) <;> intro bb)
    | ((first | refine w_emp ?_ | refine w_make ?_ | refine w_app ?_) <;> intro u hu1 hu2)
    | refine w_stv ?_ | refine w_str ?_ | refine w_cpr ?_ | refine w_cps ?_
    | refine al_last (by kernel_rfl) ?_
  | fail)
  exact ⟨_, [], rs_, List.nil_sublist _, Sub.refl _, rfl⟩
theorem f_ref03NewO (w h : Nat) (h1 : 2 ≤ w) (h2 : w ≤ 80) (h3 : 1 ≤ h) (h4 : h ≤ 24) : AF Tryd.prog tab0 12 [I w, I h] [] (fun A M' => ∃ u, A = tupA [aggA [I w, I h, vA u], I 0] ∧ M' = [rowO cellT 30 u (List.replicate (w * h) (32, 0))]) := by
  have hb := side_le h2 h4
  have hnn : (0 : Int) ≤ ((w * h : Nat) : Int) := Int.natCast_nonneg _
  have hs : sidesM w h = true := by simp [sidesM]; omega
  refine af_intro Tryd.func12 rfl (by decide) Tryd.ntmps12 rfl ?_
  repeat' (first
  | fail
  | refine s_y ?_
    | refine c_ ?_
    | (refine aw_if ?_ ?_ <;> intro hb <;> try (exfalso; first | assumption | omega))
    | refine s_call ?_ (c := by first | exact f_ref03Sides _ _ | fail)
    | refine s_op ?_ (hy := by first | fail | fail)
    | refine s_yg ?_
    | refine s_callg ?_ (c := by intro hk hk2; first | exact f_ref03Sides _ _ | fail)
    | refine s_opg ?_ (hy := by intro hk hk2; first | fail | fail)
    | refine s_skip ?_
    | ((first | refine w_alloc ?_ | refine w_box ?_) <;> intro bb)
    | ((first | refine w_emp ?_ | refine w_make ?_ | refine w_app ?_) <;> intro u hu1 hu2)
    | refine w_stv ?_ | refine w_str ?_ | refine w_cpr ?_ | refine w_cps ?_
    | refine al_last (by kernel_rfl) ?_
  | fail)
  all_goals first | (exfalso; simp [hs] at hb; done) | skip
  rename_i b4
  refine aw_nil cellT 30 ?_
  refine aw_fl2 (fun (k : Nat) (u : Value) => [(0, I w), (1, I h), (4, vA (.pointer (some ⟨b4, 0, none⟩))), (6, vA (.pointer (some ⟨bb, 0, none⟩))), (7, I k)]) (fun k u => [rowO cellT 30 u (List.replicate k (32, 0)), varO bb 24 [I w, I h, vA u], varO b4 24 [I 0, I 0, vA (.slice none 0 0)]]) (fun k _ => k ≤ w * h) (fun k _ => w * h - k) 0 _ (Nat.zero_le _) wk_ (List.Sublist.refl _) ?_
  rintro k u i1
  refine aw_rowc (List.Mem.head _) fun hu1 hu2 => ?_
  by_cases hlt : k < w * h
  · repeat' (first
    | fail
    | refine s_y ?_
      | refine c_ ?_
      | (refine aw_if ?_ ?_ <;> intro hb <;> try (exfalso; first | assumption | omega))
      | refine s_call ?_ (c := by first | exact f_ref03Sides _ _ | fail)
      | refine s_op ?_ (hy := by first | fail | fail)
      | refine s_yg ?_
      | refine s_callg ?_ (c := by intro hk hk2; first | exact f_ref03Sides _ _ | fail)
      | refine s_opg ?_ (hy := by intro hk hk2; first | fail | fail)
      | refine s_skip ?_
      | ((first | refine w_alloc ?_ | refine w_box ?_) <;> intro bb)
      | ((first | refine w_emp ?_ | refine w_make ?_ | refine w_app ?_) <;> intro u hu1 hu2)
      | refine w_stv ?_ | refine w_str ?_ | refine w_cpr ?_ | refine w_cps ?_
      | refine al_last (by kernel_rfl) ?_
    | fail)
    exact ⟨k + 1, _, by omega, by omega, wk_, by rw [List.replicate_succ']; exact List.Sublist.refl _⟩
  · repeat' (first
    | fail
    | refine s_y ?_
      | refine c_ ?_
      | (refine aw_if ?_ ?_ <;> intro hb <;> try (exfalso; first | assumption | omega))
      | refine s_call ?_ (c := by first | exact f_ref03Sides _ _ | fail)
      | refine s_op ?_ (hy := by first | fail | fail)
      | refine s_yg ?_
      | refine s_callg ?_ (c := by intro hk hk2; first | exact f_ref03Sides _ _ | fail)
      | refine s_opg ?_ (hy := by intro hk hk2; first | fail | fail)
      | refine s_skip ?_
      | ((first | refine w_alloc ?_ | refine w_box ?_) <;> intro bb)
      | ((first | refine w_emp ?_ | refine w_make ?_ | refine w_app ?_) <;> intro u hu1 hu2)
      | refine w_stv ?_ | refine w_str ?_ | refine w_cpr ?_ | refine w_cps ?_
      | refine al_last (by kernel_rfl) ?_
    | fail)
    exact ⟨_, [rowO cellT 30 u (List.replicate k (32, 0))], rs_, sl_, u, rfl, by rw [show k = w * h by omega]⟩
theorem f_ref03New (w h : Int) : AP Tryd.prog tab0 12 [I w, I h] (grid2 (newR w h)) := by
  by_cases hs : sidesM w h = true
  · obtain ⟨w, h, rfl, rfl, h1, h2, h3, h4⟩ := sides_nat hs
    have := (f_ref03NewO w h h1 h2 h3 h4).frz1 fza_
    simpa only [newR, hs, if_true, grid2, Int.toNat_natCast] using this
  · have hs2 : sidesM w h = false := by simpa using hs
    refine af_intro Tryd.func12 rfl (by decide) Tryd.ntmps12 rfl ?_
    repeat' (first
    | fail
    | refine s_y ?_
      | refine c_ ?_
      | (refine aw_if ?_ ?_ <;> intro hb <;> try (exfalso; first | assumption | omega))
      | refine s_call ?_ (c := by first | exact f_ref03Sides _ _ | fail)
      | refine s_op ?_ (hy := by first | fail | fail)
      | refine s_yg ?_
      | refine s_callg ?_ (c := by intro hk hk2; first | exact f_ref03Sides _ _ | fail)
      | refine s_opg ?_ (hy := by intro hk hk2; first | fail | fail)
      | refine s_skip ?_
      | ((first | refine w_alloc ?_ | refine w_box ?_) <;> intro bb)
      | ((first | refine w_emp ?_ | refine w_make ?_ | refine w_app ?_) <;> intro u hu1 hu2)
      | refine w_stv ?_ | refine w_str ?_ | refine w_cpr ?_ | refine w_cps ?_
      | refine al_last (by kernel_rfl) ?_
    | fail)
    all_goals first | (exfalso; simp [hs2] at hb; done) | skip
    · refine ⟨_, [], rs_, List.nil_sublist _, ?_, rfl⟩
      simp only [newR, hs, grid2]; exact sub_noG
end Go.Proofs.YthlikicgikoilaaDoor
