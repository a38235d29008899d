/- Layer 3 (grid): scroll; the reference's small functions. No condition. -/
import Derived.Test.YthlikicgikoilaaDoorG5
namespace Go.Proofs.YthlikicgikoilaaDoor
set_option linter.unusedSimpArgs false
set_option linter.unusedVariables false
set_option maxHeartbeats 4000000
open Go Go.RowKit
attribute [local irreducible] AW AL AO QY varO rowO rsA Opd OpdN vA gvA tupA aggA slA slcA ipA rpA EqK LnK IxK LdK FaK FdK
set_option maxRecDepth 100000
noncomputable def scrollR (w h : Int) (l : List Cell) : List Cell := if okG w h l = true then l.drop w.toNat ++ List.replicate w.toNat (32, 0) else l
theorem f_ScrollO (w h : Nat) (l : List Cell) (hl : l.length ≤ 3000) (hc : okG w h l = true) : AF Tryd.prog tab0 23 [gridA w h l] [] (fun A M' => ∃ u, A = aggA [I w, I h, vA u] ∧ M' = [rowO cellT 30 u (l.drop w ++ List.replicate w (32, 0))]) := by
  obtain ⟨w', h', e1, e2, h1, h2, h3, h4, hlen, hall⟩ := okG_nat hc
  obtain rfl : w = w' := by omega
  obtain rfl : h = h' := by omega
  have hb := side_le h2 h4
  have hwl : w ≤ l.length := by rw [hlen]; exact Nat.le_mul_of_pos_right w h3
  have c1 : AP Tryd.prog tab0 17 [gridA w h l] (B true) := hc ▸ f_Is w h l hl
  have co := f_fill w h (by omega)
  clear hall
  refine af_intro Tryd.func23 rfl (by decide) Tryd.ntmps23 rfl ?_
  repeat' (first
  | (apply al_call0 rfl rfl rfl rfl (c := co)
     case ha => repeat' (first | exact opds0 | apply opds1 oo_)
     rintro _ _ ⟨u, rfl, rfl⟩; refine al_rowc (List.Mem.head _) fun hu1 hu2 => ?_)
  | refine s_y ?_
    | refine c_ ?_
    | (refine aw_if ?_ ?_ <;> intro hb <;> try (exfalso; first | assumption | omega))
    | refine s_call ?_ (c := by first | exact c1 | fail)
    | refine s_op ?_ (hy := by first | fail | fail)
    | refine s_yg ?_
    | refine s_callg ?_ (c := by intro hk hk2; first | exact c1 | fail)
    | refine s_opg ?_ (hy := by intro hk hk2; first | fail | fail)
    | refine s_skip ?_
    | ((first | refine w_alloc ?_ | refine w_box ?_) <;> intro bb)
    | ((first | refine w_emp ?_ | refine w_make ?_ | refine w_app ?_) <;> intro u hu1 hu2)
    | refine w_stv ?_ | refine w_str ?_ | refine w_cpr ?_ | refine w_cps ?_
    | refine al_last (by kernel_rfl) ?_
  | fail)
  all_goals first | (exfalso; simp at hb; done) | skip
  have e : ovr (List.replicate (w * h) ((32, 0) : Cell)) 0 (((l.drop w).take (l.length - w)).take (List.replicate (w * h) ((32, 0) : Cell)).length) = l.drop w ++ List.replicate w (32, 0) := by
    rw [List.length_replicate, List.take_of_length_le (i := w * h) (by rw [List.length_take]; omega), List.take_of_length_le (by rw [List.length_drop]; omega)]
    simp only [ovr, List.take_zero, List.nil_append, List.length_drop, List.drop_replicate, Nat.zero_add]
    rw [show w * h - (l.length - w) = w by omega]
  exact ⟨_, [rowO cellT 30 u (ovr (List.replicate (w * h) ((32, 0) : Cell)) 0 (((l.drop w).take (l.length - w)).take (List.replicate (w * h) ((32, 0) : Cell)).length))], rs_, sl_, u, rfl, by rw [e]⟩
theorem f_Scroll (w h : Int) (l : List Cell) (hl : l.length ≤ 3000) : AP Tryd.prog tab0 23 [gridA w h l] (gridA w h (scrollR w h l)) := by
  by_cases hc : okG w h l = true
  · obtain ⟨w, h, rfl, rfl, _⟩ := okG_nat hc
    have := (f_ScrollO w h l hl hc).frz1 fza_
    simpa only [scrollR, if_pos hc, Int.toNat_natCast] using this
  · have hc' : okG w h l = false := by simpa using hc
    have c1 : AP Tryd.prog tab0 17 [gridA w h l] (B false) := hc' ▸ f_Is w h l hl
    refine af_intro Tryd.func23 rfl (by decide) Tryd.ntmps23 rfl ?_
    repeat' (first
    | fail
    | refine s_y ?_
      | refine c_ ?_
      | (refine aw_if ?_ ?_ <;> intro hb <;> try (exfalso; first | assumption | omega))
      | refine s_call ?_ (c := by first | exact c1 | fail)
      | refine s_op ?_ (hy := by first | fail | fail)
      | refine s_yg ?_
      | refine s_callg ?_ (c := by intro hk hk2; first | exact c1 | fail)
      | refine s_opg ?_ (hy := by intro hk hk2; first | fail | fail)
      | refine s_skip ?_
      | ((first | refine w_alloc ?_ | refine w_box ?_) <;> intro bb)
      | ((first | refine w_emp ?_ | refine w_make ?_ | refine w_app ?_) <;> intro u hu1 hu2)
      | refine w_stv ?_ | refine w_str ?_ | refine w_cpr ?_ | refine w_cps ?_
      | refine al_last (by kernel_rfl) ?_
    | fail)
    all_goals first | (exfalso; simp at hb; done) | skip
    refine ⟨_, [], rs_, List.nil_sublist _, ?_, rfl⟩
    simp only [scrollR, hc', gridA]; exact Sub.refl _
theorem f_ref03Sides (w h : Int) : AP Tryd.prog tab0 30 [I w, I h] (B (sidesM w h)) := by
  refine af_intro Tryd.func30 rfl (by decide) Tryd.ntmps30 rfl ?_
  repeat' (first
  | fail
  | refine s_y ?_
    | refine c_ ?_
    | (refine aw_if ?_ ?_ <;> intro hb <;> try (exfalso; first | assumption | omega))
    | refine s_call ?_ (c := by first | exact c1 | fail)
    | refine s_op ?_ (hy := by first | fail | fail)
    | refine s_yg ?_
    | refine s_callg ?_ (c := by intro hk hk2; first | exact c1 | fail)
    | refine s_opg ?_ (hy := by intro hk hk2; first | fail | fail)
    | refine s_skip ?_
    | ((first | refine w_alloc ?_ | refine w_box ?_) <;> intro bb)
    | ((first | refine w_emp ?_ | refine w_make ?_ | refine w_app ?_) <;> intro u hu1 hu2)
    | refine w_stv ?_ | refine w_str ?_ | refine w_cpr ?_ | refine w_cps ?_
    | refine al_last (by kernel_rfl) ?_
  | fail)
  exact ⟨_, [], rs_, List.nil_sublist _, Sub.refl _, rfl⟩
theorem f_lost (w h : Nat) (l : List Cell) (i : Nat) (hl : l.length = w * h) (hb : w * h ≤ 1920) (h1 : 2 ≤ w) (h2 : w ≤ 80) (h3 : 1 ≤ h) (hi : i < l.length) : AP Tryd.prog tab0 34 [gridA w h l, I i] (B (lostM w l i)) := by
  have hat := c_in hi
  have hnx : i % w ≠ w - 1 → i + 1 < l.length := fun k => by
    rcases Nat.lt_or_ge (i + 1) l.length with h | h
    · exact h
    · exact absurd (last_mod (by omega) h3 (by omega)) k
  have hpv : i % w ≠ 0 → 1 ≤ i := fun k => by
    rcases Nat.eq_zero_or_pos i with h | h
    · subst h; simp at k
    · exact h
  have hm : (0 : Int) ≤ ((i % w : Nat) : Int) := Int.natCast_nonneg _
  refine af_intro Tryd.func34 rfl (by decide) Tryd.ntmps34 rfl ?_

  repeat' (first
  | fail
  | refine s_y ?_
    | refine c_ ?_
    | (refine aw_if ?_ ?_ <;> intro hb <;> try (exfalso; first | assumption | omega))
    | refine s_call ?_ (c := by first | exact c1 | fail)
    | refine s_op ?_ (hy := by first | fail | fail)
    | refine s_yg ?_
    | refine s_callg ?_ (c := by intro hk hk2; first | exact c1 | fail)
    | refine s_opg ?_ (hy := by intro hk hk2; first | fail | fail)
    | refine s_skip ?_
    | ((first | refine w_alloc ?_ | refine w_box ?_) <;> intro bb)
    | ((first | refine w_emp ?_ | refine w_make ?_ | refine w_app ?_) <;> intro u hu1 hu2)
    | refine w_stv ?_ | refine w_str ?_ | refine w_cpr ?_ | refine w_cps ?_
    | refine al_last (by kernel_rfl) ?_
  | fail)
  all_goals refine ⟨_, [], rs_, List.nil_sublist _, Sub.eq (congrArg B ?_), rfl⟩
  · rw [lostM, if_pos hb]; congr 1; rw [decide_eq_decide]; omega
  · rename_i e1; rw [lostM, if_neg e1, if_pos hb]; congr 1; rw [decide_eq_decide]; omega
  · rename_i e1; rw [lostM, if_neg e1, if_neg hb]
theorem f_ref03Is (w h : Int) (l : List Cell) (hl : l.length ≤ 3000) : AP Tryd.prog tab0 18 [gridA w h l] (B (okG w h l)) := by
  by_cases hs : sidesM w h = true
  · obtain ⟨w, h, rfl, rfl, h1, h2, h3, h4⟩ := sides_nat hs
    have hb := side_le h2 h4
    have hnn : (0 : Int) ≤ ((w * h : Nat) : Int) := Int.natCast_nonneg _
    by_cases hlen : l.length = w * h
    · have hok : okG w h l = true ↔ ∀ i, i < l.length → isCell (cAt l i) = true ∧ lostM w l i = false := by
        rw [okG, decide_eq_true_eq, OkG]
        constructor
        · rintro ⟨_, _, k⟩; simpa using k
        · intro k; exact ⟨by omega, by rw [hlen]; simp, by simpa using k⟩
      have cl : ∀ i, i < l.length → AP Tryd.prog tab0 34 [gridA w h l, I i] (B (lostM w l i)) := fun i hi => f_lost w h l i hlen hb h1 h2 h3 hi
      refine af_intro Tryd.func18 rfl (by decide) Tryd.ntmps18 rfl ?_
      repeat' (first
      | fail
      | refine s_y ?_
        | refine c_ ?_
        | (refine aw_if ?_ ?_ <;> intro hb <;> try (exfalso; first | assumption | omega))
        | refine s_call ?_ (c := by first | exact f_ref03Sides _ _ | exact f_ref02Is (_, _) | exact cl _ (by omega) | fail)
        | refine s_op ?_ (hy := by first | fail | fail)
        | refine s_yg ?_
        | refine s_callg ?_ (c := by intro hk hk2; first | exact f_ref03Sides _ _ | exact f_ref02Is (_, _) | exact cl _ (by omega) | fail)
        | refine s_opg ?_ (hy := by intro hk hk2; first | fail | fail)
        | refine s_skip ?_
        | ((first | refine w_alloc ?_ | refine w_box ?_) <;> intro bb)
        | ((first | refine w_emp ?_ | refine w_make ?_ | refine w_app ?_) <;> intro u hu1 hu2)
        | refine w_stv ?_ | refine w_str ?_ | refine w_cpr ?_ | refine w_cps ?_
        | refine al_last (by kernel_rfl) ?_
      | fail)
      all_goals first | (exfalso; simp [hs] at hb; omega) | skip
      refine aw_fl (fun i : Nat => [(1, vA (.pointer (some ⟨bb, 0, none⟩))), (3, I i)]) (fun _ => [varO bb 24 [I w, I h, slA cellT l]]) (fun i => i ≤ l.length ∧ ∀ j, j < i → isCell (cAt l j) = true ∧ lostM w l j = false) (fun i => l.length - i) 0 ⟨Nat.zero_le _, fun _ k => absurd k (Nat.not_lt_zero _)⟩ wk_ sl_ ?_
      rintro i ⟨i1, i2⟩
      by_cases hlt : i < l.length
      · repeat' (first
        | fail
        | refine s_y ?_
          | refine c_ ?_
          | (refine aw_if ?_ ?_ <;> intro hb <;> try (exfalso; first | assumption | omega))
          | refine s_call ?_ (c := by first | exact f_ref03Sides _ _ | exact f_ref02Is (_, _) | exact cl _ (by omega) | fail)
          | refine s_op ?_ (hy := by first | fail | fail)
          | refine s_yg ?_
          | refine s_callg ?_ (c := by intro hk hk2; first | exact f_ref03Sides _ _ | exact f_ref02Is (_, _) | exact cl _ (by omega) | fail)
          | refine s_opg ?_ (hy := by intro hk hk2; first | fail | fail)
          | refine s_skip ?_
          | ((first | refine w_alloc ?_ | refine w_box ?_) <;> intro bb)
          | ((first | refine w_emp ?_ | refine w_make ?_ | refine w_app ?_) <;> intro u hu1 hu2)
          | refine w_stv ?_ | refine w_str ?_ | refine w_cpr ?_ | refine w_cps ?_
          | refine al_last (by kernel_rfl) ?_
        | fail)
        · refine ⟨_, [], rs_, List.nil_sublist _, Sub.eq (congrArg B ?_), rfl⟩
          rw [eq_comm, ← Bool.not_eq_true, hok]
          intro k
          have t := k i hlt
          rcases hb with hb | hb
          · exact absurd (show isCell (cAt l i) = true from t.1) (by rw [show isCell (cAt l i) = false from hb]; decide)
          · rw [t.2] at hb; cases hb
        · refine ⟨i + 1, ⟨by omega, fun j hj => ?_⟩, by omega, wk_, sl_⟩
          by_cases e : j = i
          · subst e; exact hb
          · exact i2 j (by omega)
      · repeat' (first
        | fail
        | refine s_y ?_
          | refine c_ ?_
          | (refine aw_if ?_ ?_ <;> intro hb <;> try (exfalso; first | assumption | omega))
          | refine s_call ?_ (c := by first | exact f_ref03Sides _ _ | exact f_ref02Is (_, _) | exact cl _ (by omega) | fail)
          | refine s_op ?_ (hy := by first | fail | fail)
          | refine s_yg ?_
          | refine s_callg ?_ (c := by intro hk hk2; first | exact f_ref03Sides _ _ | exact f_ref02Is (_, _) | exact cl _ (by omega) | fail)
          | refine s_opg ?_ (hy := by intro hk hk2; first | fail | fail)
          | refine s_skip ?_
          | ((first | refine w_alloc ?_ | refine w_box ?_) <;> intro bb)
          | ((first | refine w_emp ?_ | refine w_make ?_ | refine w_app ?_) <;> intro u hu1 hu2)
          | refine w_stv ?_ | refine w_str ?_ | refine w_cpr ?_ | refine w_cps ?_
          | refine al_last (by kernel_rfl) ?_
        | fail)
        refine ⟨_, [], rs_, List.nil_sublist _, Sub.eq (congrArg B ?_), rfl⟩
        exact (hok.2 fun j hj => i2 j (by omega)).symm
    · have hok : okG w h l = false := by
        rw [okG, decide_eq_false_iff_not]; rintro ⟨_, k, _⟩; exact hlen (by rw [← Int.natCast_mul] at k; omega)
      rw [hok]
      refine af_intro Tryd.func18 rfl (by decide) Tryd.ntmps18 rfl ?_
      repeat' (first
      | fail
      | refine s_y ?_
        | refine c_ ?_
        | (refine aw_if ?_ ?_ <;> intro hb <;> try (exfalso; first | assumption | omega))
        | refine s_call ?_ (c := by first | exact f_ref03Sides _ _ | exact f_ref02Is (_, _) | exact cl _ (by omega) | fail)
        | refine s_op ?_ (hy := by first | fail | fail)
        | refine s_yg ?_
        | refine s_callg ?_ (c := by intro hk hk2; first | exact f_ref03Sides _ _ | exact f_ref02Is (_, _) | exact cl _ (by omega) | fail)
        | refine s_opg ?_ (hy := by intro hk hk2; first | fail | fail)
        | refine s_skip ?_
        | ((first | refine w_alloc ?_ | refine w_box ?_) <;> intro bb)
        | ((first | refine w_emp ?_ | refine w_make ?_ | refine w_app ?_) <;> intro u hu1 hu2)
        | refine w_stv ?_ | refine w_str ?_ | refine w_cpr ?_ | refine w_cps ?_
        | refine al_last (by kernel_rfl) ?_
      | fail)
      all_goals first | exact ⟨_, [], rs_, List.nil_sublist _, Sub.refl _, rfl⟩ | (exfalso; omega) | (exfalso; simp [hs] at hb; omega)
  · have hs' : ¬ (2 ≤ w ∧ w ≤ 80 ∧ 1 ≤ h ∧ h ≤ 24) := by simpa [sidesM, and_assoc] using hs
    have hok : okG w h l = false := by
      rw [okG, decide_eq_false_iff_not]; rintro ⟨k, _, _⟩; exact hs' k
    rw [hok]
    have hs2 : sidesM w h = false := by simpa using hs
    refine af_intro Tryd.func18 rfl (by decide) Tryd.ntmps18 rfl ?_
    repeat' (first
    | fail
    | refine s_y ?_
      | refine c_ ?_
      | (refine aw_if ?_ ?_ <;> intro hb <;> try (exfalso; first | assumption | omega))
      | refine s_call ?_ (c := by first | exact f_ref03Sides _ _ | exact f_ref02Is (_, _) | exact cl _ (by omega) | fail)
      | refine s_op ?_ (hy := by first | exact ay_mulw rfl oo_ oo_ | fail)
      | refine s_yg ?_
      | refine s_callg ?_ (c := by intro hk hk2; first | exact f_ref03Sides _ _ | exact f_ref02Is (_, _) | exact cl _ (by omega) | fail)
      | refine s_opg ?_ (hy := by intro hk hk2; first | exact ay_mulw rfl oo_ oo_ | fail)
      | refine s_skip ?_
      | ((first | refine w_alloc ?_ | refine w_box ?_) <;> intro bb)
      | ((first | refine w_emp ?_ | refine w_make ?_ | refine w_app ?_) <;> intro u hu1 hu2)
      | refine w_stv ?_ | refine w_str ?_ | refine w_cpr ?_ | refine w_cps ?_
      | refine al_last (by kernel_rfl) ?_
    | fail)
    all_goals first | exact ⟨_, [], rs_, List.nil_sublist _, Sub.refl _, rfl⟩ | (exfalso; simp [hs2] at hb; done)
theorem f_in (w h : Int) (l : List Cell) (x y : Int) (hl : l.length ≤ 3000) : AP Tryd.prog tab0 31 [gridA w h l, I x, I y] (B (decide (okG w h l = true ∧ 0 ≤ x ∧ x < w ∧ 0 ≤ y ∧ y < h))) := by
  refine af_intro Tryd.func31 rfl (by decide) Tryd.ntmps31 rfl ?_
  repeat' (first
  | fail
  | refine s_y ?_
    | refine c_ ?_
    | (refine aw_if ?_ ?_ <;> intro hb <;> try (exfalso; first | assumption | omega))
    | refine s_call ?_ (c := by first | exact f_ref03Is _ _ _ hl | fail)
    | refine s_op ?_ (hy := by first | fail | fail)
    | refine s_yg ?_
    | refine s_callg ?_ (c := by intro hk hk2; first | exact f_ref03Is _ _ _ hl | fail)
    | refine s_opg ?_ (hy := by intro hk hk2; first | fail | fail)
    | refine s_skip ?_
    | ((first | refine w_alloc ?_ | refine w_box ?_) <;> intro bb)
    | ((first | refine w_emp ?_ | refine w_make ?_ | refine w_app ?_) <;> intro u hu1 hu2)
    | refine w_stv ?_ | refine w_str ?_ | refine w_cpr ?_ | refine w_cps ?_
    | refine al_last (by kernel_rfl) ?_
  | fail)
  refine ⟨_, [], rs_, List.nil_sublist _, Sub.eq (congrArg B ?_), rfl⟩
  rw [Bool.eq_iff_iff]; simp [and_assoc]
theorem f_ref03own (w h : Int) (l : List Cell) (hl : l.length ≤ 100000) : AF Tryd.prog tab0 42 [gridA w h l] [] (fun A M' => ∃ u, A = aggA [I w, I h, vA u] ∧ M' = [rowO cellT 30 u l]) := by
  refine af_intro Tryd.func42 rfl (by decide) Tryd.ntmps42 rfl ?_
  repeat' (first
  | fail
  | refine s_y ?_
    | refine c_ ?_
    | (refine aw_if ?_ ?_ <;> intro hb <;> try (exfalso; first | assumption | omega))
    | refine s_call ?_ (c := by first | exact f_ref03Is _ _ _ hl | fail)
    | refine s_op ?_ (hy := by first | fail | fail)
    | refine s_yg ?_
    | refine s_callg ?_ (c := by intro hk hk2; first | exact f_ref03Is _ _ _ hl | fail)
    | refine s_opg ?_ (hy := by intro hk hk2; first | fail | fail)
    | refine s_skip ?_
    | ((first | refine w_alloc ?_ | refine w_box ?_) <;> intro bb)
    | ((first | refine w_emp ?_ | refine w_make ?_ | refine w_app ?_) <;> intro u hu1 hu2)
    | refine w_stv ?_ | refine w_str ?_ | refine w_cpr ?_ | refine w_cps ?_
    | refine al_last (by kernel_rfl) ?_
  | fail)
  exact ⟨_, [rowO cellT 30 u ([] ++ l)], rs_, sl_, u, rfl, rfl⟩
end Go.Proofs.YthlikicgikoilaaDoor
