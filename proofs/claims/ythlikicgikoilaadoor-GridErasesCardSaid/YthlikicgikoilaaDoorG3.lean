/- Layer 3 (grid): is a grid right? The program's answer and the reference's. No condition. -/
import Derived.Test.YthlikicgikoilaaDoorG2
namespace Go.Proofs.YthlikicgikoilaaDoor
set_option linter.unusedSimpArgs false
set_option linter.unusedVariables false
set_option maxHeartbeats 4000000
open Go Go.RowKit
attribute [local irreducible] AW AL AO QY varO rowO rsA Opd OpdN vA gvA tupA aggA slA slcA ipA rpA EqK LnK IxK LdK FaK FdK
set_option maxRecDepth 100000
theorem rowF_step (row : List Cell) (i : Nat) (h : i < row.length) (want : Cell) : rowF (row.drop i) want = (isCell (cAt row i) && !((!decide (want = (0, 0))) != decide ((cAt row i).2 = 2) || (!decide (want = (0, 0))) && !decide (cAt row i = want)) && rowF (row.drop (i + 1)) (if (cAt row i).2 = 1 then ((cAt row i).1, 2) else (0, 0))) := by
  have e : row.drop i = cAt row i :: row.drop (i + 1) := by
    rw [List.drop_eq_getElem_cons h]; congr 1; simp [cAt, h]
  rw [e, rowF]
theorem f_rowIs (row : List Cell) (hl : row.length ≤ 100000) : AP Tryd.prog tab0 32 [slA cellT row] (B (rowOk row)) := by
  refine af_intro Tryd.func32 rfl (by decide) Tryd.ntmps32 rfl ?_
  repeat' (first
  | fail
  | refine s_y ?_
    | refine c_ ?_
    | (refine aw_if ?_ ?_ <;> intro hb <;> try (exfalso; first | assumption | omega))
    | refine s_call ?_ (c := by first | exact f_wideIs (_, _) | exact f_ref02Is (_, _) | fail)
    | refine s_op ?_ (hy := by first | fail | fail)
    | refine s_yg ?_
    | refine s_callg ?_ (c := by intro hk hk2; first | exact f_wideIs (_, _) | exact f_ref02Is (_, _) | fail)
    | refine s_opg ?_ (hy := by intro hk hk2; first | fail | fail)
    | refine s_skip ?_
    | ((first | refine w_alloc ?_ | refine w_box ?_) <;> intro bb)
    | ((first | refine w_emp ?_ | refine w_make ?_ | refine w_app ?_) <;> intro u hu1 hu2)
    | refine w_stv ?_ | refine w_str ?_ | refine w_cpr ?_ | refine w_cps ?_
    | refine al_last (by kernel_rfl) ?_
  | fail)
  refine aw_fl2 (fun (k : Nat) (want : Cell) => [(3, vA (.pointer (some ⟨bb, 0, none⟩))), (8, slA cellT row), (9, I row.length), (10, I k)]) (fun k want => [varO bb 30 [R want.1, I want.2]]) (fun k want => k ≤ row.length ∧ rowOk row = rowF (row.drop k) want) (fun k _ => row.length - k) 0 (0, 0) ⟨Nat.zero_le _, rfl⟩ wk_ sl_ ?_
  rintro k ⟨w1, w2⟩ ⟨h1, h2⟩
  by_cases hlt : k < row.length
  · have hst := rowF_step row k hlt (w1, w2)
    rw [← h2] at hst
    have hat := c_in hlt
    generalize cAt row k = c at *
    obtain ⟨c1, c2⟩ := c
    repeat' (first
    | fail
    | refine s_y ?_
      | refine c_ ?_
      | (refine aw_if ?_ ?_ <;> intro hb <;> try (exfalso; first | assumption | omega))
      | refine s_call ?_ (c := by first | exact f_wideIs (_, _) | exact f_ref02Is (_, _) | fail)
      | refine s_op ?_ (hy := by first | fail | fail)
      | refine s_yg ?_
      | refine s_callg ?_ (c := by intro hk hk2; first | exact f_wideIs (_, _) | exact f_ref02Is (_, _) | fail)
      | refine s_opg ?_ (hy := by intro hk hk2; first | fail | fail)
      | refine s_skip ?_
      | ((first | refine w_alloc ?_ | refine w_box ?_) <;> intro bb)
      | ((first | refine w_emp ?_ | refine w_make ?_ | refine w_app ?_) <;> intro u hu1 hu2)
      | refine w_stv ?_ | refine w_str ?_ | refine w_cpr ?_ | refine w_cps ?_
      | refine al_last (by kernel_rfl) ?_
    | fail)
    · refine ⟨_, [], rs_, List.nil_sublist _, Sub.eq (congrArg B ?_), rfl⟩
      rw [eq_comm, hst]; simp_all
    · refine ⟨_, [], rs_, List.nil_sublist _, Sub.eq (congrArg B ?_), rfl⟩
      rw [eq_comm, hst, Bool.and_eq_false_iff, Bool.and_eq_false_iff]
      left; right
      simp only [Bool.not_eq_false', Bool.or_eq_true]
      simp only [bne_iff_ne, ne_eq, Bool.and_eq_true, Bool.not_eq_true', decide_eq_false_iff_not, beq_eq_false_iff_ne, Bool.not_eq_true] at hb ⊢
      exact hb
    · refine ⟨k + 1, (c1, 2), ⟨by omega, ?_⟩, by omega, wk_, sl_⟩
      rw [hst]; simp_all
    · refine ⟨k + 1, (0, 0), ⟨by omega, ?_⟩, by omega, wk_, sl_⟩
      rename_i e1 _ e2
      have m : (!((!decide ((w1, w2) = ((0, 0) : Cell))) != decide ((c1, c2).2 = 2) || (!decide ((w1, w2) = ((0, 0) : Cell))) && !decide ((c1, c2) = (w1, w2)))) = true := by
        clear hst h2 e1 hat
        by_cases a : (w1, w2) = ((0, 0) : Cell) <;> by_cases b : c2 = 2 <;> by_cases d : (c1, c2) = (w1, w2) <;> simp_all
        all_goals omega
      rw [hst, m, if_neg hb]; simp_all
  · repeat' (first
    | fail
    | refine s_y ?_
      | refine c_ ?_
      | (refine aw_if ?_ ?_ <;> intro hb <;> try (exfalso; first | assumption | omega))
      | refine s_call ?_ (c := by first | exact f_wideIs (_, _) | exact f_ref02Is (_, _) | fail)
      | refine s_op ?_ (hy := by first | fail | fail)
      | refine s_yg ?_
      | refine s_callg ?_ (c := by intro hk hk2; first | exact f_wideIs (_, _) | exact f_ref02Is (_, _) | fail)
      | refine s_opg ?_ (hy := by intro hk hk2; first | fail | fail)
      | refine s_skip ?_
      | ((first | refine w_alloc ?_ | refine w_box ?_) <;> intro bb)
      | ((first | refine w_emp ?_ | refine w_make ?_ | refine w_app ?_) <;> intro u hu1 hu2)
      | refine w_stv ?_ | refine w_str ?_ | refine w_cpr ?_ | refine w_cps ?_
      | refine al_last (by kernel_rfl) ?_
    | fail)
    refine ⟨_, [], rs_, List.nil_sublist _, Sub.eq (congrArg B ?_), rfl⟩
    rw [h2, List.drop_of_length_le (by omega)]; rfl
theorem f_Is (w h : Int) (l : List Cell) (hl : l.length ≤ 3000) : AP Tryd.prog tab0 17 [gridA w h l] (B (okG w h l)) := by
  by_cases hs : sidesM w h = true
  · obtain ⟨w, h, rfl, rfl, h1, h2, h3, h4⟩ := sides_nat hs
    have hb := side_le h2 h4
    have hnn : (0 : Int) ≤ ((w * h : Nat) : Int) := Int.natCast_nonneg _
    by_cases hlen : l.length = w * h
    · have hro := rows_ok w h l h1 hlen
      have hok : okG w h l = true ↔ ∀ y, y < h → rowOk ((l.drop (y * w)).take ((y + 1) * w - y * w)) = true := by
        rw [hro, okG, decide_eq_true_eq, OkG]
        constructor
        · rintro ⟨_, _, k⟩; simpa using k
        · intro k; exact ⟨by omega, by rw [hlen]; simp, by simpa using k⟩
      refine af_intro Tryd.func17 rfl (by decide) Tryd.ntmps17 rfl ?_
      repeat' (first
      | fail
      | refine s_y ?_
        | refine c_ ?_
        | (refine aw_if ?_ ?_ <;> intro hb <;> try (exfalso; first | assumption | omega))
        | refine s_call ?_ (c := by first | exact f_rowIs _ (by simp only [List.length_take, List.length_drop]; omega) | fail)
        | refine s_op ?_ (hy := by first | fail | fail)
        | refine s_yg ?_
        | refine s_callg ?_ (c := by intro hk hk2; first | exact f_rowIs _ (by simp only [List.length_take, List.length_drop]; omega) | fail)
        | refine s_opg ?_ (hy := by intro hk hk2; first | fail | fail)
        | refine s_skip ?_
        | ((first | refine w_alloc ?_ | refine w_box ?_) <;> intro bb)
        | ((first | refine w_emp ?_ | refine w_make ?_ | refine w_app ?_) <;> intro u hu1 hu2)
        | refine w_stv ?_ | refine w_str ?_ | refine w_cpr ?_ | refine w_cps ?_
        | refine al_last (by kernel_rfl) ?_
      | fail)
      all_goals first | (exfalso; omega) | skip
      refine aw_fl (fun y : Nat => [(1, vA (.pointer (some ⟨bb, 0, none⟩))), (34, I h), (35, I y)]) (fun _ => [varO bb 24 [I w, I h, slA cellT l]]) (fun y => y ≤ h ∧ ∀ y', y' < y → rowOk ((l.drop (y' * w)).take ((y' + 1) * w - y' * w)) = true) (fun y => h - y) 0 ⟨Nat.zero_le _, fun _ k => absurd k (Nat.not_lt_zero _)⟩ wk_ sl_ ?_
      rintro y ⟨i1, i2⟩
      by_cases hlt : y < h
      · have m1 : (y + 1) * w = y * w + w := by rw [Nat.add_mul, Nat.one_mul]
        have m2 : (y + 1) * w ≤ l.length := by rw [hlen, Nat.mul_comm w h]; exact Nat.mul_le_mul_right _ hlt
        have m3 : (0 : Int) ≤ ((y * w : Nat) : Int) := Int.natCast_nonneg _
        have m4 : (0 : Int) ≤ (((y + 1) * w : Nat) : Int) := Int.natCast_nonneg _
        repeat' (first
        | fail
        | refine s_y ?_
          | refine c_ ?_
          | (refine aw_if ?_ ?_ <;> intro hb <;> try (exfalso; first | assumption | omega))
          | refine s_call ?_ (c := by first | exact f_rowIs _ (by simp only [List.length_take, List.length_drop]; omega) | fail)
          | refine s_op ?_ (hy := by first | fail | fail)
          | refine s_yg ?_
          | refine s_callg ?_ (c := by intro hk hk2; first | exact f_rowIs _ (by simp only [List.length_take, List.length_drop]; omega) | fail)
          | refine s_opg ?_ (hy := by intro hk hk2; first | fail | fail)
          | refine s_skip ?_
          | ((first | refine w_alloc ?_ | refine w_box ?_) <;> intro bb)
          | ((first | refine w_emp ?_ | refine w_make ?_ | refine w_app ?_) <;> intro u hu1 hu2)
          | refine w_stv ?_ | refine w_str ?_ | refine w_cpr ?_ | refine w_cps ?_
          | refine al_last (by kernel_rfl) ?_
        | fail)
        · refine ⟨_, [], rs_, List.nil_sublist _, Sub.eq (congrArg B ?_), rfl⟩
          rw [eq_comm, ← Bool.not_eq_true, hok]
          intro k; rw [k y hlt] at hb; cases hb
        · refine ⟨y + 1, ⟨by omega, fun y' hy => ?_⟩, by omega, wk_, sl_⟩
          by_cases e : y' = y
          · subst e; exact hb
          · exact i2 y' (by omega)
      · repeat' (first
        | fail
        | refine s_y ?_
          | refine c_ ?_
          | (refine aw_if ?_ ?_ <;> intro hb <;> try (exfalso; first | assumption | omega))
          | refine s_call ?_ (c := by first | exact f_rowIs _ (by simp only [List.length_take, List.length_drop]; omega) | fail)
          | refine s_op ?_ (hy := by first | fail | fail)
          | refine s_yg ?_
          | refine s_callg ?_ (c := by intro hk hk2; first | exact f_rowIs _ (by simp only [List.length_take, List.length_drop]; omega) | fail)
          | refine s_opg ?_ (hy := by intro hk hk2; first | fail | fail)
          | refine s_skip ?_
          | ((first | refine w_alloc ?_ | refine w_box ?_) <;> intro bb)
          | ((first | refine w_emp ?_ | refine w_make ?_ | refine w_app ?_) <;> intro u hu1 hu2)
          | refine w_stv ?_ | refine w_str ?_ | refine w_cpr ?_ | refine w_cps ?_
          | refine al_last (by kernel_rfl) ?_
        | fail)
        refine ⟨_, [], rs_, List.nil_sublist _, Sub.eq (congrArg B ?_), rfl⟩
        exact (hok.2 fun y' hy => i2 y' (by omega)).symm
    · have hok : okG w h l = false := by
        rw [okG, decide_eq_false_iff_not]; rintro ⟨_, k, _⟩; exact hlen (by rw [← Int.natCast_mul] at k; omega)
      rw [hok]
      refine af_intro Tryd.func17 rfl (by decide) Tryd.ntmps17 rfl ?_
      repeat' (first
      | fail
      | refine s_y ?_
        | refine c_ ?_
        | (refine aw_if ?_ ?_ <;> intro hb <;> try (exfalso; first | assumption | omega))
        | refine s_call ?_ (c := by first | exact f_rowIs _ (by simp only [List.length_take, List.length_drop]; omega) | fail)
        | refine s_op ?_ (hy := by first | fail | fail)
        | refine s_yg ?_
        | refine s_callg ?_ (c := by intro hk hk2; first | exact f_rowIs _ (by simp only [List.length_take, List.length_drop]; omega) | fail)
        | refine s_opg ?_ (hy := by intro hk hk2; first | fail | fail)
        | refine s_skip ?_
        | ((first | refine w_alloc ?_ | refine w_box ?_) <;> intro bb)
        | ((first | refine w_emp ?_ | refine w_make ?_ | refine w_app ?_) <;> intro u hu1 hu2)
        | refine w_stv ?_ | refine w_str ?_ | refine w_cpr ?_ | refine w_cps ?_
        | refine al_last (by kernel_rfl) ?_
      | fail)
      all_goals first | exact ⟨_, [], rs_, List.nil_sublist _, Sub.refl _, rfl⟩ | (exfalso; omega)
  · have hs' : ¬ (2 ≤ w ∧ w ≤ 80 ∧ 1 ≤ h ∧ h ≤ 24) := by simpa [sidesM, and_assoc] using hs
    have hok : okG w h l = false := by
      rw [okG, decide_eq_false_iff_not]; rintro ⟨k, _, _⟩; exact hs' k
    rw [hok]
    refine af_intro Tryd.func17 rfl (by decide) Tryd.ntmps17 rfl ?_
    repeat' (first
    | fail
    | refine s_y ?_
      | refine c_ ?_
      | (refine aw_if ?_ ?_ <;> intro hb <;> try (exfalso; first | assumption | omega))
      | refine s_call ?_ (c := by first | exact f_rowIs _ (by simp only [List.length_take, List.length_drop]; omega) | fail)
      | refine s_op ?_ (hy := by first | fail | fail)
      | refine s_yg ?_
      | refine s_callg ?_ (c := by intro hk hk2; first | exact f_rowIs _ (by simp only [List.length_take, List.length_drop]; omega) | fail)
      | refine s_opg ?_ (hy := by intro hk hk2; first | fail | fail)
      | refine s_skip ?_
      | ((first | refine w_alloc ?_ | refine w_box ?_) <;> intro bb)
      | ((first | refine w_emp ?_ | refine w_make ?_ | refine w_app ?_) <;> intro u hu1 hu2)
      | refine w_stv ?_ | refine w_str ?_ | refine w_cpr ?_ | refine w_cps ?_
      | refine al_last (by kernel_rfl) ?_
    | fail)
    all_goals first | exact ⟨_, [], rs_, List.nil_sublist _, Sub.refl _, rfl⟩ | (exfalso; omega)
theorem okG_nat {w h : Int} {l : List Cell} (hs : okG w h l = true) : ∃ w' h' : Nat, w = w' ∧ h = h' ∧ 2 ≤ w' ∧ w' ≤ 80 ∧ 1 ≤ h' ∧ h' ≤ 24 ∧ l.length = w' * h' ∧ ∀ i, i < l.length → isCell (cAt l i) = true ∧ lostM w' l i = false := by
  obtain ⟨⟨a, b, c, d⟩, e, f⟩ := of_decide_eq_true hs
  obtain ⟨w', rfl⟩ := Int.eq_ofNat_of_zero_le (show 0 ≤ w by omega)
  obtain ⟨h', rfl⟩ := Int.eq_ofNat_of_zero_le (show 0 ≤ h by omega)
  exact ⟨w', h', rfl, rfl, by omega, by omega, by omega, by omega, by rw [← Int.natCast_mul] at e; omega, by simpa using f⟩
theorem cell_pos {w h x y : Nat} (hx : x < w) (hy : y < h) : y * w + x < w * h := by
  have h1 : (y + 1) * w ≤ h * w := Nat.mul_le_mul_right _ hy
  rw [Nat.add_mul, Nat.one_mul, Nat.mul_comm h w] at h1; omega
noncomputable def atR (w h : Int) (l : List Cell) (x y : Int) : Cell × Int := if okG w h l = true ∧ 0 ≤ x ∧ x < w ∧ 0 ≤ y ∧ y < h then (cAt l (y.toNat * w.toNat + x.toNat), 0) else ((0, 0), 1)
def at2 (x : Cell × Int) : AV := tupA [cellA x.1, I x.2]
theorem f_At (w h : Int) (l : List Cell) (hl : l.length ≤ 3000) (x y : Int) : AP Tryd.prog tab0 13 [gridA w h l, I x, I y] (at2 (atR w h l x y)) := by
  by_cases hc : okG w h l = true ∧ 0 ≤ x ∧ x < w ∧ 0 ≤ y ∧ y < h
  · have hc' := hc
    obtain ⟨hok, x1, x2, y1, y2⟩ := hc
    obtain ⟨w, h, rfl, rfl, h1, h2, h3, h4, hlen, _⟩ := okG_nat hok
    obtain ⟨x, rfl⟩ := Int.eq_ofNat_of_zero_le x1
    obtain ⟨y, rfl⟩ := Int.eq_ofNat_of_zero_le y1
    have hp := cell_pos (show x < w by omega) (show y < h by omega)
    have hb := side_le h2 h4
    have m3 : (0 : Int) ≤ ((y * w : Nat) : Int) := Int.natCast_nonneg _
    have hat := c_in (l := l) (i := y * w + x) (by omega)
    have cf : AP Tryd.prog tab0 17 [gridA w h l] (B true) := hok ▸ f_Is w h l hl
    refine af_intro Tryd.func13 rfl (by decide) Tryd.ntmps13 rfl ?_
    repeat' (first
    | fail
    | refine s_y ?_
      | refine c_ ?_
      | (refine aw_if ?_ ?_ <;> intro hb <;> try (exfalso; first | assumption | omega))
      | refine s_call ?_ (c := by first | exact f_Is _ _ _ hl | exact cf | fail)
      | refine s_op ?_ (hy := by first | fail | fail)
      | refine s_yg ?_
      | refine s_callg ?_ (c := by intro hk hk2; first | exact f_Is _ _ _ hl | exact cf | fail)
      | refine s_opg ?_ (hy := by intro hk hk2; first | fail | fail)
      | refine s_skip ?_
      | ((first | refine w_alloc ?_ | refine w_box ?_) <;> intro bb)
      | ((first | refine w_emp ?_ | refine w_make ?_ | refine w_app ?_) <;> intro u hu1 hu2)
      | refine w_stv ?_ | refine w_str ?_ | refine w_cpr ?_ | refine w_cps ?_
      | refine al_last (by kernel_rfl) ?_
    | fail)
    all_goals first | (exfalso; simp [hok] at hb; omega) | skip
    refine ⟨_, [], rs_, List.nil_sublist _, Sub.eq ?_, rfl⟩
    simp only [at2, atR, if_pos hc', Int.toNat_natCast]; rfl
  · refine af_intro Tryd.func13 rfl (by decide) Tryd.ntmps13 rfl ?_
    repeat' (first
    | fail
    | refine s_y ?_
      | refine c_ ?_
      | (refine aw_if ?_ ?_ <;> intro hb <;> try (exfalso; first | assumption | omega))
      | refine s_call ?_ (c := by first | exact f_Is _ _ _ hl | exact cf | fail)
      | refine s_op ?_ (hy := by first | fail | fail)
      | refine s_yg ?_
      | refine s_callg ?_ (c := by intro hk hk2; first | exact f_Is _ _ _ hl | exact cf | fail)
      | refine s_opg ?_ (hy := by intro hk hk2; first | fail | fail)
      | refine s_skip ?_
      | ((first | refine w_alloc ?_ | refine w_box ?_) <;> intro bb)
      | ((first | refine w_emp ?_ | refine w_make ?_ | refine w_app ?_) <;> intro u hu1 hu2)
      | refine w_stv ?_ | refine w_str ?_ | refine w_cpr ?_ | refine w_cps ?_
      | refine al_last (by kernel_rfl) ?_
    | fail)
    all_goals first | (exfalso; exact hc ⟨by simp_all, by omega, by omega, by omega, by omega⟩) | skip
    refine ⟨_, [], rs_, List.nil_sublist _, Sub.eq ?_, rfl⟩
    simp only [at2, atR, if_neg hc]; rfl
end Go.Proofs.YthlikicgikoilaaDoor
