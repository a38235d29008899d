/- Layer 27 (belief): the reference's Do. No condition. -/
import Derived.Test.YtockidoncngdbaaGreatDoorQ2H5
import Derived.Test.YtockidoncngdbaaGreatDoorQ2BC
namespace Go.Proofs.YtockidoncngdbaaGreatDoor
set_option linter.unusedSimpArgs false
set_option linter.unusedVariables false
set_option linter.unusedSectionVars false
set_option maxHeartbeats 4000000
open Go Go.RowKit
set_option maxRecDepth 100000
variable {T0 : Gh} [TabS T0]
theorem sub_noB2 {n : Int} : Sub (tupA [aggA [I 0, I 0, vA (.slice none 0 0), I 0, I 0, B false, B false], I n]) (tupA [blA noB, I n]) := sub_tup (subl1 (sub_agg (subl1 (Sub.refl _) (subl1 (Sub.refl _) (subl1 sub_nilB (subl1 (Sub.refl _) (subl1 (Sub.refl _) (subl1 (Sub.refl _) (subl1 (Sub.refl _) subl0)))))))) (subl1 (Sub.refl _) subl0))
/-- the cursor of a belief that is right -/
theorem be_cur {w h : Int} {l : List Guess} {x y : Int} {b s : Bool} (h1 : okBe w h l x y b s = true) : (2 ≤ w ∧ w ≤ 80 ∧ 1 ≤ h ∧ h ≤ 24) ∧ (0 ≤ x ∧ x < w) ∧ (0 ≤ y ∧ y < h) ∧ (b = true → x = w - 1) ∧ (l.length : Int) = w * h ∧ l.length ≤ 1920 ∧ (0 ≤ y * w ∧ y * w ≤ 1920) ∧ GOk w.toNat l ∧ l.length = w.toNat * h.toNat := by
  obtain ⟨w', h', rfl, rfl, w2, w3, w4, w5, hl, hk, p1, p2⟩ := okBe_iff.1 h1
  have hcur : (0 ≤ x ∧ x < (w' : Int)) ∧ (0 ≤ y ∧ y < (h' : Int)) ∧ (b = true → x = (w' : Int) - 1) := by
    cases s with
    | true => obtain ⟨q1, q2, q3, q4, q5⟩ := p1 rfl; exact ⟨⟨q1, q2⟩, ⟨q3, q4⟩, q5⟩
    | false => obtain ⟨rfl, rfl, rfl⟩ := p2 rfl; exact ⟨by omega, by omega, fun z => by cases z⟩
  have hm := mul_rng (w := w') (h := h') (y := y) (by omega) (by omega) hcur.2.1
  have := side_leB w3 w5
  exact ⟨by omega, hcur.1, hcur.2.1, hcur.2.2, by rw [hl]; exact Int.natCast_mul w' h', by omega, by omega, by simpa using hk, by simpa using hl⟩
attribute [local irreducible] thenA inBlockA AW AL AO QY varO rowO rsA Opd OpdN vA gvA tupA aggA slA slcA ipA rpA EqK LnK IxK LdK FaK FdK
/-- cursor and list are what they are: the rest is one walk -/
theorem f_ref27DoK (w h : Int) (l : List Guess) (x y : Int) (b s : Bool) (k a d r : Int) (h1 : okBe w h l x y b s = true) (hc : isCmd (k, a, d, r) = true) (hgo : s = true ∨ k = 2) : AP Tryz.prog T0 5 [belA w h l x y b s, aggA [I k, I a, I d, R r]] (tupA [blA (doBK w h l x y b (k, a, d, r)), I 0]) := by
  obtain ⟨hw, hx, hy, hb0, hl, hl2, hm, hg, hl3⟩ := be_cur h1
  have c1 : AP Tryz.prog T0 17 [belA w h l x y b s] (B true) := (f_ref27Is w h l x y b s).to (by rw [h1])
  have c2 : AP Tryz.prog T0 18 [aggA [I k, I a, I d, R r]] (B true) := (f_ref05Is (k, a, d, r)).to (by rw [hc])
  obtain ⟨T, c3⟩ := f_cursor (T0 := T0) w h l x y b s (k, a, d, r) hw hx hy hb0 hc
  replace c3 : AP Tryz.prog T0 21 [belA w h l x y b s, aggA [I k, I a, I d, R r]] _ := c3
  have c4 := f_ref27ownF (T0 := T0) w h l x y b s (by omega)
  have c5 : AP Tryz.prog T0 19 [I k] (B (chg k)) := f_ref27changes k
  have hlen := Int.toNat_of_nonneg (show 0 ≤ w by omega)
  have hlen2 := Int.toNat_of_nonneg (show 0 ≤ h by omega)
  have hlx := Int.toNat_of_nonneg hx.1
  have hly := Int.toNat_of_nonneg hy.1
  have hat := toNat_at (w := w) (x := x) (y := y) (by omega) (by omega) (by omega)
  have hri := row_in (h := h.toNat) (w := w.toNat) (y := y.toNat) (x := x.toNat) (n := w.toNat - x.toNat) (by omega) (by omega)
  have hsk : k ≠ 2 → s = true := fun z => by rcases hgo with q | q; exact q; exact absurd q z
  unfold doBK
  obtain ⟨⟨X, Y, Z⟩, hcu⟩ : ∃ z, z = curK w h x y b (k, a, d, r) := ⟨_, rfl⟩
  rw [← hcu] at c3 ⊢
  dsimp only at c3 ⊢
  have cd : ∀ v, goesDown w x b (k, a, d, r) = v → AP Tryz.prog T0 23 [belA w h l x y b s, aggA [I k, I a, I d, R r]] (tupA [B v, B (v && decide (y = h - 1))]) := fun v hv => by
    have := f_ref27down (T0 := T0) w h l x y b s (k, a, d, r) (by omega) (by omega)
    rw [hv] at this; exact this
  rcases cmd_ways hc with ⟨r', e, hs⟩ | ⟨a', d', e, ha, ha2, hd1, hd2⟩ | ⟨k', a', e, hk, ha⟩ | ⟨k', e, hk⟩
  · obtain ⟨rfl, rfl, rfl, rfl⟩ : k = 1 ∧ a = 0 ∧ d = 0 ∧ r = r' := by simpa using e
    have hs' := hsk (by decide)
    subst hs'
    have hn := cellsM_rng hs
    rw [show chg 1 = true from rfl] at c5
    have gd : goesDown w x b (1, 0, 0, r) = true ↔ (b = true ∨ w < x + (cellsM r).length) := by simp [goesDown]
    have c9 := f_ref02Cells (T0 := T0) r
    have lay : ∀ (L1 : List Guess) (P : Int) (PX PY : Nat), L1.length = l.length → GOk w.toNat L1 → P.toNat = PY * w.toNat + PX → 0 ≤ P → PY < h.toNat → PX + (cellsM r).length ≤ w.toNat → AP Tryz.prog T0 25 [belA w h L1 x y b true, I P, slA cellT (cellsM r)] (belA w h (layB w.toNat L1 (PY * w.toNat + PX) (cellsM r)) x y b true) := fun L1 P PX PY a1 a2 a3 a4 a5 a6 => by
      have hri := row_in (h := h.toNat) (w := w.toNat) (y := PY) (x := PX) (n := (cellsM r).length) a5 a6
      have := f_ref27lay (T0 := T0) w h L1 x y b true P (cellsM r) (by omega) (by omega) (by omega) a2 a4 (by omega) (by rw [a3, a1]; exact lay_end (h := h.toNat) hl3 hri)
      rwa [a3] at this
    show AP _ _ _ _ (tupA [belA w h (textL w.toNat h.toNat l x.toNat y.toNat b (cellsM r)) X Y Z true, I 0])
    unfold textL
    by_cases hq : b = true ∨ w < x + (cellsM r).length
    · have c6 := cd true (gd.2 hq)
      rw [if_pos (show b = true ∨ w.toNat < x.toNat + (cellsM r).length by rcases hq with q | q; exact .inl q; exact .inr (by omega))]
      by_cases e2 : y = h - 1
      · rw [if_neg (by omega)]
        rw [show decide (y = h - 1) = true from decide_eq_true e2, Bool.and_true] at c6
        have hU : (upB w.toNat l).length = l.length := by rw [upB_len]; rw [hl3]; exact Nat.le_mul_of_pos_right _ (by omega)
        have c7 := f_scrolls (T0 := T0) w h l x y b true (by omega) (by rw [hl3]; exact Nat.le_mul_of_pos_right _ (by omega)) (by omega)
        have c8 := lay (upB w.toNat l) (y * w) 0 y.toNat hU (upB_ok (h := h.toNat) (by omega) (by omega) hl3 hg) (by have := toNat_at (w := w) (x := 0) (y := y) (by omega) (by omega) (by omega); simpa using this) (by omega) (by omega) (by omega)
        rw [Nat.add_zero] at c8
        generalize layB w.toNat (upB w.toNat l) (y.toNat * w.toNat) (cellsM r) = L at *
        generalize upB w.toNat l = L1 at *
        clear lay cd gd
        refine af_intro Tryz.func5 rfl (by decide) Tryz.ntmps5 rfl ?_
        repeat' (first
        | fail
        | refine s_y ?_
          | refine c_ ?_
          | (refine aw_if ?_ ?_ <;> intro hb <;> try (exfalso; first | assumption | omega | (simp only [or_self, and_self, not_true_eq_false, not_false_eq_true, or_false, false_or, and_false, false_and, true_and, and_true] at hb; first | done | omega)))
          | refine s_call ?_ (c := by first | exact c1 | exact c2 | exact c3 | exact c4 | exact c5 | exact c6 | exact c7 | exact c8 | exact c9 | fail)
          | refine s_op ?_ (hy := by first | fail | fail)
          | refine s_yg ?_
          | refine s_callg ?_ (c := by intro hk hk2; first | exact c1 | exact c2 | exact c3 | exact c4 | exact c5 | exact c6 | exact c7 | exact c8 | exact c9 | fail)
          | refine s_opg ?_ (hy := by intro hk hk2; first | fail | fail)
          | refine s_skip ?_
          | ((first | refine w_alloc ?_ | refine w_box ?_) <;> intro bb)
          | ((first | refine w_emp ?_ | refine w_make ?_ | refine w_app ?_) <;> intro u hu1 hu2)
          | refine w_stv ?_ | refine w_str ?_ | refine w_cpr ?_ | refine w_cps ?_
          | refine al_last (by kernel_rfl) ?_
        | fail)
        all_goals first | (exfalso; simp at hb; done) | exact ⟨_, [], rl_, List.nil_sublist _, Sub.refl _, rfl⟩ | exact ⟨_, [], rl_, List.nil_sublist _, sub_noB2, rfl⟩ | (exfalso; simp_all; done) | skip
      · rw [if_pos (by omega)]
        have hm2 := mul_rng (w := w) (h := h) (y := y + 1) (by omega) (by omega) (by omega)
        rw [show decide (y = h - 1) = false from decide_eq_false e2, Bool.and_false] at c6
        have c7 : True := trivial
        have c8 := lay l ((y + 1) * w) 0 (y.toNat + 1) rfl hg (by have := toNat_at (w := w) (x := 0) (y := y + 1) (by omega) (by omega) (by omega); rw [show (y + 1).toNat = y.toNat + 1 by omega] at this; simpa using this) (by omega) (by omega) (by omega)
        rw [Nat.add_zero] at c8
        generalize layB w.toNat l ((y.toNat + 1) * w.toNat) (cellsM r) = L at *
        clear lay cd gd
        refine af_intro Tryz.func5 rfl (by decide) Tryz.ntmps5 rfl ?_
        repeat' (first
        | fail
        | refine s_y ?_
          | refine c_ ?_
          | (refine aw_if ?_ ?_ <;> intro hb <;> try (exfalso; first | assumption | omega | (simp only [or_self, and_self, not_true_eq_false, not_false_eq_true, or_false, false_or, and_false, false_and, true_and, and_true] at hb; first | done | omega)))
          | refine s_call ?_ (c := by first | exact c1 | exact c2 | exact c3 | exact c4 | exact c5 | exact c6 | exact c7 | exact c8 | exact c9 | fail)
          | refine s_op ?_ (hy := by first | fail | fail)
          | refine s_yg ?_
          | refine s_callg ?_ (c := by intro hk hk2; first | exact c1 | exact c2 | exact c3 | exact c4 | exact c5 | exact c6 | exact c7 | exact c8 | exact c9 | fail)
          | refine s_opg ?_ (hy := by intro hk hk2; first | fail | fail)
          | refine s_skip ?_
          | ((first | refine w_alloc ?_ | refine w_box ?_) <;> intro bb)
          | ((first | refine w_emp ?_ | refine w_make ?_ | refine w_app ?_) <;> intro u hu1 hu2)
          | refine w_stv ?_ | refine w_str ?_ | refine w_cpr ?_ | refine w_cps ?_
          | refine al_last (by kernel_rfl) ?_
        | fail)
        all_goals first | (exfalso; simp at hb; done) | exact ⟨_, [], rl_, List.nil_sublist _, Sub.refl _, rfl⟩ | exact ⟨_, [], rl_, List.nil_sublist _, sub_noB2, rfl⟩ | (exfalso; simp_all; done) | skip
    · have c6 := cd false (by cases h : goesDown w x b (1, 0, 0, r) with | true => exact absurd (gd.1 h) hq | false => rfl)
      rw [Bool.false_and] at c6
      rw [if_neg (show ¬ (b = true ∨ w.toNat < x.toNat + (cellsM r).length) by rintro (q | q); exact hq (.inl q); exact hq (.inr (by omega)))]
      have c7 : True := trivial
      have c8 := lay l (y * w + x) x.toNat y.toNat rfl hg hat (by omega) (by omega) (by omega)
      generalize layB w.toNat l (y.toNat * w.toNat + x.toNat) (cellsM r) = L at *
      clear lay cd gd
      refine af_intro Tryz.func5 rfl (by decide) Tryz.ntmps5 rfl ?_
      repeat' (first
      | fail
      | refine s_y ?_
        | refine c_ ?_
        | (refine aw_if ?_ ?_ <;> intro hb <;> try (exfalso; first | assumption | omega | (simp only [or_self, and_self, not_true_eq_false, not_false_eq_true, or_false, false_or, and_false, false_and, true_and, and_true] at hb; first | done | omega)))
        | refine s_call ?_ (c := by first | exact c1 | exact c2 | exact c3 | exact c4 | exact c5 | exact c6 | exact c7 | exact c8 | exact c9 | fail)
        | refine s_op ?_ (hy := by first | fail | fail)
        | refine s_yg ?_
        | refine s_callg ?_ (c := by intro hk hk2; first | exact c1 | exact c2 | exact c3 | exact c4 | exact c5 | exact c6 | exact c7 | exact c8 | exact c9 | fail)
        | refine s_opg ?_ (hy := by intro hk hk2; first | fail | fail)
        | refine s_skip ?_
        | ((first | refine w_alloc ?_ | refine w_box ?_) <;> intro bb)
        | ((first | refine w_emp ?_ | refine w_make ?_ | refine w_app ?_) <;> intro u hu1 hu2)
        | refine w_stv ?_ | refine w_str ?_ | refine w_cpr ?_ | refine w_cps ?_
        | refine al_last (by kernel_rfl) ?_
      | fail)
      all_goals first | (exfalso; simp at hb; done) | exact ⟨_, [], rl_, List.nil_sublist _, Sub.refl _, rfl⟩ | exact ⟨_, [], rl_, List.nil_sublist _, sub_noB2, rfl⟩ | (exfalso; simp_all; done) | skip
  · obtain ⟨rfl, rfl, rfl, rfl⟩ : k = 2 ∧ a = a' ∧ d = d' ∧ r = 0 := by simpa using e
    have c6 := cd false (by simp [goesDown])
    have c7 : True := trivial
    have c8 : True := trivial
    have c9 : True := trivial
    show AP _ _ _ _ (tupA [belA w h l X Y Z true, I 0])
    rw [show chg 2 = false from rfl] at c5
    cases s with
    | true =>
      refine af_intro Tryz.func5 rfl (by decide) Tryz.ntmps5 rfl ?_
      repeat' (first
      | fail
      | refine s_y ?_
        | refine c_ ?_
        | (refine aw_if ?_ ?_ <;> intro hb <;> try (exfalso; first | assumption | omega | (simp only [or_self, and_self, not_true_eq_false, not_false_eq_true, or_false, false_or, and_false, false_and, true_and, and_true] at hb; first | done | omega)))
        | refine s_call ?_ (c := by first | exact c1 | exact c2 | exact c3 | exact c4 | exact c5 | exact c6 | exact c7 | exact c8 | exact c9 | fail)
        | refine s_op ?_ (hy := by first | fail | fail)
        | refine s_yg ?_
        | refine s_callg ?_ (c := by intro hk hk2; first | exact c1 | exact c2 | exact c3 | exact c4 | exact c5 | exact c6 | exact c7 | exact c8 | exact c9 | fail)
        | refine s_opg ?_ (hy := by intro hk hk2; first | fail | fail)
        | refine s_skip ?_
        | ((first | refine w_alloc ?_ | refine w_box ?_) <;> intro bb)
        | ((first | refine w_emp ?_ | refine w_make ?_ | refine w_app ?_) <;> intro u hu1 hu2)
        | refine w_stv ?_ | refine w_str ?_ | refine w_cpr ?_ | refine w_cps ?_
        | refine al_last (by kernel_rfl) ?_
      | fail)
      all_goals first | (exfalso; simp at hb; done) | exact ⟨_, [], rl_, List.nil_sublist _, Sub.refl _, rfl⟩ | exact ⟨_, [], rl_, List.nil_sublist _, sub_noB2, rfl⟩ | (exfalso; simp_all; done) | skip
    | false =>
      refine af_intro Tryz.func5 rfl (by decide) Tryz.ntmps5 rfl ?_
      repeat' (first
      | fail
      | refine s_y ?_
        | refine c_ ?_
        | (refine aw_if ?_ ?_ <;> intro hb <;> try (exfalso; first | assumption | omega | (simp only [or_self, and_self, not_true_eq_false, not_false_eq_true, or_false, false_or, and_false, false_and, true_and, and_true] at hb; first | done | omega)))
        | refine s_call ?_ (c := by first | exact c1 | exact c2 | exact c3 | exact c4 | exact c5 | exact c6 | exact c7 | exact c8 | exact c9 | fail)
        | refine s_op ?_ (hy := by first | fail | fail)
        | refine s_yg ?_
        | refine s_callg ?_ (c := by intro hk hk2; first | exact c1 | exact c2 | exact c3 | exact c4 | exact c5 | exact c6 | exact c7 | exact c8 | exact c9 | fail)
        | refine s_opg ?_ (hy := by intro hk hk2; first | fail | fail)
        | refine s_skip ?_
        | ((first | refine w_alloc ?_ | refine w_box ?_) <;> intro bb)
        | ((first | refine w_emp ?_ | refine w_make ?_ | refine w_app ?_) <;> intro u hu1 hu2)
        | refine w_stv ?_ | refine w_str ?_ | refine w_cpr ?_ | refine w_cps ?_
        | refine al_last (by kernel_rfl) ?_
      | fail)
      all_goals first | (exfalso; simp at hb; done) | exact ⟨_, [], rl_, List.nil_sublist _, Sub.refl _, rfl⟩ | exact ⟨_, [], rl_, List.nil_sublist _, sub_noB2, rfl⟩ | (exfalso; simp_all; done) | skip
  · obtain ⟨rfl, rfl, rfl, rfl⟩ : k = k' ∧ a = a' ∧ d = 0 ∧ r = 0 := by simpa using e
    have hs := hsk (by omega)
    subst hs
    have c6 := cd false (by simp [goesDown]; omega)
    have c7 : True := trivial
    have c8 : True := trivial
    have c9 : True := trivial
    have eL : listK w.toNat h.toNat l x.toNat y.toNat b (k, a, 0, 0) = l := by
      unfold listK
      rw [if_neg (show k ≠ 1 by omega), if_neg (show k ≠ 7 by omega), if_neg (show k ≠ 8 by omega), if_neg (show k ≠ 10 by omega)]
    rw [eL]
    show AP _ _ _ _ (tupA [belA w h l X Y Z true, I 0])
    rw [show chg k = false by simp [chg]; omega] at c5
    rcases hk with rfl | rfl | rfl | rfl
    · refine af_intro Tryz.func5 rfl (by decide) Tryz.ntmps5 rfl ?_
      repeat' (first
      | fail
      | refine s_y ?_
        | refine c_ ?_
        | (refine aw_if ?_ ?_ <;> intro hb <;> try (exfalso; first | assumption | omega | (simp only [or_self, and_self, not_true_eq_false, not_false_eq_true, or_false, false_or, and_false, false_and, true_and, and_true] at hb; first | done | omega)))
        | refine s_call ?_ (c := by first | exact c1 | exact c2 | exact c3 | exact c4 | exact c5 | exact c6 | exact c7 | exact c8 | exact c9 | fail)
        | refine s_op ?_ (hy := by first | fail | fail)
        | refine s_yg ?_
        | refine s_callg ?_ (c := by intro hk hk2; first | exact c1 | exact c2 | exact c3 | exact c4 | exact c5 | exact c6 | exact c7 | exact c8 | exact c9 | fail)
        | refine s_opg ?_ (hy := by intro hk hk2; first | fail | fail)
        | refine s_skip ?_
        | ((first | refine w_alloc ?_ | refine w_box ?_) <;> intro bb)
        | ((first | refine w_emp ?_ | refine w_make ?_ | refine w_app ?_) <;> intro u hu1 hu2)
        | refine w_stv ?_ | refine w_str ?_ | refine w_cpr ?_ | refine w_cps ?_
        | refine al_last (by kernel_rfl) ?_
      | fail)
      all_goals first | (exfalso; simp at hb; done) | exact ⟨_, [], rl_, List.nil_sublist _, Sub.refl _, rfl⟩ | exact ⟨_, [], rl_, List.nil_sublist _, sub_noB2, rfl⟩ | (exfalso; simp_all; done) | skip
    · refine af_intro Tryz.func5 rfl (by decide) Tryz.ntmps5 rfl ?_
      repeat' (first
      | fail
      | refine s_y ?_
        | refine c_ ?_
        | (refine aw_if ?_ ?_ <;> intro hb <;> try (exfalso; first | assumption | omega | (simp only [or_self, and_self, not_true_eq_false, not_false_eq_true, or_false, false_or, and_false, false_and, true_and, and_true] at hb; first | done | omega)))
        | refine s_call ?_ (c := by first | exact c1 | exact c2 | exact c3 | exact c4 | exact c5 | exact c6 | exact c7 | exact c8 | exact c9 | fail)
        | refine s_op ?_ (hy := by first | fail | fail)
        | refine s_yg ?_
        | refine s_callg ?_ (c := by intro hk hk2; first | exact c1 | exact c2 | exact c3 | exact c4 | exact c5 | exact c6 | exact c7 | exact c8 | exact c9 | fail)
        | refine s_opg ?_ (hy := by intro hk hk2; first | fail | fail)
        | refine s_skip ?_
        | ((first | refine w_alloc ?_ | refine w_box ?_) <;> intro bb)
        | ((first | refine w_emp ?_ | refine w_make ?_ | refine w_app ?_) <;> intro u hu1 hu2)
        | refine w_stv ?_ | refine w_str ?_ | refine w_cpr ?_ | refine w_cps ?_
        | refine al_last (by kernel_rfl) ?_
      | fail)
      all_goals first | (exfalso; simp at hb; done) | exact ⟨_, [], rl_, List.nil_sublist _, Sub.refl _, rfl⟩ | exact ⟨_, [], rl_, List.nil_sublist _, sub_noB2, rfl⟩ | (exfalso; simp_all; done) | skip
    · refine af_intro Tryz.func5 rfl (by decide) Tryz.ntmps5 rfl ?_
      repeat' (first
      | fail
      | refine s_y ?_
        | refine c_ ?_
        | (refine aw_if ?_ ?_ <;> intro hb <;> try (exfalso; first | assumption | omega | (simp only [or_self, and_self, not_true_eq_false, not_false_eq_true, or_false, false_or, and_false, false_and, true_and, and_true] at hb; first | done | omega)))
        | refine s_call ?_ (c := by first | exact c1 | exact c2 | exact c3 | exact c4 | exact c5 | exact c6 | exact c7 | exact c8 | exact c9 | fail)
        | refine s_op ?_ (hy := by first | fail | fail)
        | refine s_yg ?_
        | refine s_callg ?_ (c := by intro hk hk2; first | exact c1 | exact c2 | exact c3 | exact c4 | exact c5 | exact c6 | exact c7 | exact c8 | exact c9 | fail)
        | refine s_opg ?_ (hy := by intro hk hk2; first | fail | fail)
        | refine s_skip ?_
        | ((first | refine w_alloc ?_ | refine w_box ?_) <;> intro bb)
        | ((first | refine w_emp ?_ | refine w_make ?_ | refine w_app ?_) <;> intro u hu1 hu2)
        | refine w_stv ?_ | refine w_str ?_ | refine w_cpr ?_ | refine w_cps ?_
        | refine al_last (by kernel_rfl) ?_
      | fail)
      all_goals first | (exfalso; simp at hb; done) | exact ⟨_, [], rl_, List.nil_sublist _, Sub.refl _, rfl⟩ | exact ⟨_, [], rl_, List.nil_sublist _, sub_noB2, rfl⟩ | (exfalso; simp_all; done) | skip
    · refine af_intro Tryz.func5 rfl (by decide) Tryz.ntmps5 rfl ?_
      repeat' (first
      | fail
      | refine s_y ?_
        | refine c_ ?_
        | (refine aw_if ?_ ?_ <;> intro hb <;> try (exfalso; first | assumption | omega | (simp only [or_self, and_self, not_true_eq_false, not_false_eq_true, or_false, false_or, and_false, false_and, true_and, and_true] at hb; first | done | omega)))
        | refine s_call ?_ (c := by first | exact c1 | exact c2 | exact c3 | exact c4 | exact c5 | exact c6 | exact c7 | exact c8 | exact c9 | fail)
        | refine s_op ?_ (hy := by first | fail | fail)
        | refine s_yg ?_
        | refine s_callg ?_ (c := by intro hk hk2; first | exact c1 | exact c2 | exact c3 | exact c4 | exact c5 | exact c6 | exact c7 | exact c8 | exact c9 | fail)
        | refine s_opg ?_ (hy := by intro hk hk2; first | fail | fail)
        | refine s_skip ?_
        | ((first | refine w_alloc ?_ | refine w_box ?_) <;> intro bb)
        | ((first | refine w_emp ?_ | refine w_make ?_ | refine w_app ?_) <;> intro u hu1 hu2)
        | refine w_stv ?_ | refine w_str ?_ | refine w_cpr ?_ | refine w_cps ?_
        | refine al_last (by kernel_rfl) ?_
      | fail)
      all_goals first | (exfalso; simp at hb; done) | exact ⟨_, [], rl_, List.nil_sublist _, Sub.refl _, rfl⟩ | exact ⟨_, [], rl_, List.nil_sublist _, sub_noB2, rfl⟩ | (exfalso; simp_all; done) | skip
  · obtain ⟨rfl, rfl, rfl, rfl⟩ : k = k' ∧ a = 0 ∧ d = 0 ∧ r = 0 := by simpa using e
    have hs := hsk (by omega)
    subst hs
    have nd : k ≠ 10 → goesDown w x b (k, 0, 0, 0) = false := fun z => by simp [goesDown, z]; omega
    have lay : ∀ (P : Nat), P ≤ w.toNat * h.toNat - (y.toNat * w.toNat + x.toNat) → AP Tryz.prog T0 25 [belA w h l x y b true, I (y * w + x), slA cellT (List.replicate P (32, 0))] (belA w h (layB w.toNat l (y.toNat * w.toNat + x.toNat) (List.replicate P (32, 0))) x y b true) := fun P hP => by
      have := f_ref27lay (T0 := T0) w h l x y b true (y * w + x) (List.replicate P (32, 0)) (by omega) (by omega) (by omega) hg (by omega) (by simp; omega) (by rw [hat]; exact lay_end (h := h.toNat) hl3 (by simp; omega))
      rwa [hat] at this
    rcases hk with rfl | rfl | rfl | rfl | rfl | rfl
    · have c6 := cd false (nd (by decide))
      have c7 := f_blanksI (T0 := T0) (w - x) (by omega) (by omega)
      have c8 := lay (w - x).toNat (by omega)
      have c9 : True := trivial
      rw [show chg 7 = true from rfl] at c5
      show AP _ _ _ _ (tupA [belA w h (layB w.toNat l (y.toNat * w.toNat + x.toNat) (List.replicate (w.toNat - x.toNat) (32, 0))) X Y Z true, I 0])
      rw [show w.toNat - x.toNat = (w - x).toNat by omega]
      generalize layB w.toNat l (y.toNat * w.toNat + x.toNat) (List.replicate (w - x).toNat (32, 0)) = L at *
      clear lay cd hri hat
      refine af_intro Tryz.func5 rfl (by decide) Tryz.ntmps5 rfl ?_
      repeat' (first
      | fail
      | refine s_y ?_
        | refine c_ ?_
        | (refine aw_if ?_ ?_ <;> intro hb <;> try (exfalso; first | assumption | omega | (simp only [or_self, and_self, not_true_eq_false, not_false_eq_true, or_false, false_or, and_false, false_and, true_and, and_true] at hb; first | done | omega)))
        | refine s_call ?_ (c := by first | exact c1 | exact c2 | exact c3 | exact c4 | exact c5 | exact c6 | exact c7 | exact c8 | exact c9 | fail)
        | refine s_op ?_ (hy := by first | fail | fail)
        | refine s_yg ?_
        | refine s_callg ?_ (c := by intro hk hk2; first | exact c1 | exact c2 | exact c3 | exact c4 | exact c5 | exact c6 | exact c7 | exact c8 | exact c9 | fail)
        | refine s_opg ?_ (hy := by intro hk hk2; first | fail | fail)
        | refine s_skip ?_
        | ((first | refine w_alloc ?_ | refine w_box ?_) <;> intro bb)
        | ((first | refine w_emp ?_ | refine w_make ?_ | refine w_app ?_) <;> intro u hu1 hu2)
        | refine w_stv ?_ | refine w_str ?_ | refine w_cpr ?_ | refine w_cps ?_
        | refine al_last (by kernel_rfl) ?_
      | fail)
      all_goals first | (exfalso; simp at hb; done) | exact ⟨_, [], rl_, List.nil_sublist _, Sub.refl _, rfl⟩ | exact ⟨_, [], rl_, List.nil_sublist _, sub_noB2, rfl⟩ | (exfalso; simp_all; done) | skip
    · have c6 := cd false (nd (by decide))
      have hwh : 0 ≤ w * h ∧ w * h ≤ 1920 := by omega
      have hge : y * w + x ≤ w * h := by
        have := hl3; have := hat; omega
      have c7 := f_blanksI (T0 := T0) (w * h - (y * w + x)) (by omega) (by omega)
      have c8 := lay (w * h - (y * w + x)).toNat (by omega)
      have c9 : True := trivial
      rw [show chg 8 = true from rfl] at c5
      show AP _ _ _ _ (tupA [belA w h (layB w.toNat l (y.toNat * w.toNat + x.toNat) (List.replicate (l.length - (y.toNat * w.toNat + x.toNat)) (32, 0))) X Y Z true, I 0])
      rw [show l.length - (y.toNat * w.toNat + x.toNat) = (w * h - (y * w + x)).toNat by omega]
      generalize layB w.toNat l (y.toNat * w.toNat + x.toNat) (List.replicate (w * h - (y * w + x)).toNat (32, 0)) = L at *
      clear lay cd hri hat
      refine af_intro Tryz.func5 rfl (by decide) Tryz.ntmps5 rfl ?_
      repeat' (first
      | fail
      | refine s_y ?_
        | refine c_ ?_
        | (refine aw_if ?_ ?_ <;> intro hb <;> try (exfalso; first | assumption | omega | (simp only [or_self, and_self, not_true_eq_false, not_false_eq_true, or_false, false_or, and_false, false_and, true_and, and_true] at hb; first | done | omega)))
        | refine s_call ?_ (c := by first | exact c1 | exact c2 | exact c3 | exact c4 | exact c5 | exact c6 | exact c7 | exact c8 | exact c9 | fail)
        | refine s_op ?_ (hy := by first | fail | fail)
        | refine s_yg ?_
        | refine s_callg ?_ (c := by intro hk hk2; first | exact c1 | exact c2 | exact c3 | exact c4 | exact c5 | exact c6 | exact c7 | exact c8 | exact c9 | fail)
        | refine s_opg ?_ (hy := by intro hk hk2; first | fail | fail)
        | refine s_skip ?_
        | ((first | refine w_alloc ?_ | refine w_box ?_) <;> intro bb)
        | ((first | refine w_emp ?_ | refine w_make ?_ | refine w_app ?_) <;> intro u hu1 hu2)
        | refine w_stv ?_ | refine w_str ?_ | refine w_cpr ?_ | refine w_cps ?_
        | refine al_last (by kernel_rfl) ?_
      | fail)
      all_goals first | (exfalso; simp at hb; done) | exact ⟨_, [], rl_, List.nil_sublist _, Sub.refl _, rfl⟩ | exact ⟨_, [], rl_, List.nil_sublist _, sub_noB2, rfl⟩ | (exfalso; simp_all; done) | skip
    · have c6 := cd false (nd (by decide))
      have c7 : True := trivial
      have c8 : True := trivial
      have c9 : True := trivial
      rw [show chg 9 = false from rfl] at c5
      show AP _ _ _ _ (tupA [belA w h l X Y Z true, I 0])
      refine af_intro Tryz.func5 rfl (by decide) Tryz.ntmps5 rfl ?_
      repeat' (first
      | fail
      | refine s_y ?_
        | refine c_ ?_
        | (refine aw_if ?_ ?_ <;> intro hb <;> try (exfalso; first | assumption | omega | (simp only [or_self, and_self, not_true_eq_false, not_false_eq_true, or_false, false_or, and_false, false_and, true_and, and_true] at hb; first | done | omega)))
        | refine s_call ?_ (c := by first | exact c1 | exact c2 | exact c3 | exact c4 | exact c5 | exact c6 | exact c7 | exact c8 | exact c9 | fail)
        | refine s_op ?_ (hy := by first | fail | fail)
        | refine s_yg ?_
        | refine s_callg ?_ (c := by intro hk hk2; first | exact c1 | exact c2 | exact c3 | exact c4 | exact c5 | exact c6 | exact c7 | exact c8 | exact c9 | fail)
        | refine s_opg ?_ (hy := by intro hk hk2; first | fail | fail)
        | refine s_skip ?_
        | ((first | refine w_alloc ?_ | refine w_box ?_) <;> intro bb)
        | ((first | refine w_emp ?_ | refine w_make ?_ | refine w_app ?_) <;> intro u hu1 hu2)
        | refine w_stv ?_ | refine w_str ?_ | refine w_cpr ?_ | refine w_cps ?_
        | refine al_last (by kernel_rfl) ?_
      | fail)
      all_goals first | (exfalso; simp at hb; done) | exact ⟨_, [], rl_, List.nil_sublist _, Sub.refl _, rfl⟩ | exact ⟨_, [], rl_, List.nil_sublist _, sub_noB2, rfl⟩ | (exfalso; simp_all; done) | skip
    · have c8 : True := trivial
      have c9 : True := trivial
      have c6 := cd true (by simp [goesDown])
      rw [show chg 10 = true from rfl] at c5
      show AP _ _ _ _ (tupA [belA w h (if y.toNat + 1 < h.toNat then l else upB w.toNat l) X Y Z true, I 0])
      by_cases e2 : y = h - 1
      · rw [if_neg (by omega)]
        rw [show decide (y = h - 1) = true from decide_eq_true e2, Bool.and_true] at c6
        have c7 := f_scrolls (T0 := T0) w h l x y b true (by omega) (by rw [hl3]; exact Nat.le_mul_of_pos_right _ (by omega)) (by omega)
        generalize upB w.toNat l = L1 at *
        refine af_intro Tryz.func5 rfl (by decide) Tryz.ntmps5 rfl ?_
        repeat' (first
        | fail
        | refine s_y ?_
          | refine c_ ?_
          | (refine aw_if ?_ ?_ <;> intro hb <;> try (exfalso; first | assumption | omega | (simp only [or_self, and_self, not_true_eq_false, not_false_eq_true, or_false, false_or, and_false, false_and, true_and, and_true] at hb; first | done | omega)))
          | refine s_call ?_ (c := by first | exact c1 | exact c2 | exact c3 | exact c4 | exact c5 | exact c6 | exact c7 | exact c8 | exact c9 | fail)
          | refine s_op ?_ (hy := by first | fail | fail)
          | refine s_yg ?_
          | refine s_callg ?_ (c := by intro hk hk2; first | exact c1 | exact c2 | exact c3 | exact c4 | exact c5 | exact c6 | exact c7 | exact c8 | exact c9 | fail)
          | refine s_opg ?_ (hy := by intro hk hk2; first | fail | fail)
          | refine s_skip ?_
          | ((first | refine w_alloc ?_ | refine w_box ?_) <;> intro bb)
          | ((first | refine w_emp ?_ | refine w_make ?_ | refine w_app ?_) <;> intro u hu1 hu2)
          | refine w_stv ?_ | refine w_str ?_ | refine w_cpr ?_ | refine w_cps ?_
          | refine al_last (by kernel_rfl) ?_
        | fail)
        all_goals first | (exfalso; simp at hb; done) | exact ⟨_, [], rl_, List.nil_sublist _, Sub.refl _, rfl⟩ | exact ⟨_, [], rl_, List.nil_sublist _, sub_noB2, rfl⟩ | (exfalso; simp_all; done) | skip
      · rw [if_pos (by omega)]
        rw [show decide (y = h - 1) = false from decide_eq_false e2, Bool.and_false] at c6
        have c7 : True := trivial
        refine af_intro Tryz.func5 rfl (by decide) Tryz.ntmps5 rfl ?_
        repeat' (first
        | fail
        | refine s_y ?_
          | refine c_ ?_
          | (refine aw_if ?_ ?_ <;> intro hb <;> try (exfalso; first | assumption | omega | (simp only [or_self, and_self, not_true_eq_false, not_false_eq_true, or_false, false_or, and_false, false_and, true_and, and_true] at hb; first | done | omega)))
          | refine s_call ?_ (c := by first | exact c1 | exact c2 | exact c3 | exact c4 | exact c5 | exact c6 | exact c7 | exact c8 | exact c9 | fail)
          | refine s_op ?_ (hy := by first | fail | fail)
          | refine s_yg ?_
          | refine s_callg ?_ (c := by intro hk hk2; first | exact c1 | exact c2 | exact c3 | exact c4 | exact c5 | exact c6 | exact c7 | exact c8 | exact c9 | fail)
          | refine s_opg ?_ (hy := by intro hk hk2; first | fail | fail)
          | refine s_skip ?_
          | ((first | refine w_alloc ?_ | refine w_box ?_) <;> intro bb)
          | ((first | refine w_emp ?_ | refine w_make ?_ | refine w_app ?_) <;> intro u hu1 hu2)
          | refine w_stv ?_ | refine w_str ?_ | refine w_cpr ?_ | refine w_cps ?_
          | refine al_last (by kernel_rfl) ?_
        | fail)
        all_goals first | (exfalso; simp at hb; done) | exact ⟨_, [], rl_, List.nil_sublist _, Sub.refl _, rfl⟩ | exact ⟨_, [], rl_, List.nil_sublist _, sub_noB2, rfl⟩ | (exfalso; simp_all; done) | skip
    · have c6 := cd false (nd (by decide))
      have c7 : True := trivial
      have c8 : True := trivial
      have c9 : True := trivial
      rw [show chg 11 = false from rfl] at c5
      show AP _ _ _ _ (tupA [belA w h l X Y Z true, I 0])
      refine af_intro Tryz.func5 rfl (by decide) Tryz.ntmps5 rfl ?_
      repeat' (first
      | fail
      | refine s_y ?_
        | refine c_ ?_
        | (refine aw_if ?_ ?_ <;> intro hb <;> try (exfalso; first | assumption | omega | (simp only [or_self, and_self, not_true_eq_false, not_false_eq_true, or_false, false_or, and_false, false_and, true_and, and_true] at hb; first | done | omega)))
        | refine s_call ?_ (c := by first | exact c1 | exact c2 | exact c3 | exact c4 | exact c5 | exact c6 | exact c7 | exact c8 | exact c9 | fail)
        | refine s_op ?_ (hy := by first | fail | fail)
        | refine s_yg ?_
        | refine s_callg ?_ (c := by intro hk hk2; first | exact c1 | exact c2 | exact c3 | exact c4 | exact c5 | exact c6 | exact c7 | exact c8 | exact c9 | fail)
        | refine s_opg ?_ (hy := by intro hk hk2; first | fail | fail)
        | refine s_skip ?_
        | ((first | refine w_alloc ?_ | refine w_box ?_) <;> intro bb)
        | ((first | refine w_emp ?_ | refine w_make ?_ | refine w_app ?_) <;> intro u hu1 hu2)
        | refine w_stv ?_ | refine w_str ?_ | refine w_cpr ?_ | refine w_cps ?_
        | refine al_last (by kernel_rfl) ?_
      | fail)
      all_goals first | (exfalso; simp at hb; done) | exact ⟨_, [], rl_, List.nil_sublist _, Sub.refl _, rfl⟩ | exact ⟨_, [], rl_, List.nil_sublist _, sub_noB2, rfl⟩ | (exfalso; simp_all; done) | skip
    · have c6 := cd false (nd (by decide))
      have c7 : True := trivial
      have c8 : True := trivial
      have c9 : True := trivial
      rw [show chg 12 = false from rfl] at c5
      show AP _ _ _ _ (tupA [belA w h l X Y Z true, I 0])
      refine af_intro Tryz.func5 rfl (by decide) Tryz.ntmps5 rfl ?_
      repeat' (first
      | fail
      | refine s_y ?_
        | refine c_ ?_
        | (refine aw_if ?_ ?_ <;> intro hb <;> try (exfalso; first | assumption | omega | (simp only [or_self, and_self, not_true_eq_false, not_false_eq_true, or_false, false_or, and_false, false_and, true_and, and_true] at hb; first | done | omega)))
        | refine s_call ?_ (c := by first | exact c1 | exact c2 | exact c3 | exact c4 | exact c5 | exact c6 | exact c7 | exact c8 | exact c9 | fail)
        | refine s_op ?_ (hy := by first | fail | fail)
        | refine s_yg ?_
        | refine s_callg ?_ (c := by intro hk hk2; first | exact c1 | exact c2 | exact c3 | exact c4 | exact c5 | exact c6 | exact c7 | exact c8 | exact c9 | fail)
        | refine s_opg ?_ (hy := by intro hk hk2; first | fail | fail)
        | refine s_skip ?_
        | ((first | refine w_alloc ?_ | refine w_box ?_) <;> intro bb)
        | ((first | refine w_emp ?_ | refine w_make ?_ | refine w_app ?_) <;> intro u hu1 hu2)
        | refine w_stv ?_ | refine w_str ?_ | refine w_cpr ?_ | refine w_cps ?_
        | refine al_last (by kernel_rfl) ?_
      | fail)
      all_goals first | (exfalso; simp at hb; done) | exact ⟨_, [], rl_, List.nil_sublist _, Sub.refl _, rfl⟩ | exact ⟨_, [], rl_, List.nil_sublist _, sub_noB2, rfl⟩ | (exfalso; simp_all; done) | skip
theorem f_ref27Do (w h : Int) (l : List Guess) (x y : Int) (b s : Bool) (c : Cmd) : AP Tryz.prog T0 5 [belA w h l x y b s, cmdA c] (tupA [blA (doB (w, h, l, x, y, b, s) c).1, I (doB (w, h, l, x, y, b, s) c).2]) := by
  have c6 : True := trivial
  have c7 : True := trivial
  have c8 : True := trivial
  have c9 : True := trivial
  by_cases hh : okBe w h l x y b s = true ∧ isCmd c = true
  · obtain ⟨hok, hc⟩ := hh
    have c1 : AP Tryz.prog T0 17 [belA w h l x y b s] (B true) := (f_ref27Is w h l x y b s).to (by rw [hok])
    have c2 : AP Tryz.prog T0 18 [cmdA c] (B true) := (f_ref05Is c).to (by rw [hc])
    by_cases q1 : s = false ∧ chg c.1 = true
    · have e : doB (w, h, l, x, y, b, s) c = newB w h := by unfold doB; rw [if_pos ⟨hok, hc⟩, if_pos q1]
      have hsd : sidesM w h = true := by
        obtain ⟨w, h, rfl, rfl, w2, w3, w4, w5, _⟩ := okBe_iff.1 hok
        simp [sidesM]; omega
      rw [e]
      obtain ⟨rfl, q1⟩ := q1
      have c3 := f_unsure (T0 := T0) w h l x y b false
      have c4 : True := trivial
      have c5 : AP Tryz.prog T0 19 [I c.1] (B true) := (f_ref27changes c.1).to (by rw [q1])
      have e2 : (newB w h).2 = 0 := by rw [newB, if_pos hsd]
      rw [e2]
      generalize (newB w h).1 = z at *
      obtain ⟨z1, z2, z3, z4, z5, z6, z7⟩ := z
      obtain ⟨k, a, d, r⟩ := c
      refine af_intro Tryz.func5 rfl (by decide) Tryz.ntmps5 rfl ?_
      repeat' (first
      | fail
      | refine s_y ?_
        | refine c_ ?_
        | (refine aw_if ?_ ?_ <;> intro hb <;> try (exfalso; first | assumption | omega | (simp only [or_self, and_self, not_true_eq_false, not_false_eq_true, or_false, false_or, and_false, false_and, true_and, and_true] at hb; first | done | omega)))
        | refine s_call ?_ (c := by first | exact c1 | exact c2 | exact c3 | exact c4 | exact c5 | exact c6 | exact c7 | exact c8 | exact c9 | fail)
        | refine s_op ?_ (hy := by first | fail | fail)
        | refine s_yg ?_
        | refine s_callg ?_ (c := by intro hk hk2; first | exact c1 | exact c2 | exact c3 | exact c4 | exact c5 | exact c6 | exact c7 | exact c8 | exact c9 | fail)
        | refine s_opg ?_ (hy := by intro hk hk2; first | fail | fail)
        | refine s_skip ?_
        | ((first | refine w_alloc ?_ | refine w_box ?_) <;> intro bb)
        | ((first | refine w_emp ?_ | refine w_make ?_ | refine w_app ?_) <;> intro u hu1 hu2)
        | refine w_stv ?_ | refine w_str ?_ | refine w_cpr ?_ | refine w_cps ?_
        | refine al_last (by kernel_rfl) ?_
      | fail)
      all_goals first | (exfalso; simp at hb; done) | exact ⟨_, [], rl_, List.nil_sublist _, Sub.refl _, rfl⟩ | exact ⟨_, [], rl_, List.nil_sublist _, sub_noB2, rfl⟩ | (exfalso; simp_all; done) | skip
    · have c3 : True := trivial
      have c4 : True := trivial
      by_cases q2 : s = false ∧ c.1 ≠ 2
      · have e : doB (w, h, l, x, y, b, s) c = ((w, h, l, x, y, b, s), 0) := by unfold doB; rw [if_pos ⟨hok, hc⟩, if_neg q1, if_pos (.inl q2)]
        rw [e]
        obtain ⟨rfl, q2⟩ := q2
        have c5 : AP Tryz.prog T0 19 [I c.1] (B false) := (f_ref27changes c.1).to (by rw [show chg c.1 = false by simpa using q1])
        obtain ⟨k, a, d, r⟩ := c
        refine af_intro Tryz.func5 rfl (by decide) Tryz.ntmps5 rfl ?_
        repeat' (first
        | fail
        | refine s_y ?_
          | refine c_ ?_
          | (refine aw_if ?_ ?_ <;> intro hb <;> try (exfalso; first | assumption | omega | (simp only [or_self, and_self, not_true_eq_false, not_false_eq_true, or_false, false_or, and_false, false_and, true_and, and_true] at hb; first | done | omega)))
          | refine s_call ?_ (c := by first | exact c1 | exact c2 | exact c3 | exact c4 | exact c5 | exact c6 | exact c7 | exact c8 | exact c9 | fail)
          | refine s_op ?_ (hy := by first | fail | fail)
          | refine s_yg ?_
          | refine s_callg ?_ (c := by intro hk hk2; first | exact c1 | exact c2 | exact c3 | exact c4 | exact c5 | exact c6 | exact c7 | exact c8 | exact c9 | fail)
          | refine s_opg ?_ (hy := by intro hk hk2; first | fail | fail)
          | refine s_skip ?_
          | ((first | refine w_alloc ?_ | refine w_box ?_) <;> intro bb)
          | ((first | refine w_emp ?_ | refine w_make ?_ | refine w_app ?_) <;> intro u hu1 hu2)
          | refine w_stv ?_ | refine w_str ?_ | refine w_cpr ?_ | refine w_cps ?_
          | refine al_last (by kernel_rfl) ?_
        | fail)
        all_goals first | (exfalso; simp at hb; done) | exact ⟨_, [], rl_, List.nil_sublist _, Sub.refl _, rfl⟩ | exact ⟨_, [], rl_, List.nil_sublist _, sub_noB2, rfl⟩ | (exfalso; simp_all; done) | skip
      · have key := f_ref27DoK (T0 := T0) w h l x y b s c.1 c.2.1 c.2.2.1 c.2.2.2 hok hc (by
          cases s with
          | true => exact .inl rfl
          | false => exact .inr (Classical.byContradiction fun z => q2 ⟨rfl, z⟩))
        have e : doB (w, h, l, x, y, b, s) c = (doBK w h l x y b c, 0) := by
          unfold doB; rw [if_pos ⟨hok, hc⟩, if_neg q1]
          by_cases q3 : (s = false ∧ c.1 ≠ 2) ∨ c.1 = 12
          · rw [if_pos q3]
            have q4 : c.1 = 12 := by rcases q3 with q | q; exact absurd q q2; exact q
            have hs : s = true := by
              cases s with
              | true => rfl
              | false => exact absurd ⟨rfl, by rw [q4]; decide⟩ q2
            subst hs
            rcases cmd_ways hc with ⟨r, rfl, hr⟩ | ⟨a, d, rfl, ha⟩ | ⟨k, a, rfl, hk, ha⟩ | ⟨k, rfl, hk⟩
            · simp at q4
            · simp at q4
            · simp only at q4; omega
            · simp only at q4; subst q4; rfl
          · rw [if_neg q3]
        rw [e]; exact key
  · rw [doB_no hh]
    have c3 : True := trivial
    have c4 : True := trivial
    have c5 : True := trivial
    show AP _ _ _ _ (tupA [blA noB, I 1])
    cases e1 : okBe w h l x y b s with
    | false =>
      have c1 : AP Tryz.prog T0 17 [belA w h l x y b s] (B false) := (f_ref27Is w h l x y b s).to (by rw [e1])
      have c2 := f_ref05Is (T0 := T0) c
      refine af_intro Tryz.func5 rfl (by decide) Tryz.ntmps5 rfl ?_
      repeat' (first
      | fail
      | refine s_y ?_
        | refine c_ ?_
        | (refine aw_if ?_ ?_ <;> intro hb <;> try (exfalso; first | assumption | omega | (simp only [or_self, and_self, not_true_eq_false, not_false_eq_true, or_false, false_or, and_false, false_and, true_and, and_true] at hb; first | done | omega)))
        | refine s_call ?_ (c := by first | exact c1 | exact c2 | exact c3 | exact c4 | exact c5 | exact c6 | exact c7 | exact c8 | exact c9 | fail)
        | refine s_op ?_ (hy := by first | fail | fail)
        | refine s_yg ?_
        | refine s_callg ?_ (c := by intro hk hk2; first | exact c1 | exact c2 | exact c3 | exact c4 | exact c5 | exact c6 | exact c7 | exact c8 | exact c9 | fail)
        | refine s_opg ?_ (hy := by intro hk hk2; first | fail | fail)
        | refine s_skip ?_
        | ((first | refine w_alloc ?_ | refine w_box ?_) <;> intro bb)
        | ((first | refine w_emp ?_ | refine w_make ?_ | refine w_app ?_) <;> intro u hu1 hu2)
        | refine w_stv ?_ | refine w_str ?_ | refine w_cpr ?_ | refine w_cps ?_
        | refine al_last (by kernel_rfl) ?_
      | fail)
      all_goals first | (exfalso; simp at hb; done) | exact ⟨_, [], rl_, List.nil_sublist _, Sub.refl _, rfl⟩ | exact ⟨_, [], rl_, List.nil_sublist _, sub_noB2, rfl⟩ | (exfalso; simp_all; done) | skip
    | true =>
      have e2 : isCmd c = false := by
        cases e : isCmd c with
        | false => rfl
        | true => exact absurd ⟨e1, e⟩ hh
      have c1 : AP Tryz.prog T0 17 [belA w h l x y b s] (B true) := (f_ref27Is w h l x y b s).to (by rw [e1])
      have c2 : AP Tryz.prog T0 18 [cmdA c] (B false) := (f_ref05Is c).to (by rw [e2])
      refine af_intro Tryz.func5 rfl (by decide) Tryz.ntmps5 rfl ?_
      repeat' (first
      | fail
      | refine s_y ?_
        | refine c_ ?_
        | (refine aw_if ?_ ?_ <;> intro hb <;> try (exfalso; first | assumption | omega | (simp only [or_self, and_self, not_true_eq_false, not_false_eq_true, or_false, false_or, and_false, false_and, true_and, and_true] at hb; first | done | omega)))
        | refine s_call ?_ (c := by first | exact c1 | exact c2 | exact c3 | exact c4 | exact c5 | exact c6 | exact c7 | exact c8 | exact c9 | fail)
        | refine s_op ?_ (hy := by first | fail | fail)
        | refine s_yg ?_
        | refine s_callg ?_ (c := by intro hk hk2; first | exact c1 | exact c2 | exact c3 | exact c4 | exact c5 | exact c6 | exact c7 | exact c8 | exact c9 | fail)
        | refine s_opg ?_ (hy := by intro hk hk2; first | fail | fail)
        | refine s_skip ?_
        | ((first | refine w_alloc ?_ | refine w_box ?_) <;> intro bb)
        | ((first | refine w_emp ?_ | refine w_make ?_ | refine w_app ?_) <;> intro u hu1 hu2)
        | refine w_stv ?_ | refine w_str ?_ | refine w_cpr ?_ | refine w_cps ?_
        | refine al_last (by kernel_rfl) ?_
      | fail)
      all_goals first | (exfalso; simp at hb; done) | exact ⟨_, [], rl_, List.nil_sublist _, Sub.refl _, rfl⟩ | exact ⟨_, [], rl_, List.nil_sublist _, sub_noB2, rfl⟩ | (exfalso; simp_all; done) | skip
end Go.Proofs.YtockidoncngdbaaGreatDoor
