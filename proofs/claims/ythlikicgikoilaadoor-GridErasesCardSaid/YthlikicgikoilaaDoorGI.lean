/- Layer 3 (grid): what was put is there, what was blanked is blank, and all else stays. No condition. -/
import Derived.Test.YthlikicgikoilaaDoorGH
import Derived.Test.YthlikicgikoilaaDoorAL
namespace Go.Proofs.YthlikicgikoilaaDoor
set_option linter.unusedSimpArgs false
set_option linter.unusedVariables false
set_option maxHeartbeats 4000000
open Go Go.RowKit
set_option maxRecDepth 100000
theorem lay_in {w h : Nat} {l : List Cell} {a : Nat} {cs : List Cell} (hok : okG w h l = true) (hac : a + cs.length ≤ l.length) (i : Nat) :
    (a ≤ i → i < a + cs.length → cAt (layG l a cs) i = cAt cs (i - a)) ∧ (i < a ∨ a + cs.length ≤ i → cAt (layG l a cs) i = cAt l i ∨ ((i + 1 = a ∨ i = a + cs.length) ∧ cAt (layG l a cs) i = (32, 0))) := by
  obtain ⟨w', h', e1, e2, h1, h2, h3, h4, hlen, hall⟩ := okG_nat hok
  obtain rfl : w = w' := by omega
  obtain rfl : h = h' := by omega
  by_cases hcs : cs = []
  · subst hcs
    exact ⟨fun p q => absurd q (by simp; omega), fun _ => .inl (by simp [layG])⟩
  have hp := List.length_pos_iff.2 hcs
  have hat := layG_at hcs hac (fun k => ok_left (hall a (by omega)).2 k) (fun k => by have := ok_right (by omega) h3 hlen (by omega) (hall (a + cs.length - 1) (by omega)).2 k; omega) i
  refine ⟨fun p q => by rw [hat, if_neg (by omega), if_pos q], fun p => ?_⟩
  by_cases q : i < a
  · rw [if_pos q] at hat
    by_cases q2 : i + 1 = a ∧ (cAt l a).2 = 2
    · rw [if_pos q2] at hat; exact .inr ⟨.inl q2.1, hat⟩
    · rw [if_neg q2] at hat; exact .inl hat
  · rw [if_neg q, if_neg (by omega)] at hat
    by_cases q2 : i = a + cs.length ∧ (cAt l (a + cs.length - 1)).2 = 1
    · rw [if_pos q2] at hat; exact .inr ⟨.inr q2.1, hat⟩
    · rw [if_neg q2] at hat; exact .inl hat
theorem lay_twice {w h : Nat} {l : List Cell} {a n : Nat} (hok : okG w h l = true) (hac : a + n ≤ l.length) : layG (layG l a (List.replicate n (32, 0))) a (List.replicate n (32, 0)) = layG l a (List.replicate n (32, 0)) := by
  have hac1 : a + (List.replicate n ((32, 0) : Cell)).length ≤ l.length := by simpa using hac
  have hl1 := layG_len hac1
  have hok1 := layG_ok w h l a _ hok hac1 (whole_rep _ _ _) (isCell_rep n)
  have hac2 : a + (List.replicate n ((32, 0) : Cell)).length ≤ (layG l a (List.replicate n (32, 0))).length := by rw [hl1]; exact hac1
  by_cases hn : n = 0
  · subst hn; simp [layG]
  obtain ⟨w', h', e1, e2, h1, h2, h3, h4, hlen, hall⟩ := okG_nat hok1
  obtain rfl : w = w' := by omega
  obtain rfl : h = h' := by omega
  have hcs : List.replicate n ((32, 0) : Cell) ≠ [] := by simp [hn]
  have hln : (List.replicate n ((32, 0) : Cell)).length = n := List.length_replicate
  have va := (lay_in hok hac1 a).1 (Nat.le_refl _) (by rw [hln]; omega)
  have vb := (lay_in hok hac1 (a + n - 1)).1 (by omega) (by rw [hln]; omega)
  rw [Nat.sub_self, cAt_rep (by omega)] at va
  rw [cAt_rep (by omega)] at vb
  apply cAt_ext (layG_len hac2)
  intro i hi
  rw [layG_at hcs hac2 (fun k => by rw [va] at k; simp at k) (fun k => by rw [hln, vb] at k; simp at k) i, hln, va, vb]
  by_cases q : i < a
  · rw [if_pos q, if_neg (fun x => by simp at x)]
  · rw [if_neg q]
    by_cases q2 : i < a + n
    · rw [if_pos q2, (lay_in hok hac1 i).1 (by omega) (by rw [hln]; omega)]
    · rw [if_neg q2, if_neg (fun x => by simp at x)]
attribute [local irreducible] thenA inBlockA AW AL AO QY varO rowO rsA Opd OpdN vA gvA tupA aggA slA slcA ipA rpA EqK LnK IxK LdK FaK FdK
theorem l_GridOnly (w h : Int) (l : List Cell) (x y r : Int) : AP Tryd.prog tab0 8 [gridA w h l, I x, I y, R r] (B true) := by
  by_cases hl : l.length ≤ 3000
  · by_cases hc : (okG w h l = true ∧ 0 ≤ x ∧ x < w ∧ 0 ≤ y ∧ y < h) ∧ shown r = true ∧ x + (cellsM r).length ≤ w
    · have hc' := hc
      obtain ⟨⟨hok, x1, x2, y1, y2⟩, hs, hx⟩ := hc
      obtain ⟨w, h, rfl, rfl, h1, h2, h3, h4, hlen, hall⟩ := okG_nat hok
      clear hall
      obtain ⟨x, rfl⟩ := Int.eq_ofNat_of_zero_le x1
      obtain ⟨y, rfl⟩ := Int.eq_ofNat_of_zero_le y1
      have hn := cellsM_len r
      have hp := cell_pos (w := w) (h := h) (x := x + (cellsM r).length - 1) (y := y) (by omega) (by omega)
      have hb := side_le h2 h4
      have m3 : (0 : Int) ≤ ((y * w : Nat) : Int) := Int.natCast_nonneg _
      have c1 : AP Tryd.prog tab0 19 [gridA w h l, I x, I y, R r] (tupA [gridA w h (layG l (y * w + x) (cellsM r)), I 0]) := (f_Put w h l x y r hl).to (by simp only [putR, if_pos hc', grid2, Int.toNat_natCast])
      have c2 : True := trivial
      have hlay := fun i => lay_in (i := i) hok (show y * w + x + (cellsM r).length ≤ l.length by omega)
      have hll : (layG l (y * w + x) (cellsM r)).length = l.length := layG_len (by omega)
      generalize layG l (y * w + x) (cellsM r) = a at *
      refine af_intro Tryd.func8 rfl (by decide) Tryd.ntmps8 rfl ?_
      repeat' (first
      | fail
      | refine s_y ?_
        | refine c_ ?_
        | (refine aw_if ?_ ?_ <;> intro hb <;> try (exfalso; first | assumption | omega))
        | refine s_call ?_ (c := by first | exact f_gridded | exact f_big _ _ _ | exact c1 | exact c2 | exact f_Cells _ | exact f_ref02Same _ _ | fail)
        | refine s_op ?_ (hy := by first | fail | fail)
        | refine s_yg ?_
        | refine s_callg ?_ (c := by intro hk hk2; first | exact f_gridded | exact f_big _ _ _ | exact c1 | exact c2 | exact f_Cells _ | exact f_ref02Same _ _ | fail)
        | refine s_opg ?_ (hy := by intro hk hk2; first | fail | fail)
        | refine s_skip ?_
        | ((first | refine w_alloc ?_ | refine w_box ?_) <;> intro bb)
        | ((first | refine w_emp ?_ | refine w_make ?_ | refine w_app ?_) <;> intro u hu1 hu2)
        | refine w_stv ?_ | refine w_str ?_ | refine w_cpr ?_ | refine w_cps ?_
        | refine al_last (by kernel_rfl) ?_
      | refine w_fzg ?_
      | fail)
      all_goals first | exact ⟨_, [], rs_, List.nil_sublist _, Sub.refl _, rfl⟩ | (exfalso; simp at hb; done) | (exfalso; omega) | skip
      refine aw_lf (fun k : Nat => [(13, I k)]) (fun k => k ≤ a.length) (fun k => a.length - k) 0 (Nat.zero_le _) ?_
      rintro k i1
      obtain ⟨la, lb⟩ := hlay k
      by_cases hlt : k < a.length
      · by_cases hin : y * w + x ≤ k ∧ k < y * w + x + (cellsM r).length
        · have hv := la hin.1 hin.2
          have ha := c_in (l := a) (i := k) hlt
          have hcs := c_in (l := cellsM r) (i := k - (y * w + x)) (by omega)
          rw [show k - (y * w + x) = k - y * w - x by omega] at hcs hv
          have hmw : y * w ≤ k := by omega
          repeat' (first
          | fail
          | refine s_y ?_
            | refine c_ ?_
            | (refine aw_if ?_ ?_ <;> intro hb <;> try (exfalso; first | assumption | omega))
            | refine s_call ?_ (c := by first | exact f_gridded | exact f_big _ _ _ | exact c1 | exact c2 | exact f_Cells _ | exact f_ref02Same _ _ | fail)
            | refine s_op ?_ (hy := by first | fail | fail)
            | refine s_yg ?_
            | refine s_callg ?_ (c := by intro hk hk2; first | exact f_gridded | exact f_big _ _ _ | exact c1 | exact c2 | exact f_Cells _ | exact f_ref02Same _ _ | fail)
            | refine s_opg ?_ (hy := by intro hk hk2; first | fail | fail)
            | refine s_skip ?_
            | ((first | refine w_alloc ?_ | refine w_box ?_) <;> intro bb)
            | ((first | refine w_emp ?_ | refine w_make ?_ | refine w_app ?_) <;> intro u hu1 hu2)
            | refine w_stv ?_ | refine w_str ?_ | refine w_cpr ?_ | refine w_cps ?_
            | refine al_last (by kernel_rfl) ?_
          | refine w_fzg ?_
          | fail)
          all_goals first | (exfalso; omega) | skip
          · exfalso; apply hb; exact hv
          · exact ⟨k + 1, by omega, by omega, wx_, List.Sublist.refl _⟩
        · have hv := lb (by omega)
          have ha := c_in (l := a) (i := k) hlt
          have hg := c_in (l := l) (i := k) (by omega)
          by_cases hmw : y * w ≤ k
          · repeat' (first
            | fail
            | refine s_y ?_
              | refine c_ ?_
              | (refine aw_if ?_ ?_ <;> intro hb <;> try (exfalso; first | assumption | omega))
              | refine s_call ?_ (c := by first | exact f_gridded | exact f_big _ _ _ | exact c1 | exact c2 | exact f_Cells _ | exact f_ref02Same _ _ | fail)
              | refine s_op ?_ (hy := by first | fail | fail)
              | refine s_yg ?_
              | refine s_callg ?_ (c := by intro hk hk2; first | exact f_gridded | exact f_big _ _ _ | exact c1 | exact c2 | exact f_Cells _ | exact f_ref02Same _ _ | fail)
              | refine s_opg ?_ (hy := by intro hk hk2; first | fail | fail)
              | refine s_skip ?_
              | ((first | refine w_alloc ?_ | refine w_box ?_) <;> intro bb)
              | ((first | refine w_emp ?_ | refine w_make ?_ | refine w_app ?_) <;> intro u hu1 hu2)
              | refine w_stv ?_ | refine w_str ?_ | refine w_cpr ?_ | refine w_cps ?_
              | refine al_last (by kernel_rfl) ?_
            | refine w_fzg ?_
            | fail)
            all_goals first | (exfalso; omega) | skip
            · exfalso
              obtain ⟨q1, q2⟩ := hb
              rcases hv with hv | ⟨hv1, hv2⟩
              · exact q1 hv
              · rcases q2 with ⟨q2, q3⟩ | q2
                · omega
                · exact q2 hv2
            · exact ⟨k + 1, by omega, by omega, wx_, List.Sublist.refl _⟩
          · repeat' (first
            | fail
            | refine s_y ?_
              | refine c_ ?_
              | (refine aw_if ?_ ?_ <;> intro hb <;> try (exfalso; first | assumption | omega))
              | refine s_call ?_ (c := by first | exact f_gridded | exact f_big _ _ _ | exact c1 | exact c2 | exact f_Cells _ | exact f_ref02Same _ _ | fail)
              | refine s_op ?_ (hy := by first | fail | fail)
              | refine s_yg ?_
              | refine s_callg ?_ (c := by intro hk hk2; first | exact f_gridded | exact f_big _ _ _ | exact c1 | exact c2 | exact f_Cells _ | exact f_ref02Same _ _ | fail)
              | refine s_opg ?_ (hy := by intro hk hk2; first | fail | fail)
              | refine s_skip ?_
              | ((first | refine w_alloc ?_ | refine w_box ?_) <;> intro bb)
              | ((first | refine w_emp ?_ | refine w_make ?_ | refine w_app ?_) <;> intro u hu1 hu2)
              | refine w_stv ?_ | refine w_str ?_ | refine w_cpr ?_ | refine w_cps ?_
              | refine al_last (by kernel_rfl) ?_
            | refine w_fzg ?_
            | fail)
            all_goals first | (exfalso; omega) | skip
            · exfalso
              obtain ⟨q1, q2⟩ := hb
              rcases hv with hv | ⟨hv1, hv2⟩
              · exact q1 hv
              · rcases q2 with ⟨q2, q3⟩ | q2
                · omega
                · exact q2 hv2
            · exact ⟨k + 1, by omega, by omega, wx_, List.Sublist.refl _⟩
      · repeat' (first
        | fail
        | refine s_y ?_
          | refine c_ ?_
          | (refine aw_if ?_ ?_ <;> intro hb <;> try (exfalso; first | assumption | omega))
          | refine s_call ?_ (c := by first | exact f_gridded | exact f_big _ _ _ | exact c1 | exact c2 | exact f_Cells _ | exact f_ref02Same _ _ | fail)
          | refine s_op ?_ (hy := by first | fail | fail)
          | refine s_yg ?_
          | refine s_callg ?_ (c := by intro hk hk2; first | exact f_gridded | exact f_big _ _ _ | exact c1 | exact c2 | exact f_Cells _ | exact f_ref02Same _ _ | fail)
          | refine s_opg ?_ (hy := by intro hk hk2; first | fail | fail)
          | refine s_skip ?_
          | ((first | refine w_alloc ?_ | refine w_box ?_) <;> intro bb)
          | ((first | refine w_emp ?_ | refine w_make ?_ | refine w_app ?_) <;> intro u hu1 hu2)
          | refine w_stv ?_ | refine w_str ?_ | refine w_cpr ?_ | refine w_cps ?_
          | refine al_last (by kernel_rfl) ?_
        | refine w_fzg ?_
        | fail)
        exact ⟨_, [], rs_, List.nil_sublist _, Sub.refl _, rfl⟩
    · have c1 : AP Tryd.prog tab0 19 [gridA w h l, I x, I y, R r] (tupA [gridA 0 0 [], I 1]) := (f_Put w h l x y r hl).to (by simp only [putR, if_neg hc, grid2])
      have c2 : True := trivial
      refine af_intro Tryd.func8 rfl (by decide) Tryd.ntmps8 rfl ?_
      repeat' (first
      | fail
      | refine s_y ?_
        | refine c_ ?_
        | (refine aw_if ?_ ?_ <;> intro hb <;> try (exfalso; first | assumption | omega))
        | refine s_call ?_ (c := by first | exact f_gridded | exact f_big _ _ _ | exact c1 | exact c2 | exact f_Cells _ | exact f_ref02Same _ _ | fail)
        | refine s_op ?_ (hy := by first | fail | fail)
        | refine s_yg ?_
        | refine s_callg ?_ (c := by intro hk hk2; first | exact f_gridded | exact f_big _ _ _ | exact c1 | exact c2 | exact f_Cells _ | exact f_ref02Same _ _ | fail)
        | refine s_opg ?_ (hy := by intro hk hk2; first | fail | fail)
        | refine s_skip ?_
        | ((first | refine w_alloc ?_ | refine w_box ?_) <;> intro bb)
        | ((first | refine w_emp ?_ | refine w_make ?_ | refine w_app ?_) <;> intro u hu1 hu2)
        | refine w_stv ?_ | refine w_str ?_ | refine w_cpr ?_ | refine w_cps ?_
        | refine al_last (by kernel_rfl) ?_
      | refine w_fzg ?_
      | fail)
      all_goals first | exact ⟨_, [], rs_, List.nil_sublist _, Sub.refl _, rfl⟩ | (exfalso; simp at hb; done) | (exfalso; omega)
  · have c1 : True := trivial
    have c2 : True := trivial
    refine af_intro Tryd.func8 rfl (by decide) Tryd.ntmps8 rfl ?_
    repeat' (first
    | fail
    | refine s_y ?_
      | refine c_ ?_
      | (refine aw_if ?_ ?_ <;> intro hb <;> try (exfalso; first | assumption | omega))
      | refine s_call ?_ (c := by first | exact f_gridded | exact f_big _ _ _ | exact c1 | exact c2 | exact f_Cells _ | exact f_ref02Same _ _ | fail)
      | refine s_op ?_ (hy := by first | fail | fail)
      | refine s_yg ?_
      | refine s_callg ?_ (c := by intro hk hk2; first | exact f_gridded | exact f_big _ _ _ | exact c1 | exact c2 | exact f_Cells _ | exact f_ref02Same _ _ | fail)
      | refine s_opg ?_ (hy := by intro hk hk2; first | fail | fail)
      | refine s_skip ?_
      | ((first | refine w_alloc ?_ | refine w_box ?_) <;> intro bb)
      | ((first | refine w_emp ?_ | refine w_make ?_ | refine w_app ?_) <;> intro u hu1 hu2)
      | refine w_stv ?_ | refine w_str ?_ | refine w_cpr ?_ | refine w_cps ?_
      | refine al_last (by kernel_rfl) ?_
    | refine w_fzg ?_
    | fail)
    all_goals first | exact ⟨_, [], rs_, List.nil_sublist _, Sub.refl _, rfl⟩ | (exfalso; omega)
end Go.Proofs.YthlikicgikoilaaDoor
