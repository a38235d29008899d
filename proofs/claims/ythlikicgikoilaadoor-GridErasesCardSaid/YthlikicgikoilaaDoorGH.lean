/- Layer 3 (grid): what comes of a right grid is right. No condition. -/
import Derived.Test.YthlikicgikoilaaDoorGG
namespace Go.Proofs.YthlikicgikoilaaDoor
set_option linter.unusedSimpArgs false
set_option linter.unusedVariables false
set_option maxHeartbeats 4000000
open Go Go.RowKit
set_option maxRecDepth 100000
theorem putR_len (w h : Int) (l : List Cell) (x y r : Int) : (putR w h l x y r).1.2.2.length ≤ l.length := by
  unfold putR; split
  · rename_i hc
    obtain ⟨⟨hok, x1, x2, y1, y2⟩, hs, hx⟩ := hc
    obtain ⟨w', h', rfl, rfl, _, _, _, _, hlen, _⟩ := okG_nat hok
    have := cell_pos (w := w') (h := h') (x := x.toNat + (cellsM r).length - 1) (y := y.toNat) (by have := cellsM_len r; omega) (by omega)
    have h1 := cellsM_len r
    show (layG l (y.toNat * w' + x.toNat) (cellsM r)).length ≤ l.length
    rw [layG_len (by omega)]
    exact Nat.le_refl _
  · exact Nat.zero_le _
theorem putR_ok (w h : Int) (l : List Cell) (x y r : Int) (he : (putR w h l x y r).2 = 0) : okG (putR w h l x y r).1.1 (putR w h l x y r).1.2.1 (putR w h l x y r).1.2.2 = true := by
  unfold putR at he ⊢
  split at he
  · rename_i hc
    rw [if_pos hc]
    obtain ⟨⟨hok, x1, x2, y1, y2⟩, hs, hx⟩ := hc
    obtain ⟨w', h', rfl, rfl, _, _, _, _, hlen, _⟩ := okG_nat hok
    have h1 := cellsM_len r
    have := cell_pos (w := w') (h := h') (x := x.toNat + (cellsM r).length - 1) (y := y.toNat) (by omega) (by omega)
    show okG w' h' (layG l (y.toNat * w' + x.toNat) (cellsM r)) = true
    exact layG_ok w' h' l _ _ hok (by omega) (cells_whole w' _ _ r hs (by omega)) (isCell_cells hs)
  · simp at he
theorem blankR_len (w h : Int) (l : List Cell) (a b : Int) : (blankR w h l a b).1.2.2.length ≤ l.length := by
  unfold blankR; split
  · rename_i hc
    obtain ⟨hok, x1, x2, x3⟩ := hc
    show (layG l a.toNat (List.replicate (b - a).toNat (32, 0))).length ≤ l.length
    rw [layG_len (by rw [List.length_replicate]; omega)]
    exact Nat.le_refl _
  · exact Nat.zero_le _
theorem isCell_rep (n : Nat) : ∀ j, j < (List.replicate n ((32, 0) : Cell)).length → isCell (cAt (List.replicate n (32, 0)) j) = true := fun j hj => by
  rw [cAt_rep (by simpa using hj)]; exact isCell_blank
theorem blankR_ok (w h : Int) (l : List Cell) (a b : Int) (he : (blankR w h l a b).2 = 0) : okG (blankR w h l a b).1.1 (blankR w h l a b).1.2.1 (blankR w h l a b).1.2.2 = true := by
  unfold blankR at he ⊢
  split at he
  · rename_i hc
    rw [if_pos hc]
    obtain ⟨hok, x1, x2, x3⟩ := hc
    obtain ⟨w', h', rfl, rfl, _, _, _, _, hlen, _⟩ := okG_nat hok
    show okG w' h' (layG l a.toNat (List.replicate (b - a).toNat (32, 0))) = true
    exact layG_ok w' h' l _ _ hok (by rw [List.length_replicate]; omega) (whole_rep _ _ _) (isCell_rep _)
  · simp at he
theorem fitR_facts (w h : Int) (l : List Cell) (W H : Int) (hok : okG w h l = true) : (fitR w h l W H).1.2.2.length ≤ 3000 ∧ ((fitR w h l W H).2 = 0 → okG (fitR w h l W H).1.1 (fitR w h l W H).1.2.1 (fitR w h l W H).1.2.2 = true) ∧ (newR W H).1.2.2.length ≤ 3000 ∧ ((newR W H).2 = 0 → okG (newR W H).1.1 (newR W H).1.2.1 (newR W H).1.2.2 = true) ∧ (newR W H).2 = (fitR w h l W H).2 := by
  unfold fitR newR
  rw [if_pos hok]
  by_cases hs : sidesM W H = true
  · rw [if_pos hs, if_pos hs]
    obtain ⟨w, h, rfl, rfl, _⟩ := okG_nat hok
    obtain ⟨W, H, rfl, rfl, h1, h2, h3, h4⟩ := sides_nat hs
    have hb := side_le h2 h4
    refine ⟨?_, fun _ => fitK_ok w h l W H hok h1 h2 h3 h4, ?_, fun _ => newR_ok h1 h2 h3 h4, rfl⟩
    · show (fitK w h l W H (min H h)).length ≤ 3000
      rw [fitK_len]; omega
    · show (List.replicate (W * H) ((32, 0) : Cell)).length ≤ 3000
      rw [List.length_replicate]; omega
  · rw [if_neg hs, if_neg hs]
    refine ⟨Nat.zero_le _, fun e => ?_, Nat.zero_le _, fun e => ?_, rfl⟩ <;> simp at e
theorem scrollR_facts (w h : Int) (l : List Cell) (hok : okG w h l = true) : (scrollR w h l).length = l.length ∧ okG w h (scrollR w h l) = true := by
  obtain ⟨w', h', rfl, rfl, _, _, h3, _, hlen, _⟩ := okG_nat hok
  have hwl : w' ≤ l.length := by rw [hlen]; exact Nat.le_mul_of_pos_right w' h3
  rw [scrollR, if_pos hok, Int.toNat_natCast]
  exact ⟨by simp; omega, scroll_ok hok⟩
attribute [local irreducible] AW AL AO QY varO rowO rsA Opd OpdN vA gvA tupA aggA slA slcA ipA rpA EqK LnK IxK LdK FaK FdK
theorem l_GridStays (w h : Int) (l : List Cell) (x y r : Int) : AP Tryd.prog tab0 7 [gridA w h l, I x, I y, R r] (B true) := by
  by_cases hl : l.length ≤ 3000
  · by_cases hok : okG w h l = true
    · have c1 : AP Tryd.prog tab0 19 [gridA w h l, I x, I y, R r] (tupA [gridA (putR w h l x y r).1.1 (putR w h l x y r).1.2.1 (putR w h l x y r).1.2.2, I (putR w h l x y r).2]) := f_Put w h l x y r hl
      have c2 : AP Tryd.prog tab0 21 [gridA w h l, I x, I y] (tupA [gridA (blankR w h l x y).1.1 (blankR w h l x y).1.2.1 (blankR w h l x y).1.2.2, I (blankR w h l x y).2]) := f_Blank w h l x y hl
      have c3 : AP Tryd.prog tab0 25 [gridA w h l, I x, I y] (tupA [gridA (fitR w h l x y).1.1 (fitR w h l x y).1.2.1 (fitR w h l x y).1.2.2, I (fitR w h l x y).2]) := f_Fit w h x y l hl
      have c4 : AP Tryd.prog tab0 11 [I x, I y] (tupA [gridA (newR x y).1.1 (newR x y).1.2.1 (newR x y).1.2.2, I (newR x y).2]) := f_New x y
      have c5 : AP Tryd.prog tab0 23 [gridA w h l] (gridA w h (scrollR w h l)) := f_Scroll w h l hl
      have p1 := putR_len w h l x y r
      have p2 := putR_ok w h l x y r
      have b1 := blankR_len w h l x y
      have b2 := blankR_ok w h l x y
      obtain ⟨f1, f2, n1, n2, n3⟩ := fitR_facts w h l x y hok
      obtain ⟨s1, s2⟩ := scrollR_facts w h l hok
      generalize (putR w h l x y r).1.1 = pw at *
      generalize (putR w h l x y r).1.2.1 = ph at *
      generalize (putR w h l x y r).1.2.2 = pl at *
      generalize (putR w h l x y r).2 = pe at *
      generalize (blankR w h l x y).1.1 = bw at *
      generalize (blankR w h l x y).1.2.1 = bh at *
      generalize (blankR w h l x y).1.2.2 = bl at *
      generalize (blankR w h l x y).2 = be at *
      generalize (fitR w h l x y).1.1 = fw at *
      generalize (fitR w h l x y).1.2.1 = fh at *
      generalize (fitR w h l x y).1.2.2 = fl at *
      generalize (fitR w h l x y).2 = fe at *
      generalize (newR x y).1.1 = nw at *
      generalize (newR x y).1.2.1 = nh at *
      generalize (newR x y).1.2.2 = nl at *
      generalize (newR x y).2 = ne at *
      generalize scrollR w h l = sl at *
      refine af_intro Tryd.func7 rfl (by decide) Tryd.ntmps7 rfl ?_
      repeat' (first
      | fail
      | refine s_y ?_
        | refine c_ ?_
        | (refine aw_if ?_ ?_ <;> intro hb <;> try (exfalso; first | assumption | omega))
        | refine s_call ?_ (c := by first | exact f_gridded | exact f_big _ _ _ | exact f_Is _ _ _ (by omega) | exact c1 | exact c2 | exact c3 | exact c4 | exact c5 | fail)
        | refine s_op ?_ (hy := by first | fail | fail)
        | refine s_yg ?_
        | refine s_callg ?_ (c := by intro hk hk2; first | exact f_gridded | exact f_big _ _ _ | exact f_Is _ _ _ (by omega) | exact c1 | exact c2 | exact c3 | exact c4 | exact c5 | fail)
        | refine s_opg ?_ (hy := by intro hk hk2; first | fail | fail)
        | refine s_skip ?_
        | ((first | refine w_alloc ?_ | refine w_box ?_) <;> intro bb)
        | ((first | refine w_emp ?_ | refine w_make ?_ | refine w_app ?_) <;> intro u hu1 hu2)
        | refine w_stv ?_ | refine w_str ?_ | refine w_cpr ?_ | refine w_cps ?_
        | refine al_last (by kernel_rfl) ?_
      | fail)
      all_goals first | exact ⟨_, [], rs_, List.nil_sublist _, Sub.refl _, rfl⟩ | skip
      · exfalso
        rcases hb with (⟨q1, q2⟩ | ⟨q1, q2⟩) | ⟨q1, q2⟩
        · rw [p2 q1] at q2; cases q2
        · rw [b2 q1] at q2; cases q2
        · rw [f2 q1] at q2; cases q2
      · refine ⟨_, [], rs_, List.nil_sublist _, Sub.eq (congrArg B ?_), rfl⟩
        subst n3
        by_cases q : ne = 0
        · simp [hok, s2, q, n2 q]
        · simp [hok, s2, q]
    · have hok' : okG w h l = false := by simpa using hok
      have c1 : True := trivial
      have c2 : True := trivial
      have c3 : True := trivial
      have c4 : True := trivial
      have c5 : True := trivial
      refine af_intro Tryd.func7 rfl (by decide) Tryd.ntmps7 rfl ?_
      repeat' (first
      | fail
      | refine s_y ?_
        | refine c_ ?_
        | (refine aw_if ?_ ?_ <;> intro hb <;> try (exfalso; first | assumption | omega))
        | refine s_call ?_ (c := by first | exact f_gridded | exact f_big _ _ _ | exact f_Is _ _ _ (by omega) | exact c1 | exact c2 | exact c3 | exact c4 | exact c5 | fail)
        | refine s_op ?_ (hy := by first | fail | fail)
        | refine s_yg ?_
        | refine s_callg ?_ (c := by intro hk hk2; first | exact f_gridded | exact f_big _ _ _ | exact f_Is _ _ _ (by omega) | exact c1 | exact c2 | exact c3 | exact c4 | exact c5 | fail)
        | refine s_opg ?_ (hy := by intro hk hk2; first | fail | fail)
        | refine s_skip ?_
        | ((first | refine w_alloc ?_ | refine w_box ?_) <;> intro bb)
        | ((first | refine w_emp ?_ | refine w_make ?_ | refine w_app ?_) <;> intro u hu1 hu2)
        | refine w_stv ?_ | refine w_str ?_ | refine w_cpr ?_ | refine w_cps ?_
        | refine al_last (by kernel_rfl) ?_
      | fail)
      all_goals first | exact ⟨_, [], rs_, List.nil_sublist _, Sub.refl _, rfl⟩ | (exfalso; simp [hok'] at hb; done)
  · have c1 : True := trivial
    have c2 : True := trivial
    have c3 : True := trivial
    have c4 : True := trivial
    have c5 : True := trivial
    refine af_intro Tryd.func7 rfl (by decide) Tryd.ntmps7 rfl ?_
    repeat' (first
    | fail
    | refine s_y ?_
      | refine c_ ?_
      | (refine aw_if ?_ ?_ <;> intro hb <;> try (exfalso; first | assumption | omega))
      | refine s_call ?_ (c := by first | exact f_gridded | exact f_big _ _ _ | exact f_Is _ _ _ (by omega) | exact c1 | exact c2 | exact c3 | exact c4 | exact c5 | fail)
      | refine s_op ?_ (hy := by first | fail | fail)
      | refine s_yg ?_
      | refine s_callg ?_ (c := by intro hk hk2; first | exact f_gridded | exact f_big _ _ _ | exact f_Is _ _ _ (by omega) | exact c1 | exact c2 | exact c3 | exact c4 | exact c5 | fail)
      | refine s_opg ?_ (hy := by intro hk hk2; first | fail | fail)
      | refine s_skip ?_
      | ((first | refine w_alloc ?_ | refine w_box ?_) <;> intro bb)
      | ((first | refine w_emp ?_ | refine w_make ?_ | refine w_app ?_) <;> intro u hu1 hu2)
      | refine w_stv ?_ | refine w_str ?_ | refine w_cpr ?_ | refine w_cps ?_
      | refine al_last (by kernel_rfl) ?_
    | fail)
    all_goals first | exact ⟨_, [], rs_, List.nil_sublist _, Sub.refl _, rfl⟩ | (exfalso; omega)
end Go.Proofs.YthlikicgikoilaaDoor
