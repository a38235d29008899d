/- Layer 3 (grid): the laws of Put and Fit; the reference's Fit. No condition. -/
import Derived.Test.YthlikicgikoilaaDoorGF
namespace Go.Proofs.YthlikicgikoilaaDoor
set_option linter.unusedSimpArgs false
set_option linter.unusedVariables false
set_option maxHeartbeats 4000000
open Go Go.RowKit
set_option maxRecDepth 100000
attribute [local irreducible] AW AL AO QY varO rowO rsA Opd OpdN vA gvA tupA aggA slA slcA ipA rpA EqK LnK IxK LdK FaK FdK
theorem l_GridPuts (w h : Int) (l : List Cell) (x y r : Int) : AP Tryd.prog tab0 4 [gridA w h l, I x, I y, R r] (B true) := by
  by_cases hl : l.length ≤ 3000
  · have c1 : AP Tryd.prog tab0 19 [gridA w h l, I x, I y, R r] (tupA [gridA (putR w h l x y r).1.1 (putR w h l x y r).1.2.1 (putR w h l x y r).1.2.2, I (putR w h l x y r).2]) := f_Put w h l x y r hl
    have c2 : AP Tryd.prog tab0 20 [gridA w h l, I x, I y, R r] (tupA [gridA (putR w h l x y r).1.1 (putR w h l x y r).1.2.1 (putR w h l x y r).1.2.2, I (putR w h l x y r).2]) := f_ref03Put w h l x y r hl
    refine af_intro Tryd.func4 rfl (by decide) Tryd.ntmps4 rfl ?_
    repeat' (first
    | fail
    | refine s_y ?_
      | refine c_ ?_
      | (refine aw_if ?_ ?_ <;> intro hb <;> try (exfalso; first | assumption | omega))
      | refine s_call ?_ (c := by first | exact f_gridded | exact f_big _ _ _ | exact c1 | exact c2 | exact f_ref03Same _ _ _ _ _ _ | fail)
      | refine s_op ?_ (hy := by first | fail | fail)
      | refine s_yg ?_
      | refine s_callg ?_ (c := by intro hk hk2; first | exact f_gridded | exact f_big _ _ _ | exact c1 | exact c2 | exact f_ref03Same _ _ _ _ _ _ | fail)
      | refine s_opg ?_ (hy := by intro hk hk2; first | fail | fail)
      | refine s_skip ?_
      | ((first | refine w_alloc ?_ | refine w_box ?_) <;> intro bb)
      | ((first | refine w_emp ?_ | refine w_make ?_ | refine w_app ?_) <;> intro u hu1 hu2)
      | refine w_stv ?_ | refine w_str ?_ | refine w_cpr ?_ | refine w_cps ?_
      | refine al_last (by kernel_rfl) ?_
    | fail)
    all_goals first | exact ⟨_, [], rs_, List.nil_sublist _, Sub.refl _, rfl⟩ | exact ⟨_, [], rs_, List.nil_sublist _, Sub.eq (congrArg B (by simp)), rfl⟩
  · have c1 : True := trivial
    have c2 : True := trivial
    refine af_intro Tryd.func4 rfl (by decide) Tryd.ntmps4 rfl ?_
    repeat' (first
    | fail
    | refine s_y ?_
      | refine c_ ?_
      | (refine aw_if ?_ ?_ <;> intro hb <;> try (exfalso; first | assumption | omega))
      | refine s_call ?_ (c := by first | exact f_gridded | exact f_big _ _ _ | exact c1 | exact c2 | exact f_ref03Same _ _ _ _ _ _ | fail)
      | refine s_op ?_ (hy := by first | fail | fail)
      | refine s_yg ?_
      | refine s_callg ?_ (c := by intro hk hk2; first | exact f_gridded | exact f_big _ _ _ | exact c1 | exact c2 | exact f_ref03Same _ _ _ _ _ _ | fail)
      | refine s_opg ?_ (hy := by intro hk hk2; first | fail | fail)
      | refine s_skip ?_
      | ((first | refine w_alloc ?_ | refine w_box ?_) <;> intro bb)
      | ((first | refine w_emp ?_ | refine w_make ?_ | refine w_app ?_) <;> intro u hu1 hu2)
      | refine w_stv ?_ | refine w_str ?_ | refine w_cpr ?_ | refine w_cps ?_
      | refine al_last (by kernel_rfl) ?_
    | fail)
    all_goals first | exact ⟨_, [], rs_, List.nil_sublist _, Sub.refl _, rfl⟩ | (exfalso; omega)
theorem f_ref03FitG (w h W H : Nat) (l : List Cell) (hl : l.length ≤ 3000) (hc : okG w h l = true) (h1 : 2 ≤ W) (h2 : W ≤ 80) (h3 : 1 ≤ H) (h4 : H ≤ 24) : AP Tryd.prog tab0 26 [gridA w h l, I W, I H] (tupA [gridA W H (fitK w h l W H (min H h)), I 0]) := by
  have hfm := fit_mend w h l W H hc h1 h3
  obtain ⟨w', h', e1, e2, g1, g2, g3, g4, hlen, hall⟩ := okG_nat hc
  obtain rfl : w = w' := by omega
  obtain rfl : h = h' := by omega
  clear hall
  have hb := side_le g2 g4
  have hb2 := side_le h2 h4
  have c1 : AP Tryd.prog tab0 18 [gridA w h l] (B true) := hc ▸ f_ref03Is w h l hl
  have co := f_ref03NewO W H h1 h2 h3 h4
  have cm : ∀ m : List Cell, m.length = W * H → AP Tryd.prog tab0 43 [gridA W H m] (gridA W H (mendM W m)) := fun m hm => (f_mendO W H m hm hb2 h1 h2 h3).frz1 fza_
  refine af_intro Tryd.func26 rfl (by decide) Tryd.ntmps26 rfl ?_
  repeat' (first
  | (refine w_call0 ?_ (c := co); rintro _ _ ⟨u, rfl, rfl⟩; refine al_rowc (List.Mem.head _) fun hu1 hu2 => ?_)
  | refine s_y ?_
    | refine c_ ?_
    | (refine aw_if ?_ ?_ <;> intro hb <;> try (exfalso; first | assumption | omega))
    | refine s_call ?_ (c := by first | exact c1 | exact cm _ (by omega) | fail)
    | refine s_op ?_ (hy := by first | fail | fail)
    | refine s_yg ?_
    | refine s_callg ?_ (c := by intro hk hk2; first | exact c1 | exact cm _ (by omega) | fail)
    | refine s_opg ?_ (hy := by intro hk hk2; first | fail | fail)
    | refine s_skip ?_
    | ((first | refine w_alloc ?_ | refine w_box ?_) <;> intro bb)
    | ((first | refine w_emp ?_ | refine w_make ?_ | refine w_app ?_) <;> intro u hu1 hu2)
    | refine w_stv ?_ | refine w_str ?_ | refine w_cpr ?_ | refine w_cps ?_
    | refine al_last (by kernel_rfl) ?_
  | fail)
  all_goals first | (exfalso; simp at hb; done) | skip
  rename_i b3 b6 _
  refine aw_fl (fun y : Nat => [(1, I W), (2, I H), (3, vA (.pointer (some ⟨b3, 0, none⟩))), (6, vA (.pointer (some ⟨b6, 0, none⟩))), (8, vA (.pointer (some ⟨bb, 0, none⟩))), (10, I y)])
    (fun y => [varO bb 24 [I W, I H, vA u], rowO cellT 30 u (cutK w l W H (min W w) y 0), varO b6 24 [I 0, I 0, vA (.slice none 0 0)], varO b3 24 [I w, I h, slA cellT l]]) (fun y => y ≤ min H h) (fun y => min H h - y) 0 (Nat.zero_le _) wk_ (by rw [cutK_zero]; exact List.Sublist.refl _) ?_
  rintro y i1
  have hlo := cutK_len w l W H (min W w) y 0
  by_cases hlt : y < min H h
  · have m1 : (0 : Int) ≤ ((y * w : Nat) : Int) := Int.natCast_nonneg _
    have m2 : (0 : Int) ≤ ((y * W : Nat) : Int) := Int.natCast_nonneg _
    repeat' (first
    | (refine w_call0 ?_ (c := co); rintro _ _ ⟨u, rfl, rfl⟩; refine al_rowc (List.Mem.head _) fun hu1 hu2 => ?_)
    | refine s_y ?_
      | refine c_ ?_
      | (refine aw_if ?_ ?_ <;> intro hb <;> try (exfalso; first | assumption | omega))
      | refine s_call ?_ (c := by first | exact c1 | exact cm _ (by omega) | fail)
      | refine s_op ?_ (hy := by first | fail | fail)
      | refine s_yg ?_
      | refine s_callg ?_ (c := by intro hk hk2; first | exact c1 | exact cm _ (by omega) | fail)
      | refine s_opg ?_ (hy := by intro hk hk2; first | fail | fail)
      | refine s_skip ?_
      | ((first | refine w_alloc ?_ | refine w_box ?_) <;> intro bb)
      | ((first | refine w_emp ?_ | refine w_make ?_ | refine w_app ?_) <;> intro u hu1 hu2)
      | refine w_stv ?_ | refine w_str ?_ | refine w_cpr ?_ | refine w_cps ?_
      | refine al_last (by kernel_rfl) ?_
    | fail)
    refine aw_fl (fun x : Nat => [(1, I W), (2, I H), (3, vA (.pointer (some ⟨b3, 0, none⟩))), (6, vA (.pointer (some ⟨b6, 0, none⟩))), (8, vA (.pointer (some ⟨bb, 0, none⟩))), (10, I y), (11, I x)])
      (fun x => [varO bb 24 [I W, I H, vA u], rowO cellT 30 u (cutK w l W H (min W w) y x), varO b6 24 [I 0, I 0, vA (.slice none 0 0)], varO b3 24 [I w, I h, slA cellT l]]) (fun x => x ≤ min W w) (fun x => min W w - x) 0 (Nat.zero_le _) wk_ (List.Sublist.refl _) ?_
    rintro x i2
    have hlo2 := cutK_len w l W H (min W w) y x
    by_cases hlx : x < min W w
    · have hn := cutK_next w l W H (min W w) y x (by omega) hlx (by omega)
      have p1 := cell_pos (w := W) (h := H) (x := x) (y := y) (by omega) (by omega)
      have p2 := cell_pos (w := w) (h := h) (x := x) (y := y) (by omega) (by omega)
      have hat := c_in (l := l) (i := y * w + x) (by omega)
      generalize cAt l (y * w + x) = c at *
      obtain ⟨c1', c2'⟩ := c
      repeat' (first
      | (refine w_call0 ?_ (c := co); rintro _ _ ⟨u, rfl, rfl⟩; refine al_rowc (List.Mem.head _) fun hu1 hu2 => ?_)
      | refine s_y ?_
        | refine c_ ?_
        | (refine aw_if ?_ ?_ <;> intro hb <;> try (exfalso; first | assumption | omega))
        | refine s_call ?_ (c := by first | exact c1 | exact cm _ (by omega) | fail)
        | refine s_op ?_ (hy := by first | fail | fail)
        | refine s_yg ?_
        | refine s_callg ?_ (c := by intro hk hk2; first | exact c1 | exact cm _ (by omega) | fail)
        | refine s_opg ?_ (hy := by intro hk hk2; first | fail | fail)
        | refine s_skip ?_
        | ((first | refine w_alloc ?_ | refine w_box ?_) <;> intro bb)
        | ((first | refine w_emp ?_ | refine w_make ?_ | refine w_app ?_) <;> intro u hu1 hu2)
        | refine w_stv ?_ | refine w_str ?_ | refine w_cpr ?_ | refine w_cps ?_
        | refine al_last (by kernel_rfl) ?_
      | fail)
      exact ⟨x + 1, by omega, by omega, wk_, by rw [← hn]; exact List.Sublist.refl _⟩
    · have hr := cutK_row w l W H (min W w) y
      obtain rfl : x = min W w := by omega
      repeat' (first
      | (refine w_call0 ?_ (c := co); rintro _ _ ⟨u, rfl, rfl⟩; refine al_rowc (List.Mem.head _) fun hu1 hu2 => ?_)
      | refine s_y ?_
        | refine c_ ?_
        | (refine aw_if ?_ ?_ <;> intro hb <;> try (exfalso; first | assumption | omega))
        | refine s_call ?_ (c := by first | exact c1 | exact cm _ (by omega) | fail)
        | refine s_op ?_ (hy := by first | fail | fail)
        | refine s_yg ?_
        | refine s_callg ?_ (c := by intro hk hk2; first | exact c1 | exact cm _ (by omega) | fail)
        | refine s_opg ?_ (hy := by intro hk hk2; first | fail | fail)
        | refine s_skip ?_
        | ((first | refine w_alloc ?_ | refine w_box ?_) <;> intro bb)
        | ((first | refine w_emp ?_ | refine w_make ?_ | refine w_app ?_) <;> intro u hu1 hu2)
        | refine w_stv ?_ | refine w_str ?_ | refine w_cpr ?_ | refine w_cps ?_
        | refine al_last (by kernel_rfl) ?_
      | fail)
      exact ⟨y + 1, by omega, by omega, wk_, by rw [← hr]; exact List.Sublist.refl _⟩
  · refine aw_fz (u := u) (l := cutK w l W H (min W w) y 0) pick_ fzf_ fzmv_ ?_
    repeat' (first
    | (refine w_call0 ?_ (c := co); rintro _ _ ⟨u, rfl, rfl⟩; refine al_rowc (List.Mem.head _) fun hu1 hu2 => ?_)
    | refine s_y ?_
      | refine c_ ?_
      | (refine aw_if ?_ ?_ <;> intro hb <;> try (exfalso; first | assumption | omega))
      | refine s_call ?_ (c := by first | exact c1 | exact cm _ (by omega) | fail)
      | refine s_op ?_ (hy := by first | fail | fail)
      | refine s_yg ?_
      | refine s_callg ?_ (c := by intro hk hk2; first | exact c1 | exact cm _ (by omega) | fail)
      | refine s_opg ?_ (hy := by intro hk hk2; first | fail | fail)
      | refine s_skip ?_
      | ((first | refine w_alloc ?_ | refine w_box ?_) <;> intro bb)
      | ((first | refine w_emp ?_ | refine w_make ?_ | refine w_app ?_) <;> intro u hu1 hu2)
      | refine w_stv ?_ | refine w_str ?_ | refine w_cpr ?_ | refine w_cps ?_
      | refine al_last (by kernel_rfl) ?_
    | fail)
    refine ⟨_, [], rs_, List.nil_sublist _, ?_, rfl⟩
    rw [show y = min H h by omega, hfm]
    exact Sub.refl _
theorem f_ref03Fit (w h W H : Int) (l : List Cell) (hl : l.length ≤ 3000) : AP Tryd.prog tab0 26 [gridA w h l, I W, I H] (grid2 (fitR w h l W H)) := by
  by_cases hc : okG w h l = true
  · by_cases hs : sidesM W H = true
    · obtain ⟨w, h, rfl, rfl, _⟩ := okG_nat hc
      obtain ⟨W, H, rfl, rfl, h1, h2, h3, h4⟩ := sides_nat hs
      have := f_ref03FitG w h W H l hl hc h1 h2 h3 h4
      simpa only [fitR, if_pos hc, if_pos hs, grid2, Int.toNat_natCast] using this
    · have c1 : AP Tryd.prog tab0 18 [gridA w h l] (B true) := hc ▸ f_ref03Is w h l hl
      have c2 : AP Tryd.prog tab0 12 [I W, I H] (tupA [gridA 0 0 [], I 4]) := (f_ref03New W H).to (by simp only [newR, hs, grid2]; rfl)
      refine af_intro Tryd.func26 rfl (by decide) Tryd.ntmps26 rfl ?_
      repeat' (first
      | fail
      | refine s_y ?_
        | refine c_ ?_
        | (refine aw_if ?_ ?_ <;> intro hb <;> try (exfalso; first | assumption | omega))
        | refine s_call ?_ (c := by first | exact c1 | exact c2 | fail)
        | refine s_op ?_ (hy := by first | fail | fail)
        | refine s_yg ?_
        | refine s_callg ?_ (c := by intro hk hk2; first | exact c1 | exact c2 | fail)
        | refine s_opg ?_ (hy := by intro hk hk2; first | fail | fail)
        | refine s_skip ?_
        | ((first | refine w_alloc ?_ | refine w_box ?_) <;> intro bb)
        | ((first | refine w_emp ?_ | refine w_make ?_ | refine w_app ?_) <;> intro u hu1 hu2)
        | refine w_stv ?_ | refine w_str ?_ | refine w_cpr ?_ | refine w_cps ?_
        | refine al_last (by kernel_rfl) ?_
      | fail)
      all_goals first | (exfalso; simp at hb; done) | skip
      refine ⟨_, [], rs_, List.nil_sublist _, ?_, rfl⟩
      simp only [fitR, if_pos hc, if_neg hs, grid2]; exact sub_noG
  · have hc' : okG w h l = false := by simpa using hc
    have c1 : AP Tryd.prog tab0 18 [gridA w h l] (B false) := hc' ▸ f_ref03Is w h l hl
    have c2 : True := trivial
    refine af_intro Tryd.func26 rfl (by decide) Tryd.ntmps26 rfl ?_
    repeat' (first
    | fail
    | refine s_y ?_
      | refine c_ ?_
      | (refine aw_if ?_ ?_ <;> intro hb <;> try (exfalso; first | assumption | omega))
      | refine s_call ?_ (c := by first | exact c1 | exact c2 | fail)
      | refine s_op ?_ (hy := by first | fail | fail)
      | refine s_yg ?_
      | refine s_callg ?_ (c := by intro hk hk2; first | exact c1 | exact c2 | fail)
      | refine s_opg ?_ (hy := by intro hk hk2; first | fail | fail)
      | refine s_skip ?_
      | ((first | refine w_alloc ?_ | refine w_box ?_) <;> intro bb)
      | ((first | refine w_emp ?_ | refine w_make ?_ | refine w_app ?_) <;> intro u hu1 hu2)
      | refine w_stv ?_ | refine w_str ?_ | refine w_cpr ?_ | refine w_cps ?_
      | refine al_last (by kernel_rfl) ?_
    | fail)
    all_goals first | (exfalso; simp at hb; done) | skip
    refine ⟨_, [], rs_, List.nil_sublist _, ?_, rfl⟩
    simp only [fitR, if_neg hc, grid2]; exact sub_noG
theorem l_GridFits (w h : Int) (l : List Cell) (W H : Int) : AP Tryd.prog tab0 6 [gridA w h l, I W, I H] (B true) := by
  by_cases hl : l.length ≤ 3000
  · have c1 : AP Tryd.prog tab0 25 [gridA w h l, I W, I H] (tupA [gridA (fitR w h l W H).1.1 (fitR w h l W H).1.2.1 (fitR w h l W H).1.2.2, I (fitR w h l W H).2]) := f_Fit w h W H l hl
    have c2 : AP Tryd.prog tab0 26 [gridA w h l, I W, I H] (tupA [gridA (fitR w h l W H).1.1 (fitR w h l W H).1.2.1 (fitR w h l W H).1.2.2, I (fitR w h l W H).2]) := f_ref03Fit w h W H l hl
    refine af_intro Tryd.func6 rfl (by decide) Tryd.ntmps6 rfl ?_
    repeat' (first
    | fail
    | refine s_y ?_
      | refine c_ ?_
      | (refine aw_if ?_ ?_ <;> intro hb <;> try (exfalso; first | assumption | omega))
      | refine s_call ?_ (c := by first | exact f_gridded | exact f_big _ _ _ | exact c1 | exact c2 | exact f_ref03Same _ _ _ _ _ _ | fail)
      | refine s_op ?_ (hy := by first | fail | fail)
      | refine s_yg ?_
      | refine s_callg ?_ (c := by intro hk hk2; first | exact f_gridded | exact f_big _ _ _ | exact c1 | exact c2 | exact f_ref03Same _ _ _ _ _ _ | fail)
      | refine s_opg ?_ (hy := by intro hk hk2; first | fail | fail)
      | refine s_skip ?_
      | ((first | refine w_alloc ?_ | refine w_box ?_) <;> intro bb)
      | ((first | refine w_emp ?_ | refine w_make ?_ | refine w_app ?_) <;> intro u hu1 hu2)
      | refine w_stv ?_ | refine w_str ?_ | refine w_cpr ?_ | refine w_cps ?_
      | refine al_last (by kernel_rfl) ?_
    | fail)
    all_goals first | exact ⟨_, [], rs_, List.nil_sublist _, Sub.refl _, rfl⟩ | exact ⟨_, [], rs_, List.nil_sublist _, Sub.eq (congrArg B (by simp)), rfl⟩
  · have c1 : True := trivial
    have c2 : True := trivial
    refine af_intro Tryd.func6 rfl (by decide) Tryd.ntmps6 rfl ?_
    repeat' (first
    | fail
    | refine s_y ?_
      | refine c_ ?_
      | (refine aw_if ?_ ?_ <;> intro hb <;> try (exfalso; first | assumption | omega))
      | refine s_call ?_ (c := by first | exact f_gridded | exact f_big _ _ _ | exact c1 | exact c2 | exact f_ref03Same _ _ _ _ _ _ | fail)
      | refine s_op ?_ (hy := by first | fail | fail)
      | refine s_yg ?_
      | refine s_callg ?_ (c := by intro hk hk2; first | exact f_gridded | exact f_big _ _ _ | exact c1 | exact c2 | exact f_ref03Same _ _ _ _ _ _ | fail)
      | refine s_opg ?_ (hy := by intro hk hk2; first | fail | fail)
      | refine s_skip ?_
      | ((first | refine w_alloc ?_ | refine w_box ?_) <;> intro bb)
      | ((first | refine w_emp ?_ | refine w_make ?_ | refine w_app ?_) <;> intro u hu1 hu2)
      | refine w_stv ?_ | refine w_str ?_ | refine w_cpr ?_ | refine w_cps ?_
      | refine al_last (by kernel_rfl) ?_
    | fail)
    all_goals first | exact ⟨_, [], rs_, List.nil_sublist _, Sub.refl _, rfl⟩ | (exfalso; omega)
end Go.Proofs.YthlikicgikoilaaDoor
