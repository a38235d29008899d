/- Layer 3 (grid): the example. No condition. -/
import Derived.Test.YthlikicgikoilaaDoorG8
namespace Go.Proofs.YthlikicgikoilaaDoor
set_option linter.unusedSimpArgs false
set_option linter.unusedVariables false
set_option maxHeartbeats 4000000
open Go Go.RowKit
set_option maxRecDepth 100000
def okB (w h : Int) (l : List Cell) : Bool := sidesM w h && decide ((l.length : Int) = w * h) && (List.range l.length).all fun i => isCell (cAt l i) && !lostM w.toNat l i
theorem okG_eq (w h : Int) (l : List Cell) : okG w h l = okB w h l := by
  rw [Bool.eq_iff_iff, okG, decide_eq_true_eq, OkG, okB]
  simp [sidesM, and_assoc]
/-- a contract's arguments may be told more narrowly -/
theorem AF.pre {P : Program} {T0 : Gh} {f : FuncId} {As As' : List AV} {M : List Own} {K : AV → List Own → Prop} {KP : List PanicEntry → List Own → Prop} (h : AF P T0 f As M K KP) (s : SubL As' As) : AF P T0 f As' M K KP := ⟨h.able, fun w0 G F w vs hs hr => h.calls w0 G F w vs hs (s.rep hr)⟩
attribute [local irreducible] AW AL AO QY varO rowO rsA Opd OpdN vA gvA tupA aggA slA slcA ipA rpA EqK LnK IxK LdK FaK FdK
theorem f_gridded : AP Tryd.prog tab0 15 [] (B true) := by
  have c1 : AP Tryd.prog tab0 11 [I 3, I 2] (tupA [gridA 3 2 [(32, 0), (32, 0), (32, 0), (32, 0), (32, 0), (32, 0)], I 0]) := (f_New 3 2).to (congrArg grid2 (show newR 3 2 = ((3, 2, [(32, 0), (32, 0), (32, 0), (32, 0), (32, 0), (32, 0)]), 0) by decide))
  have c2 : AP Tryd.prog tab0 19 [gridA 3 2 [(32, 0), (32, 0), (32, 0), (32, 0), (32, 0), (32, 0)], I 1, I 0, R 20013] (tupA [gridA 3 2 [(32, 0), (20013, 1), (20013, 2), (32, 0), (32, 0), (32, 0)], I 0]) := (f_Put 3 2 [(32, 0), (32, 0), (32, 0), (32, 0), (32, 0), (32, 0)] 1 0 20013 (by decide)).to (congrArg grid2 (show putR 3 2 [(32, 0), (32, 0), (32, 0), (32, 0), (32, 0), (32, 0)] 1 0 20013 = ((3, 2, [(32, 0), (20013, 1), (20013, 2), (32, 0), (32, 0), (32, 0)]), 0) by rw [putR, okG_eq]; decide))
  have c3 : AP Tryd.prog tab0 19 [gridA 3 2 [(32, 0), (20013, 1), (20013, 2), (32, 0), (32, 0), (32, 0)], I 2, I 0, R 97] (tupA [gridA 3 2 [(32, 0), (32, 0), (97, 0), (32, 0), (32, 0), (32, 0)], I 0]) := (f_Put 3 2 [(32, 0), (20013, 1), (20013, 2), (32, 0), (32, 0), (32, 0)] 2 0 97 (by decide)).to (congrArg grid2 (show putR 3 2 [(32, 0), (20013, 1), (20013, 2), (32, 0), (32, 0), (32, 0)] 2 0 97 = ((3, 2, [(32, 0), (32, 0), (97, 0), (32, 0), (32, 0), (32, 0)]), 0) by rw [putR, okG_eq]; decide))
  have c4 : AP Tryd.prog tab0 19 [gridA 3 2 [(32, 0), (32, 0), (32, 0), (32, 0), (32, 0), (32, 0)], I 2, I 0, R 20013] (tupA [gridA 0 0 [], I 1]) := (f_Put 3 2 [(32, 0), (32, 0), (32, 0), (32, 0), (32, 0), (32, 0)] 2 0 20013 (by decide)).to (congrArg grid2 (show putR 3 2 [(32, 0), (32, 0), (32, 0), (32, 0), (32, 0), (32, 0)] 2 0 20013 = ((0, 0, []), 1) by rw [putR, okG_eq]; decide))
  have c5 : AP Tryd.prog tab0 13 [gridA 3 2 [(32, 0), (20013, 1), (20013, 2), (32, 0), (32, 0), (32, 0)], I 2, I 0] (tupA [cellA (20013, 2), I 0]) := (f_At 3 2 [(32, 0), (20013, 1), (20013, 2), (32, 0), (32, 0), (32, 0)] (by decide) 2 0).to (congrArg at2 (show atR 3 2 [(32, 0), (20013, 1), (20013, 2), (32, 0), (32, 0), (32, 0)] 2 0 = ((20013, 2), 0) by rw [atR, okG_eq]; decide))
  have c6 : AP Tryd.prog tab0 21 [gridA 3 2 [(32, 0), (20013, 1), (20013, 2), (32, 0), (32, 0), (32, 0)], I 0, I 2] (tupA [gridA 3 2 [(32, 0), (32, 0), (32, 0), (32, 0), (32, 0), (32, 0)], I 0]) := (f_Blank 3 2 [(32, 0), (20013, 1), (20013, 2), (32, 0), (32, 0), (32, 0)] 0 2 (by decide)).to (congrArg grid2 (show blankR 3 2 [(32, 0), (20013, 1), (20013, 2), (32, 0), (32, 0), (32, 0)] 0 2 = ((3, 2, [(32, 0), (32, 0), (32, 0), (32, 0), (32, 0), (32, 0)]), 0) by rw [blankR, okG_eq]; decide))
  have c7 : AP Tryd.prog tab0 23 [gridA 3 2 [(32, 0), (32, 0), (97, 0), (32, 0), (32, 0), (32, 0)]] (gridA 3 2 [(32, 0), (32, 0), (32, 0), (32, 0), (32, 0), (32, 0)]) := (f_Scroll 3 2 [(32, 0), (32, 0), (97, 0), (32, 0), (32, 0), (32, 0)] (by decide)).to (congrArg (gridA 3 2) (by rw [scrollR, okG_eq]; decide))
  have c8 : AP Tryd.prog tab0 25 [gridA 3 2 [(32, 0), (20013, 1), (20013, 2), (32, 0), (32, 0), (32, 0)], I 2, I 1] (tupA [gridA 2 1 [(32, 0), (32, 0)], I 0]) := (f_Fit 3 2 2 1 [(32, 0), (20013, 1), (20013, 2), (32, 0), (32, 0), (32, 0)] (by decide)).to (congrArg grid2 (show fitR 3 2 [(32, 0), (20013, 1), (20013, 2), (32, 0), (32, 0), (32, 0)] 2 1 = ((2, 1, [(32, 0), (32, 0)]), 0) by rw [fitR, okG_eq]; decide))
  have c9 : AP Tryd.prog tab0 11 [I 1, I 1] (tupA [gridA 0 0 [], I 4]) := (f_New 1 1).to (congrArg grid2 (show newR 1 1 = ((0, 0, []), 4) by decide))
  have d1 := (f_ref02Same [(32, 0), (32, 0), (97, 0), (32, 0), (32, 0), (32, 0)] [(32, 0), (32, 0), (97, 0), (32, 0), (32, 0), (32, 0)]).to (A' := B true) (congrArg B (by decide))
  have d2 := (f_ref02Same [(32, 0), (32, 0), (32, 0), (32, 0), (32, 0), (32, 0)] [(32, 0), (32, 0), (32, 0), (32, 0), (32, 0), (32, 0)]).to (A' := B true) (congrArg B (by decide))
  have d3 := (f_ref02Same [(32, 0), (32, 0)] [(32, 0), (32, 0)]).to (A' := B true) (congrArg B (by decide))
  have d4 : AP Tryd.prog tab0 17 [gridA 3 2 [(32, 0), (20013, 1), (20013, 2), (32, 0), (32, 0), (32, 0)]] (B true) := (f_Is 3 2 [(32, 0), (20013, 1), (20013, 2), (32, 0), (32, 0), (32, 0)] (by decide)).to (congrArg B (by rw [okG_eq]; decide))
  have d5 : AP Tryd.prog tab0 17 [gridA 0 0 []] (B false) := (f_Is 0 0 [] (by decide)).to (congrArg B (by rw [okG_eq]; decide))
  have d6 : AP Tryd.prog tab0 17 [aggA [I 0, I 0, vA (.slice none 0 0)]] (B false) := d5.pre (subl1 (sub_agg (subl1 (Sub.refl _) (subl1 (Sub.refl _) (subl1 sub_nilG subl0)))) subl0)
  refine af_intro Tryd.func15 rfl (by decide) Tryd.ntmps15 rfl ?_
  repeat' (first
  | fail
  | refine s_y ?_
    | refine c_ ?_
    | (refine aw_if ?_ ?_ <;> intro hb <;> try (exfalso; first | assumption | omega))
    | refine s_call ?_ (c := by first | exact c1 | exact c2 | exact c3 | exact c4 | exact c5 | exact c6 | exact c7 | exact c8 | exact c9 | exact d1 | exact d2 | exact d3 | exact d4 | exact d6 | fail)
    | refine s_op ?_ (hy := by first | exact AY.sub (ay_buildSlice (T := cellT) [(32, 0), (32, 0), (97, 0), (32, 0), (32, 0), (32, 0)] rfl un_cells el_cell rfl (by decide) ⟨_, px_, rfl⟩) sub_slc
                                       | exact AY.sub (ay_buildSlice (T := cellT) [(32, 0), (32, 0)] rfl un_cells el_cell rfl (by decide) ⟨_, px_, rfl⟩) sub_slc | fail)
    | refine s_yg ?_
    | refine s_callg ?_ (c := by intro hk hk2; first | exact c1 | exact c2 | exact c3 | exact c4 | exact c5 | exact c6 | exact c7 | exact c8 | exact c9 | exact d1 | exact d2 | exact d3 | exact d4 | exact d6 | fail)
    | refine s_opg ?_ (hy := by intro hk hk2; first | exact AY.sub (ay_buildSlice (T := cellT) [(32, 0), (32, 0), (97, 0), (32, 0), (32, 0), (32, 0)] rfl un_cells el_cell rfl (by decide) ⟨_, px_, rfl⟩) sub_slc
                                                      | exact AY.sub (ay_buildSlice (T := cellT) [(32, 0), (32, 0)] rfl un_cells el_cell rfl (by decide) ⟨_, px_, rfl⟩) sub_slc | fail)
    | refine s_skip ?_
    | ((first | refine w_alloc ?_ | refine w_box ?_) <;> intro bb)
    | ((first | refine w_emp ?_ | refine w_make ?_ | refine w_app ?_) <;> intro u hu1 hu2)
    | refine w_stv ?_ | refine w_str ?_ | refine w_cpr ?_ | refine w_cps ?_
    | refine al_last (by kernel_rfl) ?_
  | fail)
  exact ⟨_, [], rs_, List.nil_sublist _, Sub.eq (congrArg B (by decide)), rfl⟩
/-! ### the laws -/
theorem l_GridNews (x y : Int) (w h : Int) (l : List Cell) : AP Tryd.prog tab0 3 [I x, I y, gridA w h l] (B true) := by
  have c1 : AP Tryd.prog tab0 11 [I x, I y] (tupA [gridA (newR x y).1.1 (newR x y).1.2.1 (newR x y).1.2.2, I (newR x y).2]) := f_New x y
  have c2 : AP Tryd.prog tab0 12 [I x, I y] (tupA [gridA (newR x y).1.1 (newR x y).1.2.1 (newR x y).1.2.2, I (newR x y).2]) := f_ref03New x y
  by_cases hl : l.length ≤ 3000
  · have c3 : AP Tryd.prog tab0 13 [gridA w h l, I x, I y] (tupA [cellA (atR w h l x y).1, I (atR w h l x y).2]) := f_At w h l hl x y
    have c4 : AP Tryd.prog tab0 14 [gridA w h l, I x, I y] (tupA [cellA (atR w h l x y).1, I (atR w h l x y).2]) := f_ref03At w h l hl x y
    refine af_intro Tryd.func3 rfl (by decide) Tryd.ntmps3 rfl ?_
    repeat' (first
    | fail
    | refine s_y ?_
      | refine c_ ?_
      | (refine aw_if ?_ ?_ <;> intro hb <;> try (exfalso; first | assumption | omega))
      | refine s_call ?_ (c := by first | exact f_gridded | exact f_big _ _ _ | exact f_New _ _ | exact f_ref03New _ _ | exact c1 | exact c2 | exact c3 | exact c4 | exact f_Is _ _ _ (by omega) | exact f_ref03Is _ _ _ (by omega) | exact f_ref03Same _ _ _ _ _ _ | fail)
      | refine s_op ?_ (hy := by first | fail | fail)
      | refine s_yg ?_
      | refine s_callg ?_ (c := by intro hk hk2; first | exact f_gridded | exact f_big _ _ _ | exact f_New _ _ | exact f_ref03New _ _ | exact c1 | exact c2 | exact c3 | exact c4 | exact f_Is _ _ _ (by omega) | exact f_ref03Is _ _ _ (by omega) | exact f_ref03Same _ _ _ _ _ _ | fail)
      | refine s_opg ?_ (hy := by intro hk hk2; first | fail | fail)
      | refine s_skip ?_
      | ((first | refine w_alloc ?_ | refine w_box ?_) <;> intro bb)
      | ((first | refine w_emp ?_ | refine w_make ?_ | refine w_app ?_) <;> intro u hu1 hu2)
      | refine w_stv ?_ | refine w_str ?_ | refine w_cpr ?_ | refine w_cps ?_
      | refine al_last (by kernel_rfl) ?_
    | fail)
    all_goals first | exact ⟨_, [], rs_, List.nil_sublist _, Sub.refl _, rfl⟩ | exact ⟨_, [], rs_, List.nil_sublist _, Sub.eq (congrArg B (by simp)), rfl⟩
  · have c3 : True := trivial
    have c4 : True := trivial
    refine af_intro Tryd.func3 rfl (by decide) Tryd.ntmps3 rfl ?_
    repeat' (first
    | fail
    | refine s_y ?_
      | refine c_ ?_
      | (refine aw_if ?_ ?_ <;> intro hb <;> try (exfalso; first | assumption | omega))
      | refine s_call ?_ (c := by first | exact f_gridded | exact f_big _ _ _ | exact f_New _ _ | exact f_ref03New _ _ | exact c1 | exact c2 | exact c3 | exact c4 | exact f_Is _ _ _ (by omega) | exact f_ref03Is _ _ _ (by omega) | exact f_ref03Same _ _ _ _ _ _ | fail)
      | refine s_op ?_ (hy := by first | fail | fail)
      | refine s_yg ?_
      | refine s_callg ?_ (c := by intro hk hk2; first | exact f_gridded | exact f_big _ _ _ | exact f_New _ _ | exact f_ref03New _ _ | exact c1 | exact c2 | exact c3 | exact c4 | exact f_Is _ _ _ (by omega) | exact f_ref03Is _ _ _ (by omega) | exact f_ref03Same _ _ _ _ _ _ | fail)
      | refine s_opg ?_ (hy := by intro hk hk2; first | fail | fail)
      | refine s_skip ?_
      | ((first | refine w_alloc ?_ | refine w_box ?_) <;> intro bb)
      | ((first | refine w_emp ?_ | refine w_make ?_ | refine w_app ?_) <;> intro u hu1 hu2)
      | refine w_stv ?_ | refine w_str ?_ | refine w_cpr ?_ | refine w_cps ?_
      | refine al_last (by kernel_rfl) ?_
    | fail)
    all_goals first | exact ⟨_, [], rs_, List.nil_sublist _, Sub.refl _, rfl⟩ | (exfalso; omega)
end Go.Proofs.YthlikicgikoilaaDoor
