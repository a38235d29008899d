/- Layer 3 (grid): what was blanked is blank, all else stays, and to blank it again changes nothing. No condition. -/
import Derived.Test.YthlikicgikoilaaDoorGI
namespace Go.Proofs.YthlikicgikoilaaDoor
set_option linter.unusedSimpArgs false
set_option linter.unusedVariables false
set_option maxHeartbeats 4000000
open Go Go.RowKit
set_option maxRecDepth 100000
attribute [local irreducible] thenA inBlockA AW AL AO QY varO rowO rsA Opd OpdN vA gvA tupA aggA slA slcA ipA rpA EqK LnK IxK LdK FaK FdK
theorem l_GridErases (w h : Int) (l : List Cell) (from_ to_ : Int) : AP Tryd.prog tab0 9 [gridA w h l, I from_, I to_] (B true) := by
  by_cases hl : l.length ≤ 3000
  · by_cases hc : okG w h l = true ∧ 0 ≤ from_ ∧ from_ ≤ to_ ∧ to_ ≤ l.length
    · have hc' := hc
      obtain ⟨hok, x1, x2, x3⟩ := hc
      obtain ⟨w, h, rfl, rfl, h1, h2, h3, h4, hlen, hall⟩ := okG_nat hok
      clear hall
      obtain ⟨p, rfl⟩ := Int.eq_ofNat_of_zero_le x1
      obtain ⟨q, rfl⟩ := Int.eq_ofNat_of_zero_le (show 0 ≤ to_ by omega)
      have hac : p + (List.replicate (q - p) ((32, 0) : Cell)).length ≤ l.length := by rw [List.length_replicate]; omega
      have hll : (layG l p (List.replicate (q - p) (32, 0))).length = l.length := layG_len hac
      have hok1 := layG_ok w h l p _ hok hac (whole_rep _ _ _) (isCell_rep (q - p))
      have htw := lay_twice (n := q - p) hok (show p + (q - p) ≤ l.length by omega)
      have c1 : AP Tryd.prog tab0 21 [gridA w h l, I p, I q] (tupA [gridA w h (layG l p (List.replicate (q - p) (32, 0))), I 0]) := (f_Blank w h l p q hl).to (by simp only [blankR, if_pos hc', grid2, Int.toNat_natCast, show ((q : Int) - (p : Int)).toNat = q - p by omega])
      have c2 : AP Tryd.prog tab0 21 [gridA w h (layG l p (List.replicate (q - p) (32, 0))), I p, I q] (tupA [gridA w h (layG l p (List.replicate (q - p) (32, 0))), I 0]) := (f_Blank w h _ p q (by rw [hll]; exact hl)).to (by
        have hc2 : okG w h (layG l p (List.replicate (q - p) (32, 0))) = true ∧ (0 : Int) ≤ p ∧ (p : Int) ≤ q ∧ (q : Int) ≤ (layG l p (List.replicate (q - p) (32, 0))).length := ⟨hok1, by omega, by omega, by rw [hll]; omega⟩
        simp only [blankR, if_pos hc2, grid2, Int.toNat_natCast, show ((q : Int) - (p : Int)).toNat = q - p by omega, htw])
      have hlay := fun i => lay_in (i := i) hok hac
      rw [List.length_replicate] at hac
      simp only [List.length_replicate] at hlay
      have hrep : ∀ i, p ≤ i → i < q → cAt (layG l p (List.replicate (q - p) (32, 0))) i = (32, 0) := fun i a b => by
        rw [(hlay i).1 a (by omega), cAt_rep (by omega)]
      generalize layG l p (List.replicate (q - p) (32, 0)) = a at *
      refine af_intro Tryd.func9 rfl (by decide) Tryd.ntmps9 rfl ?_
      repeat' (first
      | fail
      | refine s_y ?_
        | refine c_ ?_
        | (refine aw_if ?_ ?_ <;> intro hb <;> try (exfalso; first | assumption | omega))
        | refine s_call ?_ (c := by first | exact f_gridded | exact f_big _ _ _ | exact c1 | exact c2 | exact f_ref02Same _ _ | fail)
        | refine s_op ?_ (hy := by first | fail | fail)
        | refine s_yg ?_
        | refine s_callg ?_ (c := by intro hk hk2; first | exact f_gridded | exact f_big _ _ _ | exact c1 | exact c2 | exact f_ref02Same _ _ | fail)
        | refine s_opg ?_ (hy := by intro hk hk2; first | fail | fail)
        | refine s_skip ?_
        | ((first | refine w_alloc ?_ | refine w_box ?_) <;> intro bb)
        | ((first | refine w_emp ?_ | refine w_make ?_ | refine w_app ?_) <;> intro u hu1 hu2)
        | refine w_stv ?_ | refine w_str ?_ | refine w_cpr ?_ | refine w_cps ?_
        | refine al_last (by kernel_rfl) ?_
      | refine w_fzg ?_
      | fail)
      all_goals first | exact ⟨_, [], rs_, List.nil_sublist _, Sub.refl _, rfl⟩ | (exfalso; simp [hll] at hb; done) | (exfalso; omega) | skip
      refine aw_lf (fun k : Nat => [(12, I k)]) (fun k => k ≤ a.length) (fun k => a.length - k) 0 (Nat.zero_le _) ?_
      rintro k i1
      have lb := (hlay k).2
      have la := hrep k
      by_cases hlt : k < a.length
      · have ha := c_in (l := a) (i := k) hlt
        have hg := c_in (l := l) (i := k) (by omega)
        have key : cAt a k = (32, 0) ∨ cAt a k = cAt l k := by
          by_cases hin : p ≤ k ∧ k < q
          · exact .inl (la hin.1 hin.2)
          · rcases lb (by omega) with e | ⟨_, e⟩
            · exact .inr e
            · exact .inl e
        have key2 : (k : Int) < (p : Int) - 1 ∨ (q : Int) < k → cAt a k = cAt l k := fun hh => by
          rcases lb (by omega) with e | ⟨e, _⟩
          · exact e
          · omega
        by_cases hp1 : 1 ≤ p
        · repeat' (first
          | fail
          | refine s_y ?_
            | refine c_ ?_
            | (refine aw_if ?_ ?_ <;> intro hb <;> try (exfalso; first | assumption | omega))
            | refine s_call ?_ (c := by first | exact f_gridded | exact f_big _ _ _ | exact c1 | exact c2 | exact f_ref02Same _ _ | fail)
            | refine s_op ?_ (hy := by first | fail | fail)
            | refine s_yg ?_
            | refine s_callg ?_ (c := by intro hk hk2; first | exact f_gridded | exact f_big _ _ _ | exact c1 | exact c2 | exact f_ref02Same _ _ | fail)
            | refine s_opg ?_ (hy := by intro hk hk2; first | fail | fail)
            | refine s_skip ?_
            | ((first | refine w_alloc ?_ | refine w_box ?_) <;> intro bb)
            | ((first | refine w_emp ?_ | refine w_make ?_ | refine w_app ?_) <;> intro u hu1 hu2)
            | refine w_stv ?_ | refine w_str ?_ | refine w_cpr ?_ | refine w_cps ?_
            | refine al_last (by kernel_rfl) ?_
          | refine w_fzg ?_
          | fail)
          · exfalso
            rcases hb with (⟨⟨q1, q2⟩, q3⟩ | ⟨q1, q3⟩) | ⟨q2, q3⟩
            · exact q3 (la (by omega) (by omega))
            · exact q3 (key2 (by omega))
            · rcases key with e | e
              · exact q2 e
              · exact q3 e
          · exact ⟨k + 1, by omega, by omega, wx_, List.Sublist.refl _⟩
        · repeat' (first
          | fail
          | refine s_y ?_
            | refine c_ ?_
            | (refine aw_if ?_ ?_ <;> intro hb <;> try (exfalso; first | assumption | omega))
            | refine s_call ?_ (c := by first | exact f_gridded | exact f_big _ _ _ | exact c1 | exact c2 | exact f_ref02Same _ _ | fail)
            | refine s_op ?_ (hy := by first | fail | fail)
            | refine s_yg ?_
            | refine s_callg ?_ (c := by intro hk hk2; first | exact f_gridded | exact f_big _ _ _ | exact c1 | exact c2 | exact f_ref02Same _ _ | fail)
            | refine s_opg ?_ (hy := by intro hk hk2; first | fail | fail)
            | refine s_skip ?_
            | ((first | refine w_alloc ?_ | refine w_box ?_) <;> intro bb)
            | ((first | refine w_emp ?_ | refine w_make ?_ | refine w_app ?_) <;> intro u hu1 hu2)
            | refine w_stv ?_ | refine w_str ?_ | refine w_cpr ?_ | refine w_cps ?_
            | refine al_last (by kernel_rfl) ?_
          | refine w_fzg ?_
          | fail)
          · exfalso
            rcases hb with (⟨⟨q1, q2⟩, q3⟩ | ⟨q1, q3⟩) | ⟨q2, q3⟩
            · exact q3 (la (by omega) (by omega))
            · exact q3 (key2 (by omega))
            · rcases key with e | e
              · exact q2 e
              · exact q3 e
          · exact ⟨k + 1, by omega, by omega, wx_, List.Sublist.refl _⟩
      · repeat' (first
        | fail
        | refine s_y ?_
          | refine c_ ?_
          | (refine aw_if ?_ ?_ <;> intro hb <;> try (exfalso; first | assumption | omega))
          | refine s_call ?_ (c := by first | exact f_gridded | exact f_big _ _ _ | exact c1 | exact c2 | exact f_ref02Same _ _ | fail)
          | refine s_op ?_ (hy := by first | fail | fail)
          | refine s_yg ?_
          | refine s_callg ?_ (c := by intro hk hk2; first | exact f_gridded | exact f_big _ _ _ | exact c1 | exact c2 | exact f_ref02Same _ _ | fail)
          | refine s_opg ?_ (hy := by intro hk hk2; first | fail | fail)
          | refine s_skip ?_
          | ((first | refine w_alloc ?_ | refine w_box ?_) <;> intro bb)
          | ((first | refine w_emp ?_ | refine w_make ?_ | refine w_app ?_) <;> intro u hu1 hu2)
          | refine w_stv ?_ | refine w_str ?_ | refine w_cpr ?_ | refine w_cps ?_
          | refine al_last (by kernel_rfl) ?_
        | refine w_fzg ?_
        | fail)
        exact ⟨_, [], rs_, List.nil_sublist _, Sub.refl _, rfl⟩
    · have c1 : AP Tryd.prog tab0 21 [gridA w h l, I from_, I to_] (tupA [gridA 0 0 [], I 1]) := (f_Blank w h l from_ to_ hl).to (by simp only [blankR, if_neg hc, grid2])
      have c2 : True := trivial
      refine af_intro Tryd.func9 rfl (by decide) Tryd.ntmps9 rfl ?_
      repeat' (first
      | fail
      | refine s_y ?_
        | refine c_ ?_
        | (refine aw_if ?_ ?_ <;> intro hb <;> try (exfalso; first | assumption | omega))
        | refine s_call ?_ (c := by first | exact f_gridded | exact f_big _ _ _ | exact c1 | exact c2 | exact f_ref02Same _ _ | fail)
        | refine s_op ?_ (hy := by first | fail | fail)
        | refine s_yg ?_
        | refine s_callg ?_ (c := by intro hk hk2; first | exact f_gridded | exact f_big _ _ _ | exact c1 | exact c2 | exact f_ref02Same _ _ | fail)
        | refine s_opg ?_ (hy := by intro hk hk2; first | fail | fail)
        | refine s_skip ?_
        | ((first | refine w_alloc ?_ | refine w_box ?_) <;> intro bb)
        | ((first | refine w_emp ?_ | refine w_make ?_ | refine w_app ?_) <;> intro u hu1 hu2)
        | refine w_stv ?_ | refine w_str ?_ | refine w_cpr ?_ | refine w_cps ?_
        | refine al_last (by kernel_rfl) ?_
      | refine w_fzg ?_
      | fail)
      all_goals first | exact ⟨_, [], rs_, List.nil_sublist _, Sub.refl _, rfl⟩ | (exfalso; simp at hb; done) | (exfalso; omega)
  · have c1 : True := trivial
    have c2 : True := trivial
    refine af_intro Tryd.func9 rfl (by decide) Tryd.ntmps9 rfl ?_
    repeat' (first
    | fail
    | refine s_y ?_
      | refine c_ ?_
      | (refine aw_if ?_ ?_ <;> intro hb <;> try (exfalso; first | assumption | omega))
      | refine s_call ?_ (c := by first | exact f_gridded | exact f_big _ _ _ | exact c1 | exact c2 | exact f_ref02Same _ _ | fail)
      | refine s_op ?_ (hy := by first | fail | fail)
      | refine s_yg ?_
      | refine s_callg ?_ (c := by intro hk hk2; first | exact f_gridded | exact f_big _ _ _ | exact c1 | exact c2 | exact f_ref02Same _ _ | fail)
      | refine s_opg ?_ (hy := by intro hk hk2; first | fail | fail)
      | refine s_skip ?_
      | ((first | refine w_alloc ?_ | refine w_box ?_) <;> intro bb)
      | ((first | refine w_emp ?_ | refine w_make ?_ | refine w_app ?_) <;> intro u hu1 hu2)
      | refine w_stv ?_ | refine w_str ?_ | refine w_cpr ?_ | refine w_cps ?_
      | refine al_last (by kernel_rfl) ?_
    | refine w_fzg ?_
    | fail)
    all_goals first | exact ⟨_, [], rs_, List.nil_sublist _, Sub.refl _, rfl⟩ | (exfalso; omega)
end Go.Proofs.YthlikicgikoilaaDoor
