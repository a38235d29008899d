/- Layer 3 (grid): the reference blanks and scrolls, whatever it is given. No condition. -/
import Derived.Test.YthlikicgikoilaaDoorGC
namespace Go.Proofs.YthlikicgikoilaaDoor
set_option linter.unusedSimpArgs false
set_option linter.unusedVariables false
set_option maxHeartbeats 4000000
open Go Go.RowKit
set_option maxRecDepth 100000
def scrK (w : Nat) (l : List Cell) (k : Nat) : List Cell := (List.range l.length).map fun i => if i < k then (if i + w < l.length then cAt l (i + w) else (32, 0)) else cAt l i
theorem scrK_len (w : Nat) (l : List Cell) (k : Nat) : (scrK w l k).length = l.length := by simp [scrK]
theorem scrK_at {w : Nat} {l : List Cell} {k i : Nat} (h : i < l.length) : cAt (scrK w l k) i = if i < k then (if i + w < l.length then cAt l (i + w) else (32, 0)) else cAt l i := by
  unfold scrK; rw [cAt, List.getElem?_map]; simp [h]
theorem scrK_zero (w : Nat) (l : List Cell) : scrK w l 0 = l := by
  apply cAt_ext (scrK_len w l 0)
  intro i hi; rw [scrK_len] at hi; rw [scrK_at hi]; simp
theorem scrK_next (w : Nat) (l : List Cell) (k : Nat) (hk : k < l.length) (c : Cell) (hc : c = if k + w < l.length then cAt l (k + w) else (32, 0)) : (scrK w l k).set k c = scrK w l (k + 1) := by
  apply cAt_ext
  · simp [scrK_len]
  · intro i hi
    have hi2 : i < l.length := by simpa [scrK_len] using hi
    rw [cAt_set _ _ _ _ (by rw [scrK_len]; exact hk), scrK_at hi2, scrK_at hi2]
    by_cases he : i = k
    · subst he; rw [if_pos rfl, if_pos (by omega), hc]
    · rw [if_neg he]
      by_cases q : i < k
      · rw [if_pos q, if_pos (show i < k + 1 by omega)]
      · rw [if_neg q, if_neg (show ¬ i < k + 1 by omega)]
theorem scrK_all (w : Nat) (l : List Cell) (hw : w ≤ l.length) : scrK w l l.length = l.drop w ++ List.replicate w (32, 0) := by
  apply cAt_ext
  · simp [scrK_len]; omega
  · intro i hi
    rw [scrK_len] at hi
    rw [scrK_at hi, if_pos hi, cAt_app, List.length_drop]
    by_cases q : i + w < l.length
    · rw [if_pos q, if_pos (by omega), cAt_drop, Nat.add_comm]
    · rw [if_neg q, if_neg (by omega), cAt_rep (by omega)]
attribute [local irreducible] AW AL AO QY varO rowO rsA Opd OpdN vA gvA tupA aggA slA slcA ipA rpA EqK LnK IxK LdK FaK FdK
theorem f_ref03Blank (w h : Int) (l : List Cell) (a b : Int) (hl : l.length ≤ 3000) : AP Tryd.prog tab0 22 [gridA w h l, I a, I b] (grid2 (blankR w h l a b)) := by
  by_cases hc : okG w h l = true ∧ 0 ≤ a ∧ a ≤ b ∧ b ≤ l.length
  · have hc' := hc
    obtain ⟨hok, x1, x2, x3⟩ := hc
    obtain ⟨w, h, rfl, rfl, _⟩ := okG_nat hok
    obtain ⟨a, rfl⟩ := Int.eq_ofNat_of_zero_le x1
    obtain ⟨b, rfl⟩ := Int.eq_ofNat_of_zero_le (show 0 ≤ b by omega)
    have := f_ref03BlankG w h l a b hl hok (by omega) (by omega)
    simpa only [blankR, if_pos hc', grid2, Int.toNat_natCast, show ((b : Int) - (a : Int)).toNat = b - a by omega] using this
  · by_cases hok : okG w h l = true
    · obtain ⟨w, h, rfl, rfl, h1, h2, h3, h4, hlen, _⟩ := okG_nat hok
      have hb := side_le h2 h4
      have hnn : (0 : Int) ≤ ((w * h : Nat) : Int) := Int.natCast_nonneg _
      have c1 : AP Tryd.prog tab0 18 [gridA w h l] (B true) := hok ▸ f_ref03Is w h l hl
      have hc2 : ¬ (0 ≤ a ∧ a ≤ b ∧ b ≤ l.length) := fun x => hc ⟨hok, x⟩
      refine af_intro Tryd.func22 rfl (by decide) Tryd.ntmps22 rfl ?_
      repeat' (first
      | fail
      | refine s_y ?_
        | refine c_ ?_
        | (refine aw_if ?_ ?_ <;> intro hb <;> try (exfalso; first | assumption | omega))
        | refine s_call ?_ (c := by first | exact c1 | fail)
        | refine s_op ?_ (hy := by first | fail | fail)
        | refine s_yg ?_
        | refine s_callg ?_ (c := by intro hk hk2; first | exact c1 | fail)
        | refine s_opg ?_ (hy := by intro hk hk2; first | fail | fail)
        | refine s_skip ?_
        | ((first | refine w_alloc ?_ | refine w_box ?_) <;> intro bb)
        | ((first | refine w_emp ?_ | refine w_make ?_ | refine w_app ?_) <;> intro u hu1 hu2)
        | refine w_stv ?_ | refine w_str ?_ | refine w_cpr ?_ | refine w_cps ?_
        | refine al_last (by kernel_rfl) ?_
      | fail)
      all_goals first | (exfalso; simp at hb; omega) | skip
      refine ⟨_, [], rs_, List.nil_sublist _, ?_, rfl⟩
      simp only [blankR, if_neg hc, grid2]; exact sub_noG
    · have hc' : okG w h l = false := by simpa using hok
      have c1 : AP Tryd.prog tab0 18 [gridA w h l] (B (okG w h l)) := f_ref03Is w h l hl
      refine af_intro Tryd.func22 rfl (by decide) Tryd.ntmps22 rfl ?_
      repeat' (first
      | fail
      | refine s_y ?_
        | refine c_ ?_
        | (refine aw_if ?_ ?_ <;> intro hb <;> try (exfalso; first | assumption | omega))
        | refine s_call ?_ (c := by first | exact c1 | fail)
        | refine s_op ?_ (hy := by first | exact ay_mulw rfl oo_ oo_ | fail)
        | refine s_yg ?_
        | refine s_callg ?_ (c := by intro hk hk2; first | exact c1 | fail)
        | refine s_opg ?_ (hy := by intro hk hk2; first | exact ay_mulw rfl oo_ oo_ | fail)
        | refine s_skip ?_
        | ((first | refine w_alloc ?_ | refine w_box ?_) <;> intro bb)
        | ((first | refine w_emp ?_ | refine w_make ?_ | refine w_app ?_) <;> intro u hu1 hu2)
        | refine w_stv ?_ | refine w_str ?_ | refine w_cpr ?_ | refine w_cps ?_
        | refine al_last (by kernel_rfl) ?_
      | fail)
      all_goals first | (exfalso; simp [hc'] at hb; done) | skip
      refine ⟨_, [], rs_, List.nil_sublist _, ?_, rfl⟩
      simp only [blankR, if_neg hc, grid2]; exact sub_noG
theorem f_ref03Scroll (w h : Int) (l : List Cell) (hl : l.length ≤ 3000) : AP Tryd.prog tab0 24 [gridA w h l] (gridA w h (scrollR w h l)) := by
  by_cases hok : okG w h l = true
  · obtain ⟨w, h, rfl, rfl, h1, h2, h3, h4, hlen, _⟩ := okG_nat hok
    have hwl : w ≤ l.length := by rw [hlen]; exact Nat.le_mul_of_pos_right w h3
    have c1 : AP Tryd.prog tab0 18 [gridA w h l] (B true) := hok ▸ f_ref03Is w h l hl
    have co := f_ref03own w h l (by omega)
    have e : scrollR w h l = scrK w l l.length := by rw [scrollR, if_pos hok, scrK_all w l hwl, Int.toNat_natCast]
    rw [e]
    refine AF.frz1 (l := scrK w l l.length) (F := fun u => aggA [I w, I h, vA u]) (e := 30) (T := cellT) ?_ fza_
    refine af_intro Tryd.func24 rfl (by decide) Tryd.ntmps24 rfl ?_
    repeat' (first
    | (apply al_call0 rfl rfl rfl rfl (c := co)
       case ha => repeat' (first | exact opds0 | apply opds1 oo_)
       rintro _ _ ⟨u, rfl, rfl⟩; refine al_rowc (List.Mem.head _) fun hu1 hu2 => ?_)
    | refine s_y ?_
      | refine c_ ?_
      | (refine aw_if ?_ ?_ <;> intro hb <;> try (exfalso; first | assumption | omega))
      | refine s_call ?_ (c := by first | exact c1 | fail)
      | refine s_op ?_ (hy := by first | fail | fail)
      | refine s_yg ?_
      | refine s_callg ?_ (c := by intro hk hk2; first | exact c1 | fail)
      | refine s_opg ?_ (hy := by intro hk hk2; first | fail | fail)
      | refine s_skip ?_
      | ((first | refine w_alloc ?_ | refine w_box ?_) <;> intro bb)
      | ((first | refine w_emp ?_ | refine w_make ?_ | refine w_app ?_) <;> intro u hu1 hu2)
      | refine w_stv ?_ | refine w_str ?_ | refine w_cpr ?_ | refine w_cps ?_
      | refine al_last (by kernel_rfl) ?_
    | fail)
    all_goals first | (exfalso; simp at hb; done) | skip
    rename_i b1 b2
    refine aw_fl (fun k : Nat => [(1, vA (.pointer (some ⟨b1, 0, none⟩))), (2, vA (.pointer (some ⟨b2, 0, none⟩))), (3, vA (.pointer (some ⟨bb, 0, none⟩))), (4, I k)])
      (fun k => [varO bb 24 [I w, I h, vA u], rowO cellT 30 u (scrK w l k), varO b2 24 [I 0, I 0, vA (.slice none 0 0)], varO b1 24 [I w, I h, slA cellT l]]) (fun k => k ≤ l.length) (fun k => l.length - k) 0 (Nat.zero_le _) wk_ (by rw [scrK_zero]; exact List.Sublist.refl _) ?_
    rintro k i1
    have m5 := scrK_len w l k
    by_cases hlt : k < l.length
    · have hn := scrK_next w l k hlt _ rfl
      repeat' (first
      | (apply al_call0 rfl rfl rfl rfl (c := co)
         case ha => repeat' (first | exact opds0 | apply opds1 oo_)
         rintro _ _ ⟨u, rfl, rfl⟩; refine al_rowc (List.Mem.head _) fun hu1 hu2 => ?_)
      | refine s_y ?_
        | refine c_ ?_
        | (refine aw_if ?_ ?_ <;> intro hb <;> try (exfalso; first | assumption | omega))
        | refine s_call ?_ (c := by first | exact c1 | fail)
        | refine s_op ?_ (hy := by first | fail | fail)
        | refine s_yg ?_
        | refine s_callg ?_ (c := by intro hk hk2; first | exact c1 | fail)
        | refine s_opg ?_ (hy := by intro hk hk2; first | fail | fail)
        | refine s_skip ?_
        | ((first | refine w_alloc ?_ | refine w_box ?_) <;> intro bb)
        | ((first | refine w_emp ?_ | refine w_make ?_ | refine w_app ?_) <;> intro u hu1 hu2)
        | refine w_stv ?_ | refine w_str ?_ | refine w_cpr ?_ | refine w_cps ?_
        | refine al_last (by kernel_rfl) ?_
      | fail)
      · rw [if_pos (by omega)] at hn
        exact ⟨k + 1, by omega, by omega, wk_, by rw [← hn]; exact List.Sublist.refl _⟩
      · rw [if_neg (by omega)] at hn
        exact ⟨k + 1, by omega, by omega, wk_, by rw [← hn]; exact List.Sublist.refl _⟩
    · repeat' (first
      | (apply al_call0 rfl rfl rfl rfl (c := co)
         case ha => repeat' (first | exact opds0 | apply opds1 oo_)
         rintro _ _ ⟨u, rfl, rfl⟩; refine al_rowc (List.Mem.head _) fun hu1 hu2 => ?_)
      | refine s_y ?_
        | refine c_ ?_
        | (refine aw_if ?_ ?_ <;> intro hb <;> try (exfalso; first | assumption | omega))
        | refine s_call ?_ (c := by first | exact c1 | fail)
        | refine s_op ?_ (hy := by first | fail | fail)
        | refine s_yg ?_
        | refine s_callg ?_ (c := by intro hk hk2; first | exact c1 | fail)
        | refine s_opg ?_ (hy := by intro hk hk2; first | fail | fail)
        | refine s_skip ?_
        | ((first | refine w_alloc ?_ | refine w_box ?_) <;> intro bb)
        | ((first | refine w_emp ?_ | refine w_make ?_ | refine w_app ?_) <;> intro u hu1 hu2)
        | refine w_stv ?_ | refine w_str ?_ | refine w_cpr ?_ | refine w_cps ?_
        | refine al_last (by kernel_rfl) ?_
      | fail)
      exact ⟨_, [rowO cellT 30 u (scrK w l k)], rs_, sl_, u, rfl, by rw [show k = l.length by omega]⟩
  · have hc' : okG w h l = false := by simpa using hok
    have c1 : AP Tryd.prog tab0 18 [gridA w h l] (B false) := hc' ▸ f_ref03Is w h l hl
    refine af_intro Tryd.func24 rfl (by decide) Tryd.ntmps24 rfl ?_
    repeat' (first
    | fail
    | refine s_y ?_
      | refine c_ ?_
      | (refine aw_if ?_ ?_ <;> intro hb <;> try (exfalso; first | assumption | omega))
      | refine s_call ?_ (c := by first | exact c1 | fail)
      | refine s_op ?_ (hy := by first | fail | fail)
      | refine s_yg ?_
      | refine s_callg ?_ (c := by intro hk hk2; first | exact c1 | fail)
      | refine s_opg ?_ (hy := by intro hk hk2; first | fail | fail)
      | refine s_skip ?_
      | ((first | refine w_alloc ?_ | refine w_box ?_) <;> intro bb)
      | ((first | refine w_emp ?_ | refine w_make ?_ | refine w_app ?_) <;> intro u hu1 hu2)
      | refine w_stv ?_ | refine w_str ?_ | refine w_cpr ?_ | refine w_cps ?_
      | refine al_last (by kernel_rfl) ?_
    | fail)
    all_goals first | (exfalso; simp at hb; done) | skip
    refine ⟨_, [], rs_, List.nil_sublist _, ?_, rfl⟩
    simp only [scrollR, hc', gridA]; exact Sub.refl _
theorem l_GridBlanks (w h : Int) (l : List Cell) (a b : Int) : AP Tryd.prog tab0 5 [gridA w h l, I a, I b] (B true) := by
  by_cases hl : l.length ≤ 3000
  · have c1 : AP Tryd.prog tab0 21 [gridA w h l, I a, I b] (tupA [gridA (blankR w h l a b).1.1 (blankR w h l a b).1.2.1 (blankR w h l a b).1.2.2, I (blankR w h l a b).2]) := f_Blank w h l a b hl
    have c2 : AP Tryd.prog tab0 22 [gridA w h l, I a, I b] (tupA [gridA (blankR w h l a b).1.1 (blankR w h l a b).1.2.1 (blankR w h l a b).1.2.2, I (blankR w h l a b).2]) := f_ref03Blank w h l a b hl
    refine af_intro Tryd.func5 rfl (by decide) Tryd.ntmps5 rfl ?_
    repeat' (first
    | fail
    | refine s_y ?_
      | refine c_ ?_
      | (refine aw_if ?_ ?_ <;> intro hb <;> try (exfalso; first | assumption | omega))
      | refine s_call ?_ (c := by first | exact f_gridded | exact f_big _ _ _ | exact c1 | exact c2 | exact f_Scroll _ _ _ hl | exact f_ref03Scroll _ _ _ hl | exact f_ref03Same _ _ _ _ _ _ | fail)
      | refine s_op ?_ (hy := by first | fail | fail)
      | refine s_yg ?_
      | refine s_callg ?_ (c := by intro hk hk2; first | exact f_gridded | exact f_big _ _ _ | exact c1 | exact c2 | exact f_Scroll _ _ _ hl | exact f_ref03Scroll _ _ _ hl | exact f_ref03Same _ _ _ _ _ _ | fail)
      | refine s_opg ?_ (hy := by intro hk hk2; first | fail | fail)
      | refine s_skip ?_
      | ((first | refine w_alloc ?_ | refine w_box ?_) <;> intro bb)
      | ((first | refine w_emp ?_ | refine w_make ?_ | refine w_app ?_) <;> intro u hu1 hu2)
      | refine w_stv ?_ | refine w_str ?_ | refine w_cpr ?_ | refine w_cps ?_
      | refine al_last (by kernel_rfl) ?_
    | fail)
    all_goals first | exact ⟨_, [], rs_, List.nil_sublist _, Sub.refl _, rfl⟩ | exact ⟨_, [], rs_, List.nil_sublist _, Sub.eq (congrArg B (by simp)), rfl⟩
  · have c1 : True := trivial
    have c2 : True := trivial
    refine af_intro Tryd.func5 rfl (by decide) Tryd.ntmps5 rfl ?_
    repeat' (first
    | fail
    | refine s_y ?_
      | refine c_ ?_
      | (refine aw_if ?_ ?_ <;> intro hb <;> try (exfalso; first | assumption | omega))
      | refine s_call ?_ (c := by first | exact f_gridded | exact f_big _ _ _ | exact c1 | exact c2 | exact f_Scroll _ _ _ hl | exact f_ref03Scroll _ _ _ hl | exact f_ref03Same _ _ _ _ _ _ | fail)
      | refine s_op ?_ (hy := by first | fail | fail)
      | refine s_yg ?_
      | refine s_callg ?_ (c := by intro hk hk2; first | exact f_gridded | exact f_big _ _ _ | exact c1 | exact c2 | exact f_Scroll _ _ _ hl | exact f_ref03Scroll _ _ _ hl | exact f_ref03Same _ _ _ _ _ _ | fail)
      | refine s_opg ?_ (hy := by intro hk hk2; first | fail | fail)
      | refine s_skip ?_
      | ((first | refine w_alloc ?_ | refine w_box ?_) <;> intro bb)
      | ((first | refine w_emp ?_ | refine w_make ?_ | refine w_app ?_) <;> intro u hu1 hu2)
      | refine w_stv ?_ | refine w_str ?_ | refine w_cpr ?_ | refine w_cps ?_
      | refine al_last (by kernel_rfl) ?_
    | fail)
    all_goals first | exact ⟨_, [], rs_, List.nil_sublist _, Sub.refl _, rfl⟩ | (exfalso; omega)
end Go.Proofs.YthlikicgikoilaaDoor
