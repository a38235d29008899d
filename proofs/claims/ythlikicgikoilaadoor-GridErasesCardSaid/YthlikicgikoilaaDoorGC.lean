/- Layer 3 (grid): the reference blanks a grid. No condition. -/
import Derived.Test.YthlikicgikoilaaDoorGB
namespace Go.Proofs.YthlikicgikoilaaDoor
set_option linter.unusedSimpArgs false
set_option linter.unusedVariables false
set_option maxHeartbeats 4000000
open Go Go.RowKit
set_option maxRecDepth 100000
theorem ovr_rep (l : List Cell) (a n : Nat) (h : a + n < l.length) : (ovr l a (List.replicate n (32, 0))).set (a + n) (32, 0) = ovr l a (List.replicate (n + 1) (32, 0)) := by
  have h1 : a + (List.replicate n ((32, 0) : Cell)).length ≤ l.length := by simp; omega
  have h2 : a + (List.replicate (n + 1) ((32, 0) : Cell)).length ≤ l.length := by simp; omega
  apply cAt_ext
  · rw [List.length_set, ovr_len h1, ovr_len h2]
  · intro i hi
    rw [List.length_set, ovr_len h1] at hi
    rw [cAt_set _ _ _ _ (by rw [ovr_len h1]; exact h), cAt_ovr h1, cAt_ovr h2, List.length_replicate, List.length_replicate]
    by_cases q : i = a + n
    · subst q; rw [if_pos rfl, if_neg (by omega), if_pos (by omega), cAt_rep (by omega)]
    · rw [if_neg q]
      by_cases q1 : i < a
      · rw [if_pos q1, if_pos q1]
      · rw [if_neg q1, if_neg q1]
        by_cases q2 : i < a + n
        · rw [if_pos q2, if_pos (by omega), cAt_rep (by omega), cAt_rep (by omega)]
        · rw [if_neg q2, if_neg (by omega)]
theorem whole_rep (w a n : Nat) : WholeIn w a (List.replicate n (32, 0)) := fun j hj => by
  rw [cAt_rep (by simpa using hj)]
  exact ⟨fun k => by simp at k, fun k => by simp at k⟩
attribute [local irreducible] AW AL AO QY varO rowO rsA Opd OpdN vA gvA tupA aggA slA slcA ipA rpA EqK LnK IxK LdK FaK FdK
theorem f_ref03BlankG (w h : Nat) (l : List Cell) (a b : Nat) (hl : l.length ≤ 3000) (hc : okG w h l = true) (hab : a ≤ b) (hbl : b ≤ l.length) :
    AP Tryd.prog tab0 22 [gridA w h l, I a, I b] (tupA [gridA w h (layG l a (List.replicate (b - a) (32, 0))), I 0]) := by
  obtain ⟨w', h', e1, e2, h1, h2, h3, h4, hlen, hall⟩ := okG_nat hc
  obtain rfl : w = w' := by omega
  obtain rfl : h = h' := by omega
  have hb := side_le h2 h4
  have hnn : (0 : Int) ≤ ((w * h : Nat) : Int) := Int.natCast_nonneg _
  have c1 : AP Tryd.prog tab0 18 [gridA w h l] (B true) := hc ▸ f_ref03Is w h l hl
  have co := f_ref03own w h l (by omega)
  have cm : ∀ m : List Cell, m.length = l.length → AP Tryd.prog tab0 43 [gridA w h m] (gridA w h (mendM w m)) := fun m hm => (f_mendO w h m (by omega) hb h1 h2 h3).frz1 fza_
  have hml := mend_lay w h l a (List.replicate (b - a) (32, 0)) h1 h3 hlen hall (by simp; omega) (whole_rep w a (b - a))
  clear hall
  refine af_intro Tryd.func22 rfl (by decide) Tryd.ntmps22 rfl ?_
  repeat' (first
  | (apply al_call0 rfl rfl rfl rfl (c := co)
     case ha => repeat' (first | exact opds0 | apply opds1 oo_)
     rintro _ _ ⟨u, rfl, rfl⟩; refine al_rowc (List.Mem.head _) fun hu1 hu2 => ?_)
  | refine s_y ?_
    | refine c_ ?_
    | (refine aw_if ?_ ?_ <;> intro hb <;> try (exfalso; first | assumption | omega))
    | refine s_call ?_ (c := by first | exact c1 | exact cm _ (by omega) | fail)
    | refine s_op ?_ (hy := by first | fail | fail)
    | refine s_yg ?_
    | refine s_callg ?_ (c := by intro hk hk2; first | exact c1 | exact cm _ (by omega) | fail)
    | refine s_opg ?_ (hy := by intro hk hk2; first | fail | fail)
    | refine s_skip ?_
    | ((first | refine w_alloc ?_ | refine w_box ?_) <;> intro bb)
    | ((first | refine w_emp ?_ | refine w_make ?_ | refine w_app ?_) <;> intro u hu1 hu2)
    | refine w_stv ?_ | refine w_str ?_ | refine w_cpr ?_ | refine w_cps ?_
    | refine al_last (by kernel_rfl) ?_
  | fail)
  all_goals first | (exfalso; simp at hb; omega) | skip
  rename_i b3 b6
  refine aw_fl (fun k : Nat => [(2, I b), (3, vA (.pointer (some ⟨b3, 0, none⟩))), (6, vA (.pointer (some ⟨b6, 0, none⟩))), (8, vA (.pointer (some ⟨bb, 0, none⟩))), (9, I (a + k : Nat))])
    (fun k => [varO bb 24 [I w, I h, vA u], rowO cellT 30 u (ovr l a (List.replicate k (32, 0))), varO b6 24 [I 0, I 0, vA (.slice none 0 0)], varO b3 24 [I w, I h, slA cellT l]]) (fun k => k ≤ b - a) (fun k => b - a - k) 0 (Nat.zero_le _) wk_ (by rw [show ovr l a (List.replicate 0 ((32, 0) : Cell)) = l by simp [ovr]]; exact List.Sublist.refl _) ?_
  rintro k i1
  have hlo : (ovr l a (List.replicate k ((32, 0) : Cell))).length = l.length := ovr_len (by simp; omega)
  by_cases hlt : k < b - a
  · have hn := ovr_rep l a k (by omega)
    repeat' (first
    | (apply al_call0 rfl rfl rfl rfl (c := co)
       case ha => repeat' (first | exact opds0 | apply opds1 oo_)
       rintro _ _ ⟨u, rfl, rfl⟩; refine al_rowc (List.Mem.head _) fun hu1 hu2 => ?_)
    | refine s_y ?_
      | refine c_ ?_
      | (refine aw_if ?_ ?_ <;> intro hb <;> try (exfalso; first | assumption | omega))
      | refine s_call ?_ (c := by first | exact c1 | exact cm _ (by omega) | fail)
      | refine s_op ?_ (hy := by first | fail | fail)
      | refine s_yg ?_
      | refine s_callg ?_ (c := by intro hk hk2; first | exact c1 | exact cm _ (by omega) | fail)
      | refine s_opg ?_ (hy := by intro hk hk2; first | fail | fail)
      | refine s_skip ?_
      | ((first | refine w_alloc ?_ | refine w_box ?_) <;> intro bb)
      | ((first | refine w_emp ?_ | refine w_make ?_ | refine w_app ?_) <;> intro u hu1 hu2)
      | refine w_stv ?_ | refine w_str ?_ | refine w_cpr ?_ | refine w_cps ?_
      | refine al_last (by kernel_rfl) ?_
    | fail)
    exact ⟨k + 1, by omega, by omega, wk_, by rw [← hn]; exact List.Sublist.refl _⟩
  · refine aw_fz (u := u) (l := ovr l a (List.replicate k (32, 0))) pick_ fzf_ fzmv_ ?_
    repeat' (first
    | (apply al_call0 rfl rfl rfl rfl (c := co)
       case ha => repeat' (first | exact opds0 | apply opds1 oo_)
       rintro _ _ ⟨u, rfl, rfl⟩; refine al_rowc (List.Mem.head _) fun hu1 hu2 => ?_)
    | refine s_y ?_
      | refine c_ ?_
      | (refine aw_if ?_ ?_ <;> intro hb <;> try (exfalso; first | assumption | omega))
      | refine s_call ?_ (c := by first | exact c1 | exact cm _ (by omega) | fail)
      | refine s_op ?_ (hy := by first | fail | fail)
      | refine s_yg ?_
      | refine s_callg ?_ (c := by intro hk hk2; first | exact c1 | exact cm _ (by omega) | fail)
      | refine s_opg ?_ (hy := by intro hk hk2; first | fail | fail)
      | refine s_skip ?_
      | ((first | refine w_alloc ?_ | refine w_box ?_) <;> intro bb)
      | ((first | refine w_emp ?_ | refine w_make ?_ | refine w_app ?_) <;> intro u hu1 hu2)
      | refine w_stv ?_ | refine w_str ?_ | refine w_cpr ?_ | refine w_cps ?_
      | refine al_last (by kernel_rfl) ?_
    | fail)
    refine ⟨_, [], rs_, List.nil_sublist _, ?_, rfl⟩
    rw [show k = b - a by omega, hml]
    exact Sub.refl _
end Go.Proofs.YthlikicgikoilaaDoor
