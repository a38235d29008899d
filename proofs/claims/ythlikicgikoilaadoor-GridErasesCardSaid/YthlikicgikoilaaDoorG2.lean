/- Layer 3 (grid): the program's makers of grids, and whether a grid is right. No condition. -/
import Derived.Test.YthlikicgikoilaaDoorG1
namespace Go.Proofs.YthlikicgikoilaaDoor
set_option linter.unusedSimpArgs false
set_option linter.unusedVariables false
set_option maxHeartbeats 4000000
open Go Go.RowKit
attribute [local irreducible] AW AL AO QY varO rowO rsA Opd OpdN vA gvA tupA aggA slA slcA ipA rpA EqK LnK IxK LdK FaK FdK
set_option maxRecDepth 100000
theorem set_next (p : List Cell) (n k : Nat) (z d : Cell) (hp : p.length = k) (h : k < n) : (p ++ List.replicate (n - k) d).set k z = (p ++ [z]) ++ List.replicate (n - (k + 1)) d := by
  have e : n - k = (n - (k + 1)) + 1 := by omega
  subst hp
  rw [e, List.replicate_succ, List.set_append_right _ _ (Nat.le_refl _), Nat.sub_self, List.set_cons_zero, List.append_assoc]; rfl
theorem f_blank : AP Tryd.prog tab0 44 [] (cellA (32, 0)) := by
  refine af_intro Tryd.func44 rfl (by decide) Tryd.ntmps44 rfl ?_
  repeat' (first
  | fail
  | refine s_y ?_
    | refine c_ ?_
    | (refine aw_if ?_ ?_ <;> intro hb <;> try (exfalso; first | assumption | omega))
    | refine s_call ?_ (c := by first | fail | fail)
    | refine s_op ?_ (hy := by first | fail | fail)
    | refine s_yg ?_
    | refine s_callg ?_ (c := by intro hk hk2; first | fail | fail)
    | refine s_opg ?_ (hy := by intro hk hk2; first | fail | fail)
    | refine s_skip ?_
    | ((first | refine w_alloc ?_ | refine w_box ?_) <;> intro bb)
    | ((first | refine w_emp ?_ | refine w_make ?_ | refine w_app ?_) <;> intro u hu1 hu2)
    | refine w_stv ?_ | refine w_str ?_ | refine w_cpr ?_ | refine w_cps ?_
    | refine al_last (by kernel_rfl) ?_
  | fail)
  exact ⟨_, [], rs_, List.nil_sublist _, Sub.refl _, rfl⟩
theorem f_fill (w h : Nat) (hb : w * h ≤ 100000) : AF Tryd.prog tab0 29 [I w, I h] [] (fun A M' => ∃ u, A = aggA [I w, I h, vA u] ∧ M' = [rowO cellT 30 u (List.replicate (w * h) (32, 0))]) := by
  have hnn : (0 : Int) ≤ ((w * h : Nat) : Int) := Int.natCast_nonneg _
  refine af_intro Tryd.func29 rfl (by decide) Tryd.ntmps29 rfl ?_
  repeat' (first
  | fail
  | refine s_y ?_
    | refine c_ ?_
    | (refine aw_if ?_ ?_ <;> intro hb <;> try (exfalso; first | assumption | omega))
    | refine s_call ?_ (c := by first | exact f_blank | fail)
    | refine s_op ?_ (hy := by first | fail | fail)
    | refine s_yg ?_
    | refine s_callg ?_ (c := by intro hk hk2; first | exact f_blank | fail)
    | refine s_opg ?_ (hy := by intro hk hk2; first | fail | fail)
    | refine s_skip ?_
    | ((first | refine w_alloc ?_ | refine w_box ?_) <;> intro bb)
    | ((first | refine w_emp ?_ | refine w_make ?_ | refine w_app ?_) <;> intro u hu1 hu2)
    | refine w_stv ?_ | refine w_str ?_ | refine w_cpr ?_ | refine w_cps ?_
    | refine al_last (by kernel_rfl) ?_
  | fail)
  simp only [List.length_replicate]
  refine aw_for (fun k : Nat => [(0, I w), (1, I h), (4, vA (.pointer (some ⟨bb, 0, none⟩))), (5, vA u), (12, I (w * h : Nat)), (13, I k)]) (fun k => [rowO cellT 30 u (List.replicate k (32, 0) ++ List.replicate (w * h - k) (0, 0)), varO bb 24 [I 0, I 0, vA (.slice none 0 0)]]) (fun k => k ≤ w * h) (fun k => w * h - k) 0 (Nat.zero_le _) wk_ rfl ?_
  rintro k h1
  by_cases hlt : k < w * h
  · repeat' (first
    | fail
    | refine s_y ?_
      | refine c_ ?_
      | (refine aw_if ?_ ?_ <;> intro hb <;> try (exfalso; first | assumption | omega))
      | refine s_call ?_ (c := by first | exact f_blank | fail)
      | refine s_op ?_ (hy := by first | fail | fail)
      | refine s_yg ?_
      | refine s_callg ?_ (c := by intro hk hk2; first | exact f_blank | fail)
      | refine s_opg ?_ (hy := by intro hk hk2; first | fail | fail)
      | refine s_skip ?_
      | ((first | refine w_alloc ?_ | refine w_box ?_) <;> intro bb)
      | ((first | refine w_emp ?_ | refine w_make ?_ | refine w_app ?_) <;> intro u hu1 hu2)
      | refine w_stv ?_ | refine w_str ?_ | refine w_cpr ?_ | refine w_cps ?_
      | refine al_last (by kernel_rfl) ?_
    | fail)
    refine ⟨k + 1, by omega, by omega, wk_, ?_⟩
    rw [set_next _ _ _ _ _ (by simp) hlt, List.replicate_succ']
  · repeat' (first
    | fail
    | refine s_y ?_
      | refine c_ ?_
      | (refine aw_if ?_ ?_ <;> intro hb <;> try (exfalso; first | assumption | omega))
      | refine s_call ?_ (c := by first | exact f_blank | fail)
      | refine s_op ?_ (hy := by first | fail | fail)
      | refine s_yg ?_
      | refine s_callg ?_ (c := by intro hk hk2; first | exact f_blank | fail)
      | refine s_opg ?_ (hy := by intro hk hk2; first | fail | fail)
      | refine s_skip ?_
      | ((first | refine w_alloc ?_ | refine w_box ?_) <;> intro bb)
      | ((first | refine w_emp ?_ | refine w_make ?_ | refine w_app ?_) <;> intro u hu1 hu2)
      | refine w_stv ?_ | refine w_str ?_ | refine w_cpr ?_ | refine w_cps ?_
      | refine al_last (by kernel_rfl) ?_
    | fail)
    refine ⟨_, _, rs_, (List.Sublist.cons_cons _ (List.nil_sublist _)), u, rfl, ?_⟩
    rw [show w * h - k = 0 by omega, show k = w * h by omega, List.replicate_zero, List.append_nil]
theorem f_own (w h : Int) (l : List Cell) (hl : l.length ≤ 100000) : AF Tryd.prog tab0 37 [gridA w h l] [] (fun A M' => ∃ u, A = aggA [I w, I h, vA u] ∧ M' = [rowO cellT 30 u l]) := by
  refine af_intro Tryd.func37 rfl (by decide) Tryd.ntmps37 rfl ?_
  repeat' (first
  | fail
  | refine s_y ?_
    | refine c_ ?_
    | (refine aw_if ?_ ?_ <;> intro hb <;> try (exfalso; first | assumption | omega))
    | refine s_call ?_ (c := by first | exact f_blank | fail)
    | refine s_op ?_ (hy := by first | fail | fail)
    | refine s_yg ?_
    | refine s_callg ?_ (c := by intro hk hk2; first | exact f_blank | fail)
    | refine s_opg ?_ (hy := by intro hk hk2; first | fail | fail)
    | refine s_skip ?_
    | ((first | refine w_alloc ?_ | refine w_box ?_) <;> intro bb)
    | ((first | refine w_emp ?_ | refine w_make ?_ | refine w_app ?_) <;> intro u hu1 hu2)
    | refine w_stv ?_ | refine w_str ?_ | refine w_cpr ?_ | refine w_cps ?_
    | refine al_last (by kernel_rfl) ?_
  | fail)
  refine ⟨_, _, rs_, (List.Sublist.cons_cons _ (List.nil_sublist _)), u, rfl, ?_⟩
  rw [List.length_replicate, List.take_length, show ovr (List.replicate l.length ((0, 0) : Cell)) 0 l = l by simp [ovr]]
def newR (w h : Int) : (Int × Int × List Cell) × Int := if sidesM w h then ((w, h, List.replicate (w.toNat * h.toNat) (32, 0)), 0) else ((0, 0, []), 4)
def grid2 (x : (Int × Int × List Cell) × Int) : AV := tupA [gridA x.1.1 x.1.2.1 x.1.2.2, I x.2]
theorem side_le {w h : Nat} (hw : w ≤ 80) (hh : h ≤ 24) : w * h ≤ 1920 := Nat.mul_le_mul hw hh
theorem sides_nat {w h : Int} (hs : sidesM w h = true) : ∃ w' h' : Nat, w = w' ∧ h = h' ∧ 2 ≤ w' ∧ w' ≤ 80 ∧ 1 ≤ h' ∧ h' ≤ 24 := by
  simp [sidesM] at hs
  exact ⟨w.toNat, h.toNat, by omega, by omega, by omega, by omega, by omega, by omega⟩
theorem f_NewO (w h : Nat) (h1 : 2 ≤ w) (h2 : w ≤ 80) (h3 : 1 ≤ h) (h4 : h ≤ 24) : AF Tryd.prog tab0 11 [I w, I h] [] (fun A M' => ∃ u, A = tupA [aggA [I w, I h, vA u], I 0] ∧ M' = [rowO cellT 30 u (List.replicate (w * h) (32, 0))]) := by
  have hb := side_le h2 h4
  refine af_intro Tryd.func11 rfl (by decide) Tryd.ntmps11 rfl ?_
  repeat' (first
  | (refine al_call0 rfl rfl rfl rfl os_ (f_fill _ _ (by omega)) ?_; rintro _ _ ⟨u, rfl, rfl⟩; refine al_rowc (List.Mem.head _) fun hu1 hu2 => ?_)
  | refine s_y ?_
    | refine c_ ?_
    | (refine aw_if ?_ ?_ <;> intro hb <;> try (exfalso; first | assumption | omega))
    | refine s_call ?_ (c := by first | fail | fail)
    | refine s_op ?_ (hy := by first | fail | fail)
    | refine s_yg ?_
    | refine s_callg ?_ (c := by intro hk hk2; first | fail | fail)
    | refine s_opg ?_ (hy := by intro hk hk2; first | fail | fail)
    | refine s_skip ?_
    | ((first | refine w_alloc ?_ | refine w_box ?_) <;> intro bb)
    | ((first | refine w_emp ?_ | refine w_make ?_ | refine w_app ?_) <;> intro u hu1 hu2)
    | refine w_stv ?_ | refine w_str ?_ | refine w_cpr ?_ | refine w_cps ?_
    | refine al_last (by kernel_rfl) ?_
  | fail)
  exact ⟨_, _, rs_, sl_, u, rfl, rfl⟩
theorem f_New (w h : Int) : AP Tryd.prog tab0 11 [I w, I h] (grid2 (newR w h)) := by
  by_cases hs : sidesM w h = true
  · obtain ⟨w, h, rfl, rfl, h1, h2, h3, h4⟩ := sides_nat hs
    have := (f_NewO w h h1 h2 h3 h4).frz1 fza_
    simpa only [newR, hs, if_true, grid2, Int.toNat_natCast] using this
  · have hs' : ¬ (2 ≤ w ∧ w ≤ 80 ∧ 1 ≤ h ∧ h ≤ 24) := by simpa [sidesM, and_assoc] using hs
    refine af_intro Tryd.func11 rfl (by decide) Tryd.ntmps11 rfl ?_
    repeat' (first
    | (refine al_call0 rfl rfl rfl rfl os_ (f_fill _ _ (by omega)) ?_; rintro _ _ ⟨u, rfl, rfl⟩; refine al_rowc (List.Mem.head _) fun hu1 hu2 => ?_)
    | refine s_y ?_
      | refine c_ ?_
      | (refine aw_if ?_ ?_ <;> intro hb <;> try (exfalso; first | assumption | omega))
      | refine s_call ?_ (c := by first | fail | fail)
      | refine s_op ?_ (hy := by first | fail | fail)
      | refine s_yg ?_
      | refine s_callg ?_ (c := by intro hk hk2; first | fail | fail)
      | refine s_opg ?_ (hy := by intro hk hk2; first | fail | fail)
      | refine s_skip ?_
      | ((first | refine w_alloc ?_ | refine w_box ?_) <;> intro bb)
      | ((first | refine w_emp ?_ | refine w_make ?_ | refine w_app ?_) <;> intro u hu1 hu2)
      | refine w_stv ?_ | refine w_str ?_ | refine w_cpr ?_ | refine w_cps ?_
      | refine al_last (by kernel_rfl) ?_
    | fail)
    refine ⟨_, [], rs_, List.nil_sublist _, ?_, rfl⟩
    simp only [newR, hs, grid2]; exact sub_noG
end Go.Proofs.YthlikicgikoilaaDoor
