/- Layer 3 (grid): the reference mends a grid. No condition. -/
import Derived.Test.YthlikicgikoilaaDoorG9
namespace Go.Proofs.YthlikicgikoilaaDoor
set_option linter.unusedSimpArgs false
set_option linter.unusedVariables false
set_option maxHeartbeats 4000000
open Go Go.RowKit
set_option maxRecDepth 100000
def mendK (w : Nat) (l : List Cell) (k : Nat) : List Cell := (List.range l.length).map fun i => if i < k ∧ lostM w l i = true then (32, 0) else cAt l i
theorem mendK_len (w : Nat) (l : List Cell) (k : Nat) : (mendK w l k).length = l.length := by simp [mendK]
theorem mendK_at {w : Nat} {l : List Cell} {k i : Nat} (h : i < l.length) : cAt (mendK w l k) i = if i < k ∧ lostM w l i = true then (32, 0) else cAt l i := by
  unfold mendK; rw [cAt, List.getElem?_map]; simp [h]
theorem mendK_zero (w : Nat) (l : List Cell) : mendK w l 0 = l := by
  apply cAt_ext (mendK_len w l 0)
  intro i hi; rw [mendK_len] at hi; rw [mendK_at hi]; simp
theorem mendK_all (w : Nat) (l : List Cell) : mendK w l l.length = mendM w l := by
  apply cAt_ext (by rw [mendK_len, mendM_len])
  intro i hi; rw [mendK_len] at hi; rw [mendK_at hi, mendM_at hi]; simp [hi]
theorem mendK_next (w : Nat) (l : List Cell) (k : Nat) (hk : k < l.length) : (if lostM w l k = true then (mendK w l k).set k (32, 0) else mendK w l k) = mendK w l (k + 1) := by
  apply cAt_ext
  · split <;> simp [mendK_len]
  · intro i hi
    have hi2 : i < l.length := by
      have : (if lostM w l k = true then (mendK w l k).set k (32, 0) else mendK w l k).length = l.length := by split <;> simp [mendK_len]
      omega
    rw [mendK_at hi2]
    by_cases hl : lostM w l k = true
    · rw [if_pos hl, cAt_set _ _ _ _ (by rw [mendK_len]; exact hk), mendK_at hi2]
      by_cases he : i = k
      · subst he; simp [hl]
      · rw [if_neg he]
        have : (i < k) = (i < k + 1) := propext (by omega)
        simp only [this]
    · rw [if_neg hl, mendK_at hi2]
      by_cases he : i = k
      · subst he; simp [hl]
      · have : (i < k) = (i < k + 1) := propext (by omega)
        simp only [this]
attribute [local irreducible] AW AL AO QY varO rowO rsA Opd OpdN vA gvA tupA aggA slA slcA ipA rpA EqK LnK IxK LdK FaK FdK
theorem f_mendO (w h : Nat) (l : List Cell) (hl : l.length = w * h) (hb : w * h ≤ 1920) (h1 : 2 ≤ w) (h2 : w ≤ 80) (h3 : 1 ≤ h) : AF Tryd.prog tab0 43 [gridA w h l] [] (fun A M' => ∃ u, A = aggA [I w, I h, vA u] ∧ M' = [rowO cellT 30 u (mendM w l)]) := by
  have cl : ∀ i, i < l.length → AP Tryd.prog tab0 34 [gridA w h l, I i] (B (lostM w l i)) := fun i hi => f_lost w h l i hl hb h1 h2 h3 hi
  have co := f_ref03own w h l (by omega)
  refine af_intro Tryd.func43 rfl (by decide) Tryd.ntmps43 rfl ?_
  repeat' (first
  | (apply al_call0 rfl rfl rfl rfl (c := co)
     case ha => repeat' (first | exact opds0 | apply opds1 oo_)
     rintro _ _ ⟨u, rfl, rfl⟩; refine al_rowc (List.Mem.head _) fun hu1 hu2 => ?_)
  | refine s_y ?_
    | refine c_ ?_
    | (refine aw_if ?_ ?_ <;> intro hb <;> try (exfalso; first | assumption | omega))
    | refine s_call ?_ (c := by first | exact cl _ (by omega) | fail)
    | refine s_op ?_ (hy := by first | fail | fail)
    | refine s_yg ?_
    | refine s_callg ?_ (c := by intro hk hk2; first | exact cl _ (by omega) | fail)
    | refine s_opg ?_ (hy := by intro hk hk2; first | fail | fail)
    | refine s_skip ?_
    | ((first | refine w_alloc ?_ | refine w_box ?_) <;> intro bb)
    | ((first | refine w_emp ?_ | refine w_make ?_ | refine w_app ?_) <;> intro u hu1 hu2)
    | refine w_stv ?_ | refine w_str ?_ | refine w_cpr ?_ | refine w_cps ?_
    | refine al_last (by kernel_rfl) ?_
  | fail)
  rename_i b1 b2
  refine aw_fl (fun k : Nat => [(1, vA (.pointer (some ⟨b1, 0, none⟩))), (2, vA (.pointer (some ⟨b2, 0, none⟩))), (3, vA (.pointer (some ⟨bb, 0, none⟩))), (4, I k)])
    (fun k => [varO bb 24 [I w, I h, vA u], rowO cellT 30 u (mendK w l k), varO b2 24 [I 0, I 0, vA (.slice none 0 0)], varO b1 24 [I w, I h, slA cellT l]]) (fun k => k ≤ l.length) (fun k => l.length - k) 0 (Nat.zero_le _) wk_ (by rw [mendK_zero]; exact List.Sublist.refl _) ?_
  rintro k i1
  have m5 := mendK_len w l k
  by_cases hlt : k < l.length
  · have hn := mendK_next w l k hlt
    repeat' (first
    | (apply al_call0 rfl rfl rfl rfl (c := co)
       case ha => repeat' (first | exact opds0 | apply opds1 oo_)
       rintro _ _ ⟨u, rfl, rfl⟩; refine al_rowc (List.Mem.head _) fun hu1 hu2 => ?_)
    | refine s_y ?_
      | refine c_ ?_
      | (refine aw_if ?_ ?_ <;> intro hb <;> try (exfalso; first | assumption | omega))
      | refine s_call ?_ (c := by first | exact cl _ (by omega) | fail)
      | refine s_op ?_ (hy := by first | fail | fail)
      | refine s_yg ?_
      | refine s_callg ?_ (c := by intro hk hk2; first | exact cl _ (by omega) | fail)
      | refine s_opg ?_ (hy := by intro hk hk2; first | fail | fail)
      | refine s_skip ?_
      | ((first | refine w_alloc ?_ | refine w_box ?_) <;> intro bb)
      | ((first | refine w_emp ?_ | refine w_make ?_ | refine w_app ?_) <;> intro u hu1 hu2)
      | refine w_stv ?_ | refine w_str ?_ | refine w_cpr ?_ | refine w_cps ?_
      | refine al_last (by kernel_rfl) ?_
    | fail)
    · rw [if_pos hb] at hn
      exact ⟨k + 1, by omega, by omega, wk_, by rw [← hn]; exact List.Sublist.refl _⟩
    · rw [if_neg (by rw [hb]; decide)] at hn
      exact ⟨k + 1, by omega, by omega, wk_, by rw [← hn]; exact List.Sublist.refl _⟩
  · repeat' (first
    | (apply al_call0 rfl rfl rfl rfl (c := co)
       case ha => repeat' (first | exact opds0 | apply opds1 oo_)
       rintro _ _ ⟨u, rfl, rfl⟩; refine al_rowc (List.Mem.head _) fun hu1 hu2 => ?_)
    | refine s_y ?_
      | refine c_ ?_
      | (refine aw_if ?_ ?_ <;> intro hb <;> try (exfalso; first | assumption | omega))
      | refine s_call ?_ (c := by first | exact cl _ (by omega) | fail)
      | refine s_op ?_ (hy := by first | fail | fail)
      | refine s_yg ?_
      | refine s_callg ?_ (c := by intro hk hk2; first | exact cl _ (by omega) | fail)
      | refine s_opg ?_ (hy := by intro hk hk2; first | fail | fail)
      | refine s_skip ?_
      | ((first | refine w_alloc ?_ | refine w_box ?_) <;> intro bb)
      | ((first | refine w_emp ?_ | refine w_make ?_ | refine w_app ?_) <;> intro u hu1 hu2)
      | refine w_stv ?_ | refine w_str ?_ | refine w_cpr ?_ | refine w_cps ?_
      | refine al_last (by kernel_rfl) ?_
    | fail)
    exact ⟨_, [rowO cellT 30 u (mendK w l k)], rs_, sl_, u, rfl, by rw [show k = l.length by omega, mendK_all]⟩
end Go.Proofs.YthlikicgikoilaaDoor
