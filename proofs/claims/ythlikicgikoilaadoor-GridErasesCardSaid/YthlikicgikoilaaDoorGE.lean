/- Layer 3 (grid): the reference puts a sign. No condition. -/
import Derived.Test.YthlikicgikoilaaDoorGD
namespace Go.Proofs.YthlikicgikoilaaDoor
set_option linter.unusedSimpArgs false
set_option linter.unusedVariables false
set_option maxHeartbeats 4000000
open Go Go.RowKit
set_option maxRecDepth 100000
theorem cellsM_shown {r : Int} (hs : shown r = true) : cellsM r = if isW r then [(r, 1), (r, 2)] else [(r, 0)] := by
  simp [cellsM, ctl_shown hs, hs]
theorem pos_mod {w y x : Nat} (h : x < w) : (y * w + x) % w = x := by
  rw [Nat.add_comm, Nat.add_mul_mod_self_right, Nat.mod_eq_of_lt h]
theorem cells_whole (w y x : Nat) (r : Int) (hs : shown r = true) (hx : x + (cellsM r).length ≤ w) : WholeIn w (y * w + x) (cellsM r) := by
  rw [cellsM_shown hs] at hx ⊢
  cases hw : isW r with
  | true =>
    rw [hw] at hx
    simp only [if_true, List.length_cons, List.length_nil] at hx ⊢
    have h0 := pos_mod (w := w) (y := y) (x := x) (by omega)
    have h1 := pos_mod (w := w) (y := y) (x := x + 1) (by omega)
    intro j hj
    simp only [List.length_cons, List.length_nil] at hj
    have : j = 0 ∨ j = 1 := by omega
    rcases this with rfl | rfl
    · refine ⟨fun _ => ⟨by simp, rfl, by rw [Nat.add_zero, h0]; omega⟩, fun h => by simp [cAt] at h⟩
    · refine ⟨fun h => by simp [cAt] at h, fun _ => ⟨by omega, rfl, by rw [Nat.add_assoc, h1]; omega⟩⟩
  | false =>
    simp only [Bool.false_eq_true, if_false]
    intro j hj
    simp only [List.length_cons, List.length_nil] at hj
    obtain rfl : j = 0 := by omega
    exact ⟨fun h => by simp [cAt] at h, fun h => by simp [cAt] at h⟩
theorem ovr_step (l : List Cell) (a : Nat) (cs : List Cell) (k : Nat) (hk : k < cs.length) (h : a + cs.length ≤ l.length) : (ovr l a (cs.take k)).set (a + k) (cAt cs k) = ovr l a (cs.take (k + 1)) := by
  have h1 : a + (cs.take k).length ≤ l.length := by simp; omega
  have h2 : a + (cs.take (k + 1)).length ≤ l.length := by simp; omega
  have e1 : (cs.take k).length = k := by simp; omega
  have e2 : (cs.take (k + 1)).length = k + 1 := by simp; omega
  apply cAt_ext
  · rw [List.length_set, ovr_len h1, ovr_len h2]
  · intro i hi
    rw [List.length_set, ovr_len h1] at hi
    rw [cAt_set _ _ _ _ (by rw [ovr_len h1]; omega), cAt_ovr h1, cAt_ovr h2, e1, e2]
    by_cases q : i = a + k
    · subst q; rw [if_pos rfl, if_neg (by omega), if_pos (by omega), cAt_take (by omega), show a + k - a = k by omega]
    · rw [if_neg q]
      by_cases q1 : i < a
      · rw [if_pos q1, if_pos q1]
      · rw [if_neg q1, if_neg q1]
        by_cases q2 : i < a + k
        · rw [if_pos q2, if_pos (by omega), cAt_take (by omega), cAt_take (by omega)]
        · rw [if_neg q2, if_neg (by omega)]
theorem ovr_nil (l : List Cell) (a : Nat) (cs : List Cell) : ovr l a (cs.take 0) = l := by simp [ovr]
attribute [local irreducible] AW AL AO QY varO rowO rsA Opd OpdN vA gvA tupA aggA slA slcA ipA rpA EqK LnK IxK LdK FaK FdK
theorem f_ref03PutG (w h : Nat) (l : List Cell) (x y : Nat) (r : Int) (hl : l.length ≤ 3000) (hc : okG w h l = true ∧ (0 : Int) ≤ x ∧ (x : Int) < w ∧ (0 : Int) ≤ y ∧ (y : Int) < h) (hs : shown r = true) (hx : x + (cellsM r).length ≤ w) :
    AP Tryd.prog tab0 20 [gridA w h l, I x, I y, R r] (tupA [gridA w h (layG l (y * w + x) (cellsM r)), I 0]) := by
  obtain ⟨w', h', e1, e2, h1, h2, h3, h4, hlen, hall⟩ := okG_nat hc.1
  obtain rfl : w = w' := by omega
  obtain rfl : h = h' := by omega
  have hb := side_le h2 h4
  have hn := cellsM_len r
  have hp := cell_pos (show x + (cellsM r).length - 1 < w by omega) (show y < h by omega)
  have m3 : (0 : Int) ≤ ((y * w : Nat) : Int) := Int.natCast_nonneg _
  have c1 : AP Tryd.prog tab0 31 [gridA w h l, I x, I y] (B true) := (f_in w h l x y hl).to (congrArg B (by rw [decide_eq_true hc]))
  have co := f_ref03own w h l (by omega)
  have cm : ∀ m : List Cell, m.length = l.length → AP Tryd.prog tab0 43 [gridA w h m] (gridA w h (mendM w m)) := fun m hm => (f_mendO w h m (by omega) hb h1 h2 h3).frz1 fza_
  have hml := mend_lay w h l (y * w + x) (cellsM r) h1 h3 hlen hall (by omega) (cells_whole w y x r hs hx)
  have hwx : isW r = true → x + 2 ≤ w := fun hw => by rw [cellsM_shown hs, if_pos hw] at hx; exact hx
  clear hall
  refine af_intro Tryd.func20 rfl (by decide) Tryd.ntmps20 rfl ?_
  repeat' (first
  | (apply al_call0 rfl rfl rfl rfl (c := co)
     case ha => repeat' (first | exact opds0 | apply opds1 oo_)
     rintro _ _ ⟨u, rfl, rfl⟩; refine al_rowc (List.Mem.head _) fun hu1 hu2 => ?_)
  | refine s_y ?_
    | refine c_ ?_
    | (refine aw_if ?_ ?_ <;> intro hb <;> try (exfalso; first | assumption | omega))
    | refine s_call ?_ (c := by first | exact c1 | exact f_ref02Shown _ | exact f_ref02Wide _ | exact f_ref02Cells _ | exact cm _ (by omega) | fail)
    | refine s_op ?_ (hy := by first | fail | fail)
    | refine s_yg ?_
    | refine s_callg ?_ (c := by intro hk hk2; first | exact c1 | exact f_ref02Shown _ | exact f_ref02Wide _ | exact f_ref02Cells _ | exact cm _ (by omega) | fail)
    | refine s_opg ?_ (hy := by intro hk hk2; first | fail | fail)
    | refine s_skip ?_
    | ((first | refine w_alloc ?_ | refine w_box ?_) <;> intro bb)
    | ((first | refine w_emp ?_ | refine w_make ?_ | refine w_app ?_) <;> intro u hu1 hu2)
    | refine w_stv ?_ | refine w_str ?_ | refine w_cpr ?_ | refine w_cps ?_
    | refine al_last (by kernel_rfl) ?_
  | fail)
  all_goals first | (exfalso; rcases hb with (q | q) | q <;> first | exact q | (rw [hs] at q; cases q) | (have := hwx q.1; omega)) | skip
  rename_i b4 b8
  refine aw_fl (fun k : Nat => [(1, I x), (2, I y), (4, vA (.pointer (some ⟨b4, 0, none⟩))), (8, vA (.pointer (some ⟨b8, 0, none⟩))), (10, slA cellT (cellsM r)), (11, vA (.pointer (some ⟨bb, 0, none⟩))), (12, I k)])
    (fun k => [varO bb 24 [I w, I h, vA u], rowO cellT 30 u (ovr l (y * w + x) ((cellsM r).take k)), varO b8 24 [I 0, I 0, vA (.slice none 0 0)], varO b4 24 [I w, I h, slA cellT l]]) (fun k => k ≤ (cellsM r).length) (fun k => (cellsM r).length - k) 0 (Nat.zero_le _) wk_ (by rw [ovr_nil]; exact List.Sublist.refl _) ?_
  rintro k i1
  have hlo : (ovr l (y * w + x) ((cellsM r).take k)).length = l.length := ovr_len (by simp; omega)
  by_cases hlt : k < (cellsM r).length
  · have hn := ovr_step l (y * w + x) (cellsM r) k hlt (by omega)
    have hat := c_in hlt
    generalize cAt (cellsM r) k = c at *
    obtain ⟨c1', c2'⟩ := c
    repeat' (first
    | (apply al_call0 rfl rfl rfl rfl (c := co)
       case ha => repeat' (first | exact opds0 | apply opds1 oo_)
       rintro _ _ ⟨u, rfl, rfl⟩; refine al_rowc (List.Mem.head _) fun hu1 hu2 => ?_)
    | refine s_y ?_
      | refine c_ ?_
      | (refine aw_if ?_ ?_ <;> intro hb <;> try (exfalso; first | assumption | omega))
      | refine s_call ?_ (c := by first | exact c1 | exact f_ref02Shown _ | exact f_ref02Wide _ | exact f_ref02Cells _ | exact cm _ (by omega) | fail)
      | refine s_op ?_ (hy := by first | fail | fail)
      | refine s_yg ?_
      | refine s_callg ?_ (c := by intro hk hk2; first | exact c1 | exact f_ref02Shown _ | exact f_ref02Wide _ | exact f_ref02Cells _ | exact cm _ (by omega) | fail)
      | refine s_opg ?_ (hy := by intro hk hk2; first | fail | fail)
      | refine s_skip ?_
      | ((first | refine w_alloc ?_ | refine w_box ?_) <;> intro bb)
      | ((first | refine w_emp ?_ | refine w_make ?_ | refine w_app ?_) <;> intro u hu1 hu2)
      | refine w_stv ?_ | refine w_str ?_ | refine w_cpr ?_ | refine w_cps ?_
      | refine al_last (by kernel_rfl) ?_
    | fail)
    exact ⟨k + 1, by omega, by omega, wk_, by rw [← hn]; exact List.Sublist.refl _⟩
  · refine aw_fz (u := u) (l := ovr l (y * w + x) ((cellsM r).take k)) pick_ fzf_ fzmv_ ?_
    repeat' (first
    | (apply al_call0 rfl rfl rfl rfl (c := co)
       case ha => repeat' (first | exact opds0 | apply opds1 oo_)
       rintro _ _ ⟨u, rfl, rfl⟩; refine al_rowc (List.Mem.head _) fun hu1 hu2 => ?_)
    | refine s_y ?_
      | refine c_ ?_
      | (refine aw_if ?_ ?_ <;> intro hb <;> try (exfalso; first | assumption | omega))
      | refine s_call ?_ (c := by first | exact c1 | exact f_ref02Shown _ | exact f_ref02Wide _ | exact f_ref02Cells _ | exact cm _ (by omega) | fail)
      | refine s_op ?_ (hy := by first | fail | fail)
      | refine s_yg ?_
      | refine s_callg ?_ (c := by intro hk hk2; first | exact c1 | exact f_ref02Shown _ | exact f_ref02Wide _ | exact f_ref02Cells _ | exact cm _ (by omega) | fail)
      | refine s_opg ?_ (hy := by intro hk hk2; first | fail | fail)
      | refine s_skip ?_
      | ((first | refine w_alloc ?_ | refine w_box ?_) <;> intro bb)
      | ((first | refine w_emp ?_ | refine w_make ?_ | refine w_app ?_) <;> intro u hu1 hu2)
      | refine w_stv ?_ | refine w_str ?_ | refine w_cpr ?_ | refine w_cps ?_
      | refine al_last (by kernel_rfl) ?_
    | fail)
    refine ⟨_, [], rs_, List.nil_sublist _, ?_, rfl⟩
    rw [List.take_of_length_le (by omega), hml]
    exact Sub.refl _
theorem f_ref03Put (w h : Int) (l : List Cell) (x y r : Int) (hl : l.length ≤ 3000) : AP Tryd.prog tab0 20 [gridA w h l, I x, I y, R r] (grid2 (putR w h l x y r)) := by
  by_cases hc : (okG w h l = true ∧ 0 ≤ x ∧ x < w ∧ 0 ≤ y ∧ y < h) ∧ shown r = true ∧ x + (cellsM r).length ≤ w
  · have hc' := hc
    obtain ⟨⟨hok, x1, x2, y1, y2⟩, hs, hx⟩ := hc
    obtain ⟨w, h, rfl, rfl, _⟩ := okG_nat hok
    obtain ⟨x, rfl⟩ := Int.eq_ofNat_of_zero_le x1
    obtain ⟨y, rfl⟩ := Int.eq_ofNat_of_zero_le y1
    have := f_ref03PutG w h l x y r hl hc'.1 hs (by omega)
    simpa only [putR, if_pos hc', grid2, Int.toNat_natCast] using this
  · have hw : isW r = false → shown r = true → (cellsM r).length = 1 := fun a b => by rw [cellsM_shown b, a]; rfl
    have hw2 : isW r = true → shown r = true → (cellsM r).length = 2 := fun a b => by rw [cellsM_shown b, a]; rfl
    by_cases hin : okG w h l = true ∧ 0 ≤ x ∧ x < w ∧ 0 ≤ y ∧ y < h
    · have c1 : AP Tryd.prog tab0 31 [gridA w h l, I x, I y] (B true) := (f_in w h l x y hl).to (congrArg B (by rw [decide_eq_true hin]))
      obtain ⟨w', h', rfl, rfl, h1, h2, h3, h4, hlen, hall⟩ := okG_nat hin.1
      clear hall
      refine af_intro Tryd.func20 rfl (by decide) Tryd.ntmps20 rfl ?_
      have hsn : shown r = true → isW r = true ∧ x = (w' : Int) - 1 := fun b => by
        cases hwr : isW r with
        | true => exact ⟨rfl, by have := hw2 hwr b; have : ¬ (x + (cellsM r).length ≤ w') := fun q => hc ⟨hin, b, q⟩; omega⟩
        | false => exact absurd ⟨hin, b, by rw [hw hwr b]; omega⟩ hc
      repeat' (first
      | (apply al_call0 rfl rfl rfl rfl (c := co)
         case ha => repeat' (first | exact opds0 | apply opds1 oo_)
         rintro _ _ ⟨u, rfl, rfl⟩; refine al_rowc (List.Mem.head _) fun hu1 hu2 => ?_)
      | refine s_y ?_
        | refine c_ ?_
        | (refine aw_if ?_ ?_ <;> intro hb <;> try (exfalso; first | assumption | omega))
        | refine s_call ?_ (c := by first | exact c1 | exact f_ref02Shown _ | exact f_ref02Wide _ | exact f_ref02Cells _ | exact cm _ (by omega) | fail)
        | refine s_op ?_ (hy := by first | fail | fail)
        | refine s_yg ?_
        | refine s_callg ?_ (c := by intro hk hk2; first | exact c1 | exact f_ref02Shown _ | exact f_ref02Wide _ | exact f_ref02Cells _ | exact cm _ (by omega) | fail)
        | refine s_opg ?_ (hy := by intro hk hk2; first | fail | fail)
        | refine s_skip ?_
        | ((first | refine w_alloc ?_ | refine w_box ?_) <;> intro bb)
        | ((first | refine w_emp ?_ | refine w_make ?_ | refine w_app ?_) <;> intro u hu1 hu2)
        | refine w_stv ?_ | refine w_str ?_ | refine w_cpr ?_ | refine w_cps ?_
        | refine al_last (by kernel_rfl) ?_
      | fail)
      all_goals first | (exfalso; obtain ⟨⟨_, q2⟩, q3⟩ := hb; obtain ⟨q4, q5⟩ := hsn q2; rcases q3 with q3 | q3 <;> first | (rw [q4] at q3; cases q3) | omega) | skip
      refine ⟨_, [], rs_, List.nil_sublist _, ?_, rfl⟩
      simp only [putR, if_neg hc, grid2]; exact sub_noG
    · have c1 : AP Tryd.prog tab0 31 [gridA w h l, I x, I y] (B false) := (f_in w h l x y hl).to (congrArg B (by rw [decide_eq_false hin]))
      refine af_intro Tryd.func20 rfl (by decide) Tryd.ntmps20 rfl ?_
      repeat' (first
      | (apply al_call0 rfl rfl rfl rfl (c := co)
         case ha => repeat' (first | exact opds0 | apply opds1 oo_)
         rintro _ _ ⟨u, rfl, rfl⟩; refine al_rowc (List.Mem.head _) fun hu1 hu2 => ?_)
      | refine s_y ?_
        | refine c_ ?_
        | (refine aw_if ?_ ?_ <;> intro hb <;> try (exfalso; first | assumption | omega))
        | refine s_call ?_ (c := by first | exact c1 | exact f_ref02Shown _ | exact f_ref02Wide _ | exact f_ref02Cells _ | exact cm _ (by omega) | fail)
        | refine s_op ?_ (hy := by first | (apply ay_subw rfl; exact oog_; exact oog_) | fail)
        | refine s_yg ?_
        | refine s_callg ?_ (c := by intro hk hk2; first | exact c1 | exact f_ref02Shown _ | exact f_ref02Wide _ | exact f_ref02Cells _ | exact cm _ (by omega) | fail)
        | refine s_opg ?_ (hy := by intro hk hk2; first | (apply ay_subw rfl; exact oog_; exact oog_) | fail)
        | refine s_skip ?_
        | ((first | refine w_alloc ?_ | refine w_box ?_) <;> intro bb)
        | ((first | refine w_emp ?_ | refine w_make ?_ | refine w_app ?_) <;> intro u hu1 hu2)
        | refine w_stv ?_ | refine w_str ?_ | refine w_cpr ?_ | refine w_cps ?_
        | refine al_last (by kernel_rfl) ?_
      | fail)
      all_goals first | (exfalso; obtain ⟨⟨q1, q2⟩, q3⟩ := hb; exact q1) | skip
      refine ⟨_, [], rs_, List.nil_sublist _, ?_, rfl⟩
      simp only [putR, if_neg hc, grid2]; exact sub_noG
end Go.Proofs.YthlikicgikoilaaDoor
