/- Layer 3 (grid): put, blank, scroll. No condition. -/
import Derived.Test.YthlikicgikoilaaDoorG4
namespace Go.Proofs.YthlikicgikoilaaDoor
set_option linter.unusedSimpArgs false
set_option linter.unusedVariables false
set_option maxHeartbeats 4000000
open Go Go.RowKit
attribute [local irreducible] AW AL AO QY varO rowO rsA Opd OpdN vA gvA tupA aggA slA slcA ipA rpA EqK LnK IxK LdK FaK FdK
set_option maxRecDepth 100000
noncomputable def putR (w h : Int) (l : List Cell) (x y r : Int) : (Int × Int × List Cell) × Int := if (okG w h l = true ∧ 0 ≤ x ∧ x < w ∧ 0 ≤ y ∧ y < h) ∧ shown r = true ∧ x + (cellsM r).length ≤ w then ((w, h, layG l (y.toNat * w.toNat + x.toNat) (cellsM r)), 0) else ((0, 0, []), 1)
theorem f_PutO (w h : Nat) (l : List Cell) (x y : Nat) (r : Int) (hl : l.length ≤ 3000) (hc : okG w h l = true ∧ (0 : Int) ≤ x ∧ (x : Int) < w ∧ (0 : Int) ≤ y ∧ (y : Int) < h) (hs : shown r = true) (hx : x + (cellsM r).length ≤ w) :
    AF Tryd.prog tab0 19 [gridA w h l, I x, I y, R r] [] (fun A M' => ∃ u, A = tupA [aggA [I w, I h, vA u], I 0] ∧ M' = [rowO cellT 30 u (layG l (y * w + x) (cellsM r))]) := by
  obtain ⟨w', h', e1, e2, h1, h2, h3, h4, hlen, hall⟩ := okG_nat hc.1
  obtain rfl : w = w' := by omega
  obtain rfl : h = h' := by omega
  have hn := cellsM_len r
  have hp := cell_pos (show x + (cellsM r).length - 1 < w by omega) (show y < h by omega)
  have hb := side_le h2 h4
  have m3 : (0 : Int) ≤ ((y * w : Nat) : Int) := Int.natCast_nonneg _
  have c1 : AP Tryd.prog tab0 13 [gridA w h l, I x, I y] (tupA [cellA (cAt l (y * w + x)), I 0]) := (f_At w h l hl x y).to (by simp only [at2, atR, if_pos hc, Int.toNat_natCast])
  have cl := fun u => f_layOk w h u l (y * w + x) (cellsM r) hlen hb (by omega) h3 hall (by omega)
  have co := f_own w h l (by omega)
  clear hall
  refine af_intro Tryd.func19 rfl (by decide) Tryd.ntmps19 rfl ?_
  repeat' (first
  | (apply al_call0 rfl rfl rfl rfl (c := co)
     case ha => repeat' (first | exact opds0 | apply opds1 oo_)
     rintro _ _ ⟨u, rfl, rfl⟩; refine al_rowc (List.Mem.head _) fun hu1 hu2 => ?_)
    | (apply al_call1 rfl rfl rfl rfl (c := cl _)
       case ha => repeat' (first | exact opds0 | apply opds1 oo_)
       case hM => repeat' (first | exact Pick.here | apply Pick.next)
       rintro _ _ rfl)
  | refine s_y ?_
    | refine c_ ?_
    | (refine aw_if ?_ ?_ <;> intro hb <;> try (exfalso; first | assumption | omega))
    | refine s_call ?_ (c := by first | exact c1 | exact f_Shown _ | exact f_Width _ | exact f_Cells _ | fail)
    | refine s_op ?_ (hy := by first | fail | fail)
    | refine s_yg ?_
    | refine s_callg ?_ (c := by intro hk hk2; first | exact c1 | exact f_Shown _ | exact f_Width _ | exact f_Cells _ | fail)
    | refine s_opg ?_ (hy := by intro hk hk2; first | fail | fail)
    | refine s_skip ?_
    | ((first | refine w_alloc ?_ | refine w_box ?_) <;> intro bb)
    | ((first | refine w_emp ?_ | refine w_make ?_ | refine w_app ?_) <;> intro u hu1 hu2)
    | refine w_stv ?_ | refine w_str ?_ | refine w_cpr ?_ | refine w_cps ?_
    | refine al_last (by kernel_rfl) ?_
  | fail)

  all_goals first | (exfalso; simp [hs] at hb; omega) | skip
  exact ⟨_, _, rs_, sl_, u, rfl, rfl⟩
theorem f_Put (w h : Int) (l : List Cell) (x y r : Int) (hl : l.length ≤ 3000) : AP Tryd.prog tab0 19 [gridA w h l, I x, I y, R r] (grid2 (putR w h l x y r)) := by
  by_cases hc : (okG w h l = true ∧ 0 ≤ x ∧ x < w ∧ 0 ≤ y ∧ y < h) ∧ shown r = true ∧ x + (cellsM r).length ≤ w
  · have hc' := hc
    obtain ⟨⟨hok, x1, x2, y1, y2⟩, hs, hx⟩ := hc
    obtain ⟨w, h, rfl, rfl, _⟩ := okG_nat hok
    obtain ⟨x, rfl⟩ := Int.eq_ofNat_of_zero_le x1
    obtain ⟨y, rfl⟩ := Int.eq_ofNat_of_zero_le y1
    have := (f_PutO w h l x y r hl hc'.1 hs (by omega)).frz1 fza_
    simpa only [putR, if_pos hc', grid2, Int.toNat_natCast] using this
  · have c1 : AP Tryd.prog tab0 13 [gridA w h l, I x, I y] (tupA [cellA (atR w h l x y).1, I (atR w h l x y).2]) := f_At w h l hl x y
    have hw : (atR w h l x y).2 = 0 → (okG w h l = true ∧ 0 ≤ x ∧ x < w ∧ 0 ≤ y ∧ y < h) := fun e => by
      by_cases k : okG w h l = true ∧ 0 ≤ x ∧ x < w ∧ 0 ≤ y ∧ y < h
      · exact k
      · simp [atR, k] at e
    have hw2 : (atR w h l x y).2 = 0 → 0 ≤ x ∧ x ≤ 80 := fun e => by
      obtain ⟨k, k1, k2, _⟩ := hw e
      obtain ⟨w', h', rfl, rfl, _, k3, _⟩ := okG_nat k
      omega
    have hn := cellsM_len r
    generalize (atR w h l x y).1 = c at *
    generalize (atR w h l x y).2 = e at *
    refine af_intro Tryd.func19 rfl (by decide) Tryd.ntmps19 rfl ?_
    repeat' (first
    | (apply al_call0 rfl rfl rfl rfl (c := co)
       case ha => repeat' (first | exact opds0 | apply opds1 oo_)
       rintro _ _ ⟨u, rfl, rfl⟩; refine al_rowc (List.Mem.head _) fun hu1 hu2 => ?_)
      | (apply al_call1 rfl rfl rfl rfl (c := cl _)
         case ha => repeat' (first | exact opds0 | apply opds1 oo_)
         case hM => repeat' (first | exact Pick.here | apply Pick.next)
         rintro _ _ rfl)
    | refine s_y ?_
      | refine c_ ?_
      | (refine aw_if ?_ ?_ <;> intro hb <;> try (exfalso; first | assumption | omega))
      | refine s_call ?_ (c := by first | exact c1 | exact f_Shown _ | exact f_Width _ | exact f_Cells _ | fail)
      | refine s_op ?_ (hy := by first | fail | fail)
      | refine s_yg ?_
      | refine s_callg ?_ (c := by intro hk hk2; first | exact c1 | exact f_Shown _ | exact f_Width _ | exact f_Cells _ | fail)
      | refine s_opg ?_ (hy := by intro hk hk2; first | fail | fail)
      | refine s_skip ?_
      | ((first | refine w_alloc ?_ | refine w_box ?_) <;> intro bb)
      | ((first | refine w_emp ?_ | refine w_make ?_ | refine w_app ?_) <;> intro u hu1 hu2)
      | refine w_stv ?_ | refine w_str ?_ | refine w_cpr ?_ | refine w_cps ?_
      | refine al_last (by kernel_rfl) ?_
    | fail)
    all_goals first | (exfalso; obtain ⟨⟨q1, q2⟩, q3⟩ := hb; exact hc ⟨hw q1, by simpa using q2, by omega⟩) | skip
    refine ⟨_, [], rs_, List.nil_sublist _, ?_, rfl⟩
    simp only [putR, if_neg hc, grid2]; exact sub_noG
noncomputable def blankR (w h : Int) (l : List Cell) (a b : Int) : (Int × Int × List Cell) × Int := if okG w h l = true ∧ 0 ≤ a ∧ a ≤ b ∧ b ≤ l.length then ((w, h, layG l a.toNat (List.replicate (b - a).toNat (32, 0))), 0) else ((0, 0, []), 1)
theorem f_BlankO (w h : Nat) (l : List Cell) (a b : Nat) (hl : l.length ≤ 3000) (hc : okG w h l = true) (hab : a ≤ b) (hbl : b ≤ l.length) :
    AF Tryd.prog tab0 21 [gridA w h l, I a, I b] [] (fun A M' => ∃ u, A = tupA [aggA [I w, I h, vA u], I 0] ∧ M' = [rowO cellT 30 u (layG l a (List.replicate (b - a) (32, 0)))]) := by
  obtain ⟨w', h', e1, e2, h1, h2, h3, h4, hlen, hall⟩ := okG_nat hc
  obtain rfl : w = w' := by omega
  obtain rfl : h = h' := by omega
  have hb := side_le h2 h4
  have c1 : AP Tryd.prog tab0 17 [gridA w h l] (B true) := hc ▸ f_Is w h l hl
  have c2 : AP Tryd.prog tab0 29 [I (b - a : Nat), I 1] (gridA (b - a : Nat) 1 (List.replicate (b - a) (32, 0))) := (f_fillF (b - a) 1 (by omega)).to (by rw [Nat.mul_one]; rfl)
  have cl := fun u => f_layOk w h u l a (List.replicate (b - a) (32, 0)) hlen hb (by omega) h3 hall (by simp; omega)
  have co := f_own w h l (by omega)
  clear hall
  refine af_intro Tryd.func21 rfl (by decide) Tryd.ntmps21 rfl ?_
  repeat' (first
  | (apply al_call0 rfl rfl rfl rfl (c := co)
     case ha => repeat' (first | exact opds0 | apply opds1 oo_)
     rintro _ _ ⟨u, rfl, rfl⟩; refine al_rowc (List.Mem.head _) fun hu1 hu2 => ?_)
    | (apply al_call1 rfl rfl rfl rfl (c := cl _)
       case ha => repeat' (first | exact opds0 | apply opds1 oo_)
       case hM => repeat' (first | exact Pick.here | apply Pick.next)
       rintro _ _ rfl)
  | refine s_y ?_
    | refine c_ ?_
    | (refine aw_if ?_ ?_ <;> intro hb <;> try (exfalso; first | assumption | omega))
    | refine s_call ?_ (c := by first | exact c1 | exact c2 | fail)
    | refine s_op ?_ (hy := by first | fail | fail)
    | refine s_yg ?_
    | refine s_callg ?_ (c := by intro hk hk2; first | exact c1 | exact c2 | fail)
    | refine s_opg ?_ (hy := by intro hk hk2; first | fail | fail)
    | refine s_skip ?_
    | ((first | refine w_alloc ?_ | refine w_box ?_) <;> intro bb)
    | ((first | refine w_emp ?_ | refine w_make ?_ | refine w_app ?_) <;> intro u hu1 hu2)
    | refine w_stv ?_ | refine w_str ?_ | refine w_cpr ?_ | refine w_cps ?_
    | refine al_last (by kernel_rfl) ?_
  | fail)
  all_goals first | (exfalso; simp at hb; omega) | skip
  exact ⟨_, _, rs_, sl_, u, rfl, rfl⟩
theorem f_Blank (w h : Int) (l : List Cell) (a b : Int) (hl : l.length ≤ 3000) : AP Tryd.prog tab0 21 [gridA w h l, I a, I b] (grid2 (blankR w h l a b)) := by
  by_cases hc : okG w h l = true ∧ 0 ≤ a ∧ a ≤ b ∧ b ≤ l.length
  · have hc' := hc
    obtain ⟨hok, x1, x2, x3⟩ := hc
    obtain ⟨w, h, rfl, rfl, _⟩ := okG_nat hok
    obtain ⟨a, rfl⟩ := Int.eq_ofNat_of_zero_le x1
    obtain ⟨b, rfl⟩ := Int.eq_ofNat_of_zero_le (show 0 ≤ b by omega)
    have := (f_BlankO w h l a b hl hok (by omega) (by omega)).frz1 fza_
    simpa only [blankR, if_pos hc', grid2, Int.toNat_natCast, show ((b : Int) - (a : Int)).toNat = b - a by omega] using this
  · refine af_intro Tryd.func21 rfl (by decide) Tryd.ntmps21 rfl ?_
    repeat' (first
    | (apply al_call0 rfl rfl rfl rfl (c := co)
       case ha => repeat' (first | exact opds0 | apply opds1 oo_)
       rintro _ _ ⟨u, rfl, rfl⟩; refine al_rowc (List.Mem.head _) fun hu1 hu2 => ?_)
      | (apply al_call1 rfl rfl rfl rfl (c := cl _)
         case ha => repeat' (first | exact opds0 | apply opds1 oo_)
         case hM => repeat' (first | exact Pick.here | apply Pick.next)
         rintro _ _ rfl)
    | refine s_y ?_
      | refine c_ ?_
      | (refine aw_if ?_ ?_ <;> intro hb <;> try (exfalso; first | assumption | omega))
      | refine s_call ?_ (c := by first | exact f_Is _ _ _ hl | fail)
      | refine s_op ?_ (hy := by first | fail | fail)
      | refine s_yg ?_
      | refine s_callg ?_ (c := by intro hk hk2; first | exact f_Is _ _ _ hl | fail)
      | refine s_opg ?_ (hy := by intro hk hk2; first | fail | fail)
      | refine s_skip ?_
      | ((first | refine w_alloc ?_ | refine w_box ?_) <;> intro bb)
      | ((first | refine w_emp ?_ | refine w_make ?_ | refine w_app ?_) <;> intro u hu1 hu2)
      | refine w_stv ?_ | refine w_str ?_ | refine w_cpr ?_ | refine w_cps ?_
      | refine al_last (by kernel_rfl) ?_
    | fail)
    all_goals first | (exfalso; obtain ⟨⟨⟨q1, q2⟩, q3⟩, q4⟩ := hb; exact hc ⟨by simpa using q1, by omega, by omega, by omega⟩) | skip
    refine ⟨_, [], rs_, List.nil_sublist _, ?_, rfl⟩
    simp only [blankR, if_neg hc, grid2]; exact sub_noG
end Go.Proofs.YthlikicgikoilaaDoor
