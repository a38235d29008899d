/- Layer 3 (grid): a grid of other sides. No condition. -/
import Derived.Test.YthlikicgikoilaaDoorG7
namespace Go.Proofs.YthlikicgikoilaaDoor
set_option linter.unusedSimpArgs false
set_option linter.unusedVariables false
set_option maxHeartbeats 4000000
open Go Go.RowKit
set_option maxRecDepth 100000
def fitC (w h : Nat) (l : List Cell) (W i : Nat) : Cell := if i / W < h ∧ i % W < min W w then (if i % W + 1 = min W w ∧ (cAt l (i / W * w + i % W)).2 = 1 then (32, 0) else cAt l (i / W * w + i % W)) else (32, 0)
def fitK (w h : Nat) (l : List Cell) (W H k : Nat) : List Cell := (List.range (W * H)).map fun i => if i / W < k then fitC w h l W i else (32, 0)
theorem fitK_len (w h : Nat) (l : List Cell) (W H k : Nat) : (fitK w h l W H k).length = W * H := by simp [fitK]
theorem fitK_at {w h : Nat} {l : List Cell} {W H k i : Nat} (hi : i < W * H) : cAt (fitK w h l W H k) i = if i / W < k then fitC w h l W i else (32, 0) := by
  unfold fitK; rw [cAt, List.getElem?_map]; simp [hi]
theorem fitK_zero (w h : Nat) (l : List Cell) (W H : Nat) : fitK w h l W H 0 = List.replicate (W * H) (32, 0) := by
  apply cAt_ext
  · simp [fitK]
  · intro i hi
    rw [fitK_len] at hi
    rw [fitK_at hi, cAt_rep hi]; simp
theorem fit_round (w h : Nat) (l : List Cell) (W H k : Nat) (hw : 2 ≤ w) (hW : 2 ≤ W) (hk : k < min H h) (hl : l.length = w * h) (c : List Cell) (hc : c = (((l.drop (k * w)).take ((k + 1) * w - k * w)).take ((k + 1) * W - k * W))) (m1 : List Cell) (hm1 : m1 = ovr (fitK w h l W H k) (k * W) c) :
    c.length = min W w ∧ k * W + W ≤ W * H ∧ k * w + w ≤ l.length ∧ m1.length = W * H ∧ (if (cAt m1 (k * W + (c.length - 1))).2 = 1 then m1.set (k * W + (c.length - 1)) (32, 0) else m1) = fitK w h l W H (k + 1) := by
  have a1 : (k + 1) * w = k * w + w := by rw [Nat.add_mul, Nat.one_mul]
  have a2 : (k + 1) * W = k * W + W := by rw [Nat.add_mul, Nat.one_mul]
  have a3 : (k + 1) * w ≤ h * w := Nat.mul_le_mul_right _ (by omega)
  have a4 : (k + 1) * W ≤ H * W := Nat.mul_le_mul_right _ (by omega)
  rw [Nat.mul_comm h w] at a3
  rw [Nat.mul_comm H W] at a4
  have hcl : c.length = min W w := by rw [hc]; simp only [List.length_take, List.length_drop]; omega
  have hcat : ∀ j, j < min W w → cAt c j = cAt l (k * w + j) := fun j hj => by rw [hc, cAt_take (by omega), cAt_take (by omega), cAt_drop]
  have hfit : k * W + c.length ≤ (fitK w h l W H k).length := by rw [fitK_len]; omega
  have hm1l : m1.length = W * H := by rw [hm1, ovr_len hfit, fitK_len]
  refine ⟨hcl, by omega, by omega, hm1l, ?_⟩
  have hat : ∀ i, cAt m1 i = if i < k * W then cAt (fitK w h l W H k) i else if i < k * W + c.length then cAt c (i - k * W) else cAt (fitK w h l W H k) i := fun i => by rw [hm1, cAt_ovr hfit]
  have hval : cAt m1 (k * W + (c.length - 1)) = cAt l (k * w + (min W w - 1)) := by
    rw [hat, if_neg (by omega), if_pos (by omega), show k * W + (c.length - 1) - k * W = min W w - 1 by omega, hcat _ (by omega)]
  have e : ∀ i, cAt (if (cAt m1 (k * W + (c.length - 1))).2 = 1 then m1.set (k * W + (c.length - 1)) (32, 0) else m1) i = if i = k * W + (min W w - 1) ∧ (cAt l (k * w + (min W w - 1))).2 = 1 then (32, 0) else cAt m1 i := fun i => by
    rw [hval, hcl]
    by_cases h1 : (cAt l (k * w + (min W w - 1))).2 = 1
    · rw [if_pos h1, cAt_set _ _ _ _ (by omega)]; simp [h1]
    · rw [if_neg h1]; simp [h1]
  apply cAt_ext
  · rw [fitK_len]; split
    · rw [List.length_set]; exact hm1l
    · exact hm1l
  · intro i hi
    have hi2 : i < W * H := by
      have : (if (cAt m1 (k * W + (c.length - 1))).2 = 1 then m1.set (k * W + (c.length - 1)) (32, 0) else m1).length = W * H := by
        split
        · rw [List.length_set]; exact hm1l
        · exact hm1l
      omega
    rw [e, hat, fitK_at hi2, fitK_at hi2]
    have hd : i / W < k ↔ i < k * W := Nat.div_lt_iff_lt_mul (by omega)
    have hd2 : i / W < k + 1 ↔ i < k * W + W := by rw [← a2]; exact Nat.div_lt_iff_lt_mul (by omega)
    by_cases q1 : i < k * W
    · rw [if_neg (by omega), if_pos q1, if_pos (hd.2 q1), if_pos (hd2.2 (by omega))]
    · by_cases q2 : i < k * W + W
      · have hq : i / W = k := by
          have := hd2.2 q2
          have : ¬ i / W < k := fun x => q1 (hd.1 x)
          omega
        have hx : i % W = i - k * W := by
          have := Nat.div_add_mod i W
          rw [hq, Nat.mul_comm W k] at this; omega
        rw [if_neg q1, if_neg (fun x => q1 (hd.1 x)), if_pos (hd2.2 q2)]
        unfold fitC
        rw [hq, hx, hcl]
        by_cases q3 : i < k * W + min W w
        · rw [if_pos q3, hcat _ (by omega), if_pos (show k < h ∧ i - k * W < min W w by omega)]
          by_cases q4 : i = k * W + (min W w - 1)
          · subst q4
            rw [show k * W + (min W w - 1) - k * W = min W w - 1 by omega]
            have q5 : min W w - 1 + 1 = min W w := by omega
            simp [q5]
          · rw [if_neg (by omega), if_neg (by omega)]
        · rw [if_neg q3, if_neg (show ¬ (k < h ∧ i - k * W < min W w) by omega), if_neg (by omega)]
      · rw [if_neg (by omega), if_neg q1, if_neg (by omega), if_neg (fun x => q1 (hd.1 x)), if_neg (fun x => q2 (hd2.1 x))]
attribute [local irreducible] AW AL AO QY varO rowO rsA Opd OpdN vA gvA tupA aggA slA slcA ipA rpA EqK LnK IxK LdK FaK FdK
theorem f_FitO (w h W H : Nat) (l : List Cell) (hl : l.length ≤ 3000) (hc : okG w h l = true) (h1 : 2 ≤ W) (h2 : W ≤ 80) (h3 : 1 ≤ H) (h4 : H ≤ 24) : AF Tryd.prog tab0 25 [gridA w h l, I W, I H] [] (fun A M' => ∃ u, A = tupA [aggA [I W, I H, vA u], I 0] ∧ M' = [rowO cellT 30 u (fitK w h l W H (min H h))]) := by
  obtain ⟨w', h', e1, e2, g1, g2, g3, g4, hlen, hall⟩ := okG_nat hc
  obtain rfl : w = w' := by omega
  obtain rfl : h = h' := by omega
  clear hall
  have hb := side_le g2 g4
  have hb2 := side_le h2 h4
  have c1 : AP Tryd.prog tab0 17 [gridA w h l] (B true) := hc ▸ f_Is w h l hl
  have co := f_NewO W H h1 h2 h3 h4
  refine af_intro Tryd.func25 rfl (by decide) Tryd.ntmps25 rfl ?_
  repeat' (first
  | (apply al_call0 rfl rfl rfl rfl (c := co)
     case ha => repeat' (first | exact opds0 | apply opds1 oo_)
     rintro _ _ ⟨u, rfl, rfl⟩; refine al_rowc (List.Mem.head _) fun hu1 hu2 => ?_)
  | refine s_y ?_
    | refine c_ ?_
    | (refine aw_if ?_ ?_ <;> intro hb <;> try (exfalso; first | assumption | omega))
    | refine s_call ?_ (c := by first | exact c1 | exact f_blank | fail)
    | refine s_op ?_ (hy := by first | fail | fail)
    | refine s_yg ?_
    | refine s_callg ?_ (c := by intro hk hk2; first | exact c1 | exact f_blank | fail)
    | refine s_opg ?_ (hy := by intro hk hk2; first | fail | fail)
    | refine s_skip ?_
    | ((first | refine w_alloc ?_ | refine w_box ?_) <;> intro bb)
    | ((first | refine w_emp ?_ | refine w_make ?_ | refine w_app ?_) <;> intro u hu1 hu2)
    | refine w_stv ?_ | refine w_str ?_ | refine w_cpr ?_ | refine w_cps ?_
    | refine al_last (by kernel_rfl) ?_
  | fail)
  all_goals first | (exfalso; simp at hb; done) | skip
  rename_i b3 b6 q1
  refine aw_fl (fun k : Nat => [(1, I W), (2, I H), (3, vA (.pointer (some ⟨b3, 0, none⟩))), (6, vA (.pointer (some ⟨b6, 0, none⟩))), (8, vA (.pointer (some ⟨bb, 0, none⟩))), (30, I (min H h : Nat)), (31, I k)])
    (fun k => [varO bb 24 [I W, I H, vA u], rowO cellT 30 u (fitK w h l W H k), varO b6 24 [I 0, I 0, vA (.slice none 0 0)], varO b3 24 [I w, I h, slA cellT l]]) (fun k => k ≤ min H h) (fun k => min H h - k) 0 (Nat.zero_le _) wk_ (by rw [fitK_zero]; exact List.Sublist.refl _) ?_
  rintro k i1
  by_cases hlt : k < min H h
  · have hr := fit_round w h l W H k g1 h1 hlt hlen _ rfl _ rfl
    obtain ⟨r1, r2, r3, r4, r5⟩ := hr
    have a1 : (k + 1) * w = k * w + w := by rw [Nat.add_mul, Nat.one_mul]
    have a2 : (k + 1) * W = k * W + W := by rw [Nat.add_mul, Nat.one_mul]
    have m1 : (0 : Int) ≤ ((k * w : Nat) : Int) := Int.natCast_nonneg _
    have m2 : (0 : Int) ≤ ((k * W : Nat) : Int) := Int.natCast_nonneg _
    have m3 : (0 : Int) ≤ (((k + 1) * w : Nat) : Int) := Int.natCast_nonneg _
    have m4 : (0 : Int) ≤ (((k + 1) * W : Nat) : Int) := Int.natCast_nonneg _
    have m5 := fitK_len w h l W H k
    repeat' (first
    | (apply al_call0 rfl rfl rfl rfl (c := co)
       case ha => repeat' (first | exact opds0 | apply opds1 oo_)
       rintro _ _ ⟨u, rfl, rfl⟩; refine al_rowc (List.Mem.head _) fun hu1 hu2 => ?_)
    | refine s_y ?_
      | refine c_ ?_
      | (refine aw_if ?_ ?_ <;> intro hb <;> try (exfalso; first | assumption | omega))
      | refine s_call ?_ (c := by first | exact c1 | exact f_blank | fail)
      | refine s_op ?_ (hy := by first | fail | fail)
      | refine s_yg ?_
      | refine s_callg ?_ (c := by intro hk hk2; first | exact c1 | exact f_blank | fail)
      | refine s_opg ?_ (hy := by intro hk hk2; first | fail | fail)
      | refine s_skip ?_
      | ((first | refine w_alloc ?_ | refine w_box ?_) <;> intro bb)
      | ((first | refine w_emp ?_ | refine w_make ?_ | refine w_app ?_) <;> intro u hu1 hu2)
      | refine w_stv ?_ | refine w_str ?_ | refine w_cpr ?_ | refine w_cps ?_
      | refine al_last (by kernel_rfl) ?_
    | fail)
    · rw [if_pos hb] at r5
      exact ⟨k + 1, by omega, by omega, wk_, by rw [← r5]; exact List.Sublist.refl _⟩
    · rw [if_neg hb] at r5
      exact ⟨k + 1, by omega, by omega, wk_, by rw [← r5]; exact List.Sublist.refl _⟩
  · repeat' (first
    | (apply al_call0 rfl rfl rfl rfl (c := co)
       case ha => repeat' (first | exact opds0 | apply opds1 oo_)
       rintro _ _ ⟨u, rfl, rfl⟩; refine al_rowc (List.Mem.head _) fun hu1 hu2 => ?_)
    | refine s_y ?_
      | refine c_ ?_
      | (refine aw_if ?_ ?_ <;> intro hb <;> try (exfalso; first | assumption | omega))
      | refine s_call ?_ (c := by first | exact c1 | exact f_blank | fail)
      | refine s_op ?_ (hy := by first | fail | fail)
      | refine s_yg ?_
      | refine s_callg ?_ (c := by intro hk hk2; first | exact c1 | exact f_blank | fail)
      | refine s_opg ?_ (hy := by intro hk hk2; first | fail | fail)
      | refine s_skip ?_
      | ((first | refine w_alloc ?_ | refine w_box ?_) <;> intro bb)
      | ((first | refine w_emp ?_ | refine w_make ?_ | refine w_app ?_) <;> intro u hu1 hu2)
      | refine w_stv ?_ | refine w_str ?_ | refine w_cpr ?_ | refine w_cps ?_
      | refine al_last (by kernel_rfl) ?_
    | fail)
    exact ⟨_, [rowO cellT 30 u (fitK w h l W H k)], rs_, sl_, u, rfl, by rw [show k = min H h by omega]⟩
noncomputable def fitR (w h : Int) (l : List Cell) (W H : Int) : (Int × Int × List Cell) × Int := if okG w h l = true then (if sidesM W H = true then ((W, H, fitK w.toNat h.toNat l W.toNat H.toNat (min H.toNat h.toNat)), 0) else ((0, 0, []), 4)) else ((0, 0, []), 1)
theorem f_Fit (w h W H : Int) (l : List Cell) (hl : l.length ≤ 3000) : AP Tryd.prog tab0 25 [gridA w h l, I W, I H] (grid2 (fitR w h l W H)) := by
  by_cases hc : okG w h l = true
  · by_cases hs : sidesM W H = true
    · obtain ⟨w, h, rfl, rfl, _⟩ := okG_nat hc
      obtain ⟨W, H, rfl, rfl, h1, h2, h3, h4⟩ := sides_nat hs
      have := (f_FitO w h W H l hl hc h1 h2 h3 h4).frz1 fza_
      simpa only [fitR, if_pos hc, if_pos hs, grid2, Int.toNat_natCast] using this
    · have c1 : AP Tryd.prog tab0 17 [gridA w h l] (B true) := hc ▸ f_Is w h l hl
      have c2 : AP Tryd.prog tab0 11 [I W, I H] (tupA [gridA 0 0 [], I 4]) := (f_New W H).to (by simp only [newR, hs, grid2]; rfl)
      refine af_intro Tryd.func25 rfl (by decide) Tryd.ntmps25 rfl ?_
      repeat' (first
      | fail
      | refine s_y ?_
        | refine c_ ?_
        | (refine aw_if ?_ ?_ <;> intro hb <;> try (exfalso; first | assumption | omega))
        | refine s_call ?_ (c := by first | exact c1 | exact c2 | fail)
        | refine s_op ?_ (hy := by first | fail | fail)
        | refine s_yg ?_
        | refine s_callg ?_ (c := by intro hk hk2; first | exact c1 | exact c2 | fail)
        | refine s_opg ?_ (hy := by intro hk hk2; first | fail | fail)
        | refine s_skip ?_
        | ((first | refine w_alloc ?_ | refine w_box ?_) <;> intro bb)
        | ((first | refine w_emp ?_ | refine w_make ?_ | refine w_app ?_) <;> intro u hu1 hu2)
        | refine w_stv ?_ | refine w_str ?_ | refine w_cpr ?_ | refine w_cps ?_
        | refine al_last (by kernel_rfl) ?_
      | fail)
      all_goals first | (exfalso; simp at hb; done) | skip
      refine ⟨_, [], rs_, List.nil_sublist _, ?_, rfl⟩
      simp only [fitR, if_pos hc, if_neg hs, grid2]; exact Sub.refl _
  · have hc' : okG w h l = false := by simpa using hc
    have c1 : AP Tryd.prog tab0 17 [gridA w h l] (B false) := hc' ▸ f_Is w h l hl
    refine af_intro Tryd.func25 rfl (by decide) Tryd.ntmps25 rfl ?_
    repeat' (first
    | fail
    | refine s_y ?_
      | refine c_ ?_
      | (refine aw_if ?_ ?_ <;> intro hb <;> try (exfalso; first | assumption | omega))
      | refine s_call ?_ (c := by first | exact c1 | exact c2 | fail)
      | refine s_op ?_ (hy := by first | fail | fail)
      | refine s_yg ?_
      | refine s_callg ?_ (c := by intro hk hk2; first | exact c1 | exact c2 | fail)
      | refine s_opg ?_ (hy := by intro hk hk2; first | fail | fail)
      | refine s_skip ?_
      | ((first | refine w_alloc ?_ | refine w_box ?_) <;> intro bb)
      | ((first | refine w_emp ?_ | refine w_make ?_ | refine w_app ?_) <;> intro u hu1 hu2)
      | refine w_stv ?_ | refine w_str ?_ | refine w_cpr ?_ | refine w_cps ?_
      | refine al_last (by kernel_rfl) ?_
    | fail)
    all_goals first | (exfalso; simp at hb; done) | skip
    refine ⟨_, [], rs_, List.nil_sublist _, ?_, rfl⟩
    simp only [fitR, if_neg hc, grid2]; exact sub_noG
end Go.Proofs.YthlikicgikoilaaDoor
