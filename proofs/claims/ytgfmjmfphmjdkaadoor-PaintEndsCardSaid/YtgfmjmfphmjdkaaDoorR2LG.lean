/- Layer 29 (paint): the laws. No condition. -/
import Derived.Test.YtgfmjmfphmjdkaaDoorR2LF
import Derived.Test.YtgfmjmfphmjdkaaDoorR2LA
import Derived.Test.YtgfmjmfphmjdkaaDoorR2O2
import Derived.Test.YtgfmjmfphmjdkaaDoorR2BA
import Derived.Test.YtgfmjmfphmjdkaaDoorR2H1
import Derived.Test.YtgfmjmfphmjdkaaDoorR2B1
import Derived.Test.YtgfmjmfphmjdkaaDoorR2BC
import Derived.Test.YtgfmjmfphmjdkaaDoorR2AQ
import Derived.Test.YtgfmjmfphmjdkaaDoorR2ZX
namespace Go.Proofs.YtgfmjmfphmjdkaaDoor
set_option linter.unusedSimpArgs false
set_option linter.unusedVariables false
set_option linter.unusedSectionVars false
set_option maxHeartbeats 4000000
open Go Go.RowKit
set_option maxRecDepth 200000
variable {T0 : Gh} [TabS T0] [TabU T0]
attribute [local irreducible] thenA inBlockA AW AL AO QY varO rowO rsA Opd OpdN vA gvA tupA aggA slA slcA ipA rpA EqK LnK IxK LdK FaK FdK
/-- what fits is not too much -/
theorem f_small29 {w h : Int} {l : List Guess} {x y : Int} {b s : Bool} {tw th : Int} {tl : List Cell} {tx ty : Int} {tb : Bool} (hf : fitsP (w, h, l, x, y, b, s) (tw, th, tl, tx, ty, tb)) : AP Tryd.prog T0 6 [belA w h l x y b s, termA tw th tl tx ty tb] (B false) := by
  obtain ⟨e1, e2⟩ := fits_len hf
  simp only at e1 e2
  refine (f_big29 (T0 := T0) w h l x y b s tw th tl tx ty tb).to (congrArg B ?_)
  rw [decide_eq_false (by omega), decide_eq_false (by omega)]; rfl
theorem l_PaintEnds (w h : Int) (l : List Guess) (x y : Int) (b s : Bool) (tw th : Int) (tl : List Cell) (tx ty : Int) (tb : Bool) : AP Tryd.prog T0 4 [belA w h l x y b s, termA tw th tl tx ty tb] (B true) := by
  have c1 : True := trivial
  have c2 : True := trivial
  have c3 : True := trivial
  have c4 : True := trivial
  have c5 : True := trivial
  have c6 : True := trivial
  have c7 : True := trivial
  have hat : True := trivial
  have hat1 : True := trivial
  have hat2 : True := trivial
  have c1 := f_big29 (T0 := T0) w h l x y b s tw th tl tx ty tb
  have c2 := f_pWrongX (T0 := T0) w h l x y b s tw th tl tx ty tb
  by_cases hf : fitsP (w, h, l, x, y, b, s) (tw, th, tl, tx, ty, tb)
  · have c1 := f_small29 (T0 := T0) hf
    rw [wrongP_ok hf] at c2
    have H0 := ends_start hf
    have hle := (meas_le (w, h, l, x, y, b, s) (tw, th, tl, tx, ty, tb)).1
    have h9 := (fits_len hf).2
    obtain ⟨w', h', _, _, _, _, _, _, _, _, e1, e2, w2, w3, h1, w5, hl, hcl, hk, hX, hY⟩ := fits_nat hf
    simp only [Prod.mk.injEq] at e1 e2
    obtain ⟨rfl, rfl, rfl, rfl, rfl, rfl, rfl⟩ := e1
    obtain ⟨rfl, rfl, rfl, rfl, rfl, rfl⟩ := e2
    simp only at hle h9
    clear hf hk
    have hb0 : ∀ {i by_ pd : Nat} {p : Bel}, EndsI ((w' : Int), (h' : Int), l, x, y, b, s) ((w' : Int), (h' : Int), tl, tx, ty, false) i by_ pd p → by_ ≤ 12 * l.length + 8 ∧ pd ≤ h' + 2 ∧ p.2.1 = (h' : Int) := fun H => by
      have a1 := H.bytes
      have a2 := H.pads
      simp only [Int.toNat_natCast] at a1 a2
      exact ⟨by omega, by omega, H.h⟩
    generalize hB : (((w' : Int), (h' : Int), l, x, y, b, s) : Bel) = b0 at *
    generalize hT : (((w' : Int), (h' : Int), tl, tx, ty, false) : Tm) = t0 at *
    generalize hn : cntW b0 t0 = n at *
    refine af_intro Tryd.func4 rfl (by decide) Tryd.ntmps4 rfl ?_
    repeat' (first
    | refine g44_ ?_ | (refine aw_if ?_ ?_ <;> intro hb <;> try exact no_) | (refine sx_ ?_ <;> intro bb) | (refine su_ ?_ <;> intro u hu1 hu2) | fail)
    all_goals first | (exfalso; simp at hb; done) | skip
    rename_i b3
    refine aw_fl (fun z : Nat × Nat × Nat × Bel => [(2, ptA b3), (3, ptA bb), (5, I (n : Nat)), (7, I (w' * h' : Nat)), (8, I z.2.1), (9, I z.2.2.1), (10, I z.1)]) (fun z => [varO bb 29 [I (w' : Nat), I (h' : Nat), slA cellT tl, I tx, I ty, B false], varO b3 24 [I z.2.2.2.1, I z.2.2.2.2.1, slA guT z.2.2.2.2.2.1, I z.2.2.2.2.2.2.1, I z.2.2.2.2.2.2.2.1, B z.2.2.2.2.2.2.2.2.1, B z.2.2.2.2.2.2.2.2.2]]) (fun z => EndsI b0 t0 z.1 z.2.1 z.2.2.1 z.2.2.2) (fun z => 2 * n + 2 - z.1) (0, 0, 0, ((w' : Int), (h' : Int), l, x, y, b, s)) (by rw [hB]; exact H0) wk_ sl_ ?_
    rintro ⟨i, by_, pd, ⟨p1, p2, p3, p4, p5, p6, p7⟩⟩ H
    simp only at H ⊢
    have hlt := ends_lt H
    rw [hn] at hlt
    obtain ⟨m1, m2, m3⟩ := hb0 H
    simp only at m3
    subst m3
    have c4 := f_pNext (T0 := T0) p1 h' p3 p4 p5 p6 p7 w' h' tl tx ty false
    rw [hT] at c4
    by_cases h7 : (nextP (p1, (h' : Int), p3, p4, p5, p6, p7) t0).2 = 7
    · obtain ⟨k1, k2, k3, k4, k5⟩ := ends_stop H h7
      have m4 : (by_ : Int) ≤ 12 * ((w' : Int) * h') + 8 ∧ (pd : Int) ≤ (h' : Int) + 2 := by
        have e1 : ((w' * h' : Nat) : Int) = (w' : Int) * h' := by push_cast; rfl
        rw [hl] at m1
        exact ⟨by omega, by omega⟩
      have c5 := f_pWrongX (T0 := T0) p1 h' p3 p4 p5 p6 p7 w' h' tl tx ty false
      rw [hT, wrongP_ok H.fits, k1] at c5
      replace c5 : AP Tryd.prog T0 9 [belA p1 h' p3 p4 p5 p6 p7, termA w' h' tl tx ty false] (tupA [I 0, I 0]) := c5
      rw [← hT] at k3
      obtain ⟨k6, k7, k8, k9⟩ := isAt_iff.1 k3
      simp only at k6 k7 k8 k9
      subst k6 k7 k8 k9
      rw [h7] at c4
      clear hT hB H H0 k2 k3 k4 k5 hb0
      generalize (nextP (p1, (h' : Int), p3, _, _, _, _) t0).1 = z at *
      obtain ⟨k, a, d, r⟩ := z
      repeat' (first
      | refine g44_ ?_ | (refine aw_if ?_ ?_ <;> intro hb <;> try exact no_) | (refine sx_ ?_ <;> intro bb) | (refine su_ ?_ <;> intro u hu1 hu2) | fail)
      all_goals first | (exfalso; simp at hb; done) | (exfalso; omega) | (exfalso; simp at hb; omega) | exact ⟨_, [], rl_, List.nil_sublist _, Sub.refl _, rfl⟩ | (refine ⟨_, [], rl_, List.nil_sublist _, Sub.eq (congrArg B ?_), rfl⟩; simp; done) | (refine ⟨_, [], rl_, List.nil_sublist _, Sub.eq (congrArg B ?_), rfl⟩; simp; omega) | (refine ⟨_, [], rl_, List.nil_sublist _, Sub.eq (congrArg B ?_), rfl⟩; simp; exact m4) | skip
    · obtain ⟨k1, k2, k3, k4⟩ := ends_go H h7
      rw [k1] at c4
      have c5 := f_beDo (T0 := T0) p1 h' p3 p4 p5 p6 p7 (nextP (p1, (h' : Int), p3, p4, p5, p6, p7) t0).1
      rw [k3] at c5
      have n1 := hb0 k4
      have c6 := (f_vtCost (T0 := T0) [(nextP (p1, (h' : Int), p3, p4, p5, p6, p7) t0).1] (by simp)).to (A' := I (lenC (nextP (p1, (h' : Int), p3, p4, p5, p6, p7) t0).1)) (by rw [costM_one])
      have c7 := (f_vtPads (T0 := T0) [(nextP (p1, (h' : Int), p3, p4, p5, p6, p7) t0).1] (by simp)).to (A' := I (padC (nextP (p1, (h' : Int), p3, p4, p5, p6, p7) t0).1 : Nat)) (by rw [show padsM [(nextP (p1, (h' : Int), p3, p4, p5, p6, p7) t0).1] = padC (nextP (p1, (h' : Int), p3, p4, p5, p6, p7) t0).1 by simp [padsM]])
      clear k1 k2 k3 h7
      generalize (doB (p1, (h' : Int), p3, p4, p5, p6, p7) (nextP (p1, (h' : Int), p3, p4, p5, p6, p7) t0).1).1 = v1 at *
      generalize lenC (nextP (p1, (h' : Int), p3, p4, p5, p6, p7) t0).1 = q1 at *
      generalize padC (nextP (p1, (h' : Int), p3, p4, p5, p6, p7) t0).1 = q2 at *
      generalize (nextP (p1, (h' : Int), p3, p4, p5, p6, p7) t0).1 = z at *
      obtain ⟨k, a, d, r⟩ := z
      obtain ⟨o1, o2, o3, o4, o5, o6, o7⟩ := v1
      obtain ⟨n1, n2, _⟩ := n1
      have n3 : ((by_ : Nat) : Int) + (q1 : Nat) ≤ 30000 := by omega
      have n4 : ((pd : Nat) : Int) + (q2 : Nat) ≤ 30000 := by omega
      repeat' (first
      | refine g44_ ?_ | (refine aw_if ?_ ?_ <;> intro hb <;> try exact no_) | (refine sx_ ?_ <;> intro bb) | (refine su_ ?_ <;> intro u hu1 hu2) | fail)
      all_goals first | (exfalso; simp at hb; done) | (exfalso; omega) | skip
      exact ⟨(i + 1, by_ + q1, pd + q2, (o1, o2, o3, o4, o5, o6, o7)), k4, by show _ - (i + 1) < _ - i; omega, wk_, sl_⟩
  · rw [wrongP_no hf] at c2
    clear hf
    refine af_intro Tryd.func4 rfl (by decide) Tryd.ntmps4 rfl ?_
    repeat' (first
    | refine g44_ ?_ | (refine aw_if ?_ ?_ <;> intro hb <;> try exact no_) | (refine sx_ ?_ <;> intro bb) | (refine su_ ?_ <;> intro u hu1 hu2) | fail)
    all_goals first | (exfalso; simp at hb; done) | (exfalso; omega) | (exfalso; simp at hb; omega) | exact ⟨_, [], rl_, List.nil_sublist _, Sub.refl _, rfl⟩ | (refine ⟨_, [], rl_, List.nil_sublist _, Sub.eq (congrArg B ?_), rfl⟩; simp; done) | (refine ⟨_, [], rl_, List.nil_sublist _, Sub.eq (congrArg B ?_), rfl⟩; simp; omega) | (refine ⟨_, [], rl_, List.nil_sublist _, Sub.eq (congrArg B ?_), rfl⟩; simp; exact m4) | skip
theorem l_PaintKeeps (w h : Int) (l : List Guess) (x y : Int) (b s : Bool) (tw th : Int) (tl : List Cell) (tx ty : Int) (tb : Bool) : AP Tryd.prog T0 3 [belA w h l x y b s, termA tw th tl tx ty tb] (B true) := by
  have c1 : True := trivial
  have c2 : True := trivial
  have c3 : True := trivial
  have c4 : True := trivial
  have c5 : True := trivial
  have c6 : True := trivial
  have c7 : True := trivial
  have hat : True := trivial
  have hat1 : True := trivial
  have hat2 : True := trivial
  have c1 := f_big29 (T0 := T0) w h l x y b s tw th tl tx ty tb
  have c2 := f_pNext (T0 := T0) w h l x y b s tw th tl tx ty tb
  by_cases h0 : (nextP (w, h, l, x, y, b, s) (tw, th, tl, tx, ty, tb)).2 = 0
  · have hf : fitsP (w, h, l, x, y, b, s) (tw, th, tl, tx, ty, tb) := Classical.byContradiction fun q => by rw [nextP_no q] at h0; cases h0
    have c1 := f_small29 (T0 := T0) hf
    obtain ⟨k1, k2, k3, k4, k5, k6⟩ := keeps hf h0
    obtain ⟨e1, e2⟩ := fits_len hf
    have c3 := f_beDo (T0 := T0) w h l x y b s (nextP (w, h, l, x, y, b, s) (tw, th, tl, tx, ty, tb)).1
    have c4 := f_pWrongX (T0 := T0) w h l x y b s tw th tl tx ty tb
    rw [wrongP_ok hf] at c4
    rw [h0] at c2
    rw [k1] at c3
    simp only at e1 e2
    clear h0 hf k1
    generalize (doB (w, h, l, x, y, b, s) (nextP (w, h, l, x, y, b, s) (tw, th, tl, tx, ty, tb)).1).1 = v at *
    generalize (nextP (w, h, l, x, y, b, s) (tw, th, tl, tx, ty, tb)).1 = z at *
    generalize cntW (w, h, l, x, y, b, s) (tw, th, tl, tx, ty, tb) = n at *
    obtain ⟨o1, o2, o3, o4, o5, o6, o7⟩ := v
    obtain ⟨k, a, d, r⟩ := z
    have c5 := f_pWrongX (T0 := T0) o1 o2 o3 o4 o5 o6 o7 tw th tl tx ty tb
    rw [wrongP_ok k2] at c5
    have c6 := f_pNext (T0 := T0) o1 o2 o3 o4 o5 o6 o7 tw th tl tx ty tb
    clear k2
    generalize nextP (o1, o2, o3, o4, o5, o6, o7) (tw, th, tl, tx, ty, tb) = z2 at *
    generalize cntW (o1, o2, o3, o4, o5, o6, o7) (tw, th, tl, tx, ty, tb) = m at *
    obtain ⟨⟨kk, a2, d2, r2⟩, e⟩ := z2
    simp only at k3 k4 k5 k6
    refine af_intro Tryd.func3 rfl (by decide) Tryd.ntmps3 rfl ?_
    repeat' (first
    | refine g43_ ?_ | (refine aw_if ?_ ?_ <;> intro hb <;> try exact no_) | (refine sx_ ?_ <;> intro bb) | (refine su_ ?_ <;> intro u hu1 hu2) | fail)
    all_goals first | (exfalso; simp at hb; done) | (exfalso; omega) | (exfalso; simp at hb; omega) | skip
    refine aw_lf (fun j : Nat => [(13, I j)]) (fun j => j ≤ l.length) (fun j => l.length - j) 0 (Nat.zero_le _) ?_
    rintro j j1
    by_cases hlt : j < l.length
    · have hat := c_in (l := tl) (i := j) (by omega)
      have hat1 := g_in hlt
      have hat2 := g_in (l := o3) (i := j) (by omega)
      change tl[j]? = some (cAt tl j) at hat
      have hv := k4 j
      unfold wrP at hv
      generalize cAt tl j = q at *
      generalize gAt l j = q1 at *
      generalize gAt o3 j = q2 at *
      obtain ⟨t1, t2⟩ := q
      obtain ⟨⟨g1, g2⟩, gs⟩ := q1
      obtain ⟨⟨f1, f2⟩, fs⟩ := q2
      clear k5 k6
      repeat' (first
      | refine g43_ ?_ | (refine aw_if ?_ ?_ <;> intro hb <;> try exact no_) | (refine sx_ ?_ <;> intro bb) | (refine su_ ?_ <;> intro u hu1 hu2) | fail)
      all_goals first | exact ⟨j + 1, by omega, by omega, wx_, sl_⟩ | (exfalso; exact hb.2 (Classical.not_not.1 (of_decide_eq_false (hv (decide_eq_false (fun q => q hb.1)))))) | skip
    · by_cases hk : k = 1 ∨ k = 7 ∨ k = 8
      · have k7 := k5 hk
        clear k6
        rcases hk with rfl | rfl | rfl
        · repeat' (first
          | refine g43_ ?_ | (refine aw_if ?_ ?_ <;> intro hb <;> try exact no_) | (refine sx_ ?_ <;> intro bb) | (refine su_ ?_ <;> intro u hu1 hu2) | fail)
          all_goals first | (exfalso; simp at hb; done) | (exfalso; omega) | (exfalso; simp at hb; omega) | exact ⟨_, [], rl_, List.nil_sublist _, Sub.refl _, rfl⟩ | (refine ⟨_, [], rl_, List.nil_sublist _, Sub.eq (congrArg B ?_), rfl⟩; simp; done) | (refine ⟨_, [], rl_, List.nil_sublist _, Sub.eq (congrArg B ?_), rfl⟩; simp; omega) | (refine ⟨_, [], rl_, List.nil_sublist _, Sub.eq (congrArg B ?_), rfl⟩; simp; exact m4) | skip
        · repeat' (first
          | refine g43_ ?_ | (refine aw_if ?_ ?_ <;> intro hb <;> try exact no_) | (refine sx_ ?_ <;> intro bb) | (refine su_ ?_ <;> intro u hu1 hu2) | fail)
          all_goals first | (exfalso; simp at hb; done) | (exfalso; omega) | (exfalso; simp at hb; omega) | exact ⟨_, [], rl_, List.nil_sublist _, Sub.refl _, rfl⟩ | (refine ⟨_, [], rl_, List.nil_sublist _, Sub.eq (congrArg B ?_), rfl⟩; simp; done) | (refine ⟨_, [], rl_, List.nil_sublist _, Sub.eq (congrArg B ?_), rfl⟩; simp; omega) | (refine ⟨_, [], rl_, List.nil_sublist _, Sub.eq (congrArg B ?_), rfl⟩; simp; exact m4) | skip
        · repeat' (first
          | refine g43_ ?_ | (refine aw_if ?_ ?_ <;> intro hb <;> try exact no_) | (refine sx_ ?_ <;> intro bb) | (refine su_ ?_ <;> intro u hu1 hu2) | fail)
          all_goals first | (exfalso; simp at hb; done) | (exfalso; omega) | (exfalso; simp at hb; omega) | exact ⟨_, [], rl_, List.nil_sublist _, Sub.refl _, rfl⟩ | (refine ⟨_, [], rl_, List.nil_sublist _, Sub.eq (congrArg B ?_), rfl⟩; simp; done) | (refine ⟨_, [], rl_, List.nil_sublist _, Sub.eq (congrArg B ?_), rfl⟩; simp; omega) | (refine ⟨_, [], rl_, List.nil_sublist _, Sub.eq (congrArg B ?_), rfl⟩; simp; exact m4) | skip
      · obtain ⟨k7, k8, k9⟩ := k6 hk
        subst k7
        rcases Nat.eq_zero_or_pos m with hm | hm
        · subst hm
          obtain rfl := k8 rfl
          repeat' (first
          | refine g43_ ?_ | (refine aw_if ?_ ?_ <;> intro hb <;> try exact no_) | (refine sx_ ?_ <;> intro bb) | (refine su_ ?_ <;> intro u hu1 hu2) | fail)
          all_goals first | (exfalso; simp at hb; done) | (exfalso; omega) | (exfalso; simp at hb; omega) | exact ⟨_, [], rl_, List.nil_sublist _, Sub.refl _, rfl⟩ | (refine ⟨_, [], rl_, List.nil_sublist _, Sub.eq (congrArg B ?_), rfl⟩; simp; done) | (refine ⟨_, [], rl_, List.nil_sublist _, Sub.eq (congrArg B ?_), rfl⟩; simp; omega) | (refine ⟨_, [], rl_, List.nil_sublist _, Sub.eq (congrArg B ?_), rfl⟩; simp; exact m4) | skip
        · obtain ⟨rfl, hk2⟩ := k9 hm
          rcases hk2 with rfl | rfl | rfl
          · repeat' (first
            | refine g43_ ?_ | (refine aw_if ?_ ?_ <;> intro hb <;> try exact no_) | (refine sx_ ?_ <;> intro bb) | (refine su_ ?_ <;> intro u hu1 hu2) | fail)
            all_goals first | (exfalso; simp at hb; done) | (exfalso; omega) | (exfalso; simp at hb; omega) | exact ⟨_, [], rl_, List.nil_sublist _, Sub.refl _, rfl⟩ | (refine ⟨_, [], rl_, List.nil_sublist _, Sub.eq (congrArg B ?_), rfl⟩; simp; done) | (refine ⟨_, [], rl_, List.nil_sublist _, Sub.eq (congrArg B ?_), rfl⟩; simp; omega) | (refine ⟨_, [], rl_, List.nil_sublist _, Sub.eq (congrArg B ?_), rfl⟩; simp; exact m4) | skip
          · repeat' (first
            | refine g43_ ?_ | (refine aw_if ?_ ?_ <;> intro hb <;> try exact no_) | (refine sx_ ?_ <;> intro bb) | (refine su_ ?_ <;> intro u hu1 hu2) | fail)
            all_goals first | (exfalso; simp at hb; done) | (exfalso; omega) | (exfalso; simp at hb; omega) | exact ⟨_, [], rl_, List.nil_sublist _, Sub.refl _, rfl⟩ | (refine ⟨_, [], rl_, List.nil_sublist _, Sub.eq (congrArg B ?_), rfl⟩; simp; done) | (refine ⟨_, [], rl_, List.nil_sublist _, Sub.eq (congrArg B ?_), rfl⟩; simp; omega) | (refine ⟨_, [], rl_, List.nil_sublist _, Sub.eq (congrArg B ?_), rfl⟩; simp; exact m4) | skip
          · repeat' (first
            | refine g43_ ?_ | (refine aw_if ?_ ?_ <;> intro hb <;> try exact no_) | (refine sx_ ?_ <;> intro bb) | (refine su_ ?_ <;> intro u hu1 hu2) | fail)
            all_goals first | (exfalso; simp at hb; done) | (exfalso; omega) | (exfalso; simp at hb; omega) | exact ⟨_, [], rl_, List.nil_sublist _, Sub.refl _, rfl⟩ | (refine ⟨_, [], rl_, List.nil_sublist _, Sub.eq (congrArg B ?_), rfl⟩; simp; done) | (refine ⟨_, [], rl_, List.nil_sublist _, Sub.eq (congrArg B ?_), rfl⟩; simp; omega) | (refine ⟨_, [], rl_, List.nil_sublist _, Sub.eq (congrArg B ?_), rfl⟩; simp; exact m4) | skip
  · generalize nextP (w, h, l, x, y, b, s) (tw, th, tl, tx, ty, tb) = z at *
    obtain ⟨⟨k, a, d, r⟩, e⟩ := z
    simp only at h0
    refine af_intro Tryd.func3 rfl (by decide) Tryd.ntmps3 rfl ?_
    repeat' (first
    | refine g43_ ?_ | (refine aw_if ?_ ?_ <;> intro hb <;> try exact no_) | (refine sx_ ?_ <;> intro bb) | (refine su_ ?_ <;> intro u hu1 hu2) | fail)
    all_goals first | (exfalso; simp at hb; done) | (exfalso; omega) | (exfalso; simp at hb; omega) | exact ⟨_, [], rl_, List.nil_sublist _, Sub.refl _, rfl⟩ | (refine ⟨_, [], rl_, List.nil_sublist _, Sub.eq (congrArg B ?_), rfl⟩; simp; done) | (refine ⟨_, [], rl_, List.nil_sublist _, Sub.eq (congrArg B ?_), rfl⟩; simp; omega) | (refine ⟨_, [], rl_, List.nil_sublist _, Sub.eq (congrArg B ?_), rfl⟩; simp; exact m4) | skip
end Go.Proofs.YtgfmjmfphmjdkaaDoor
