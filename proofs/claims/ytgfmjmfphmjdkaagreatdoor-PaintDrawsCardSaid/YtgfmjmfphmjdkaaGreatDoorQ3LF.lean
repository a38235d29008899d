/- Layer 29 (paint): the example, and what is too much. No condition. -/
import Derived.Test.YtgfmjmfphmjdkaaGreatDoorQ3LD
import Derived.Test.YtgfmjmfphmjdkaaGreatDoorQ3BD
import Derived.Test.YtgfmjmfphmjdkaaGreatDoorQ3B1
import Derived.Test.YtgfmjmfphmjdkaaGreatDoorQ3BF
import Derived.Test.YtgfmjmfphmjdkaaGreatDoorQ3ZN
import Derived.Test.YtgfmjmfphmjdkaaGreatDoorQ3LE
namespace Go.Proofs.YtgfmjmfphmjdkaaGreatDoor
set_option linter.unusedSimpArgs false
set_option linter.unusedVariables false
set_option linter.unusedSectionVars false
set_option maxHeartbeats 4000000
open Go Go.RowKit
set_option maxRecDepth 200000
variable {T0 : Gh} [TabS T0] [TabU T0]
attribute [local irreducible] thenA inBlockA AW AL AO QY varO rowO rsA Opd OpdN vA gvA tupA aggA slA slcA ipA rpA EqK LnK IxK LdK FaK FdK
theorem f_big29 (w h : Int) (l : List Guess) (x y : Int) (b s : Bool) (tw th : Int) (tl : List Cell) (tx ty : Int) (tb : Bool) : AP Tryz.prog T0 11 [belA w h l x y b s, termA tw th tl tx ty tb] (B (decide ((2000 : Int) < l.length) || decide ((2000 : Int) < tl.length))) := by
  refine af_intro Tryz.func11 rfl (by decide) Tryz.ntmps11 rfl ?_
  repeat' (first
  | refine g6_ ?_ | (refine aw_if ?_ ?_ <;> intro hb <;> try exact no_) | (refine sx_ ?_ <;> intro bb) | (refine su_ ?_ <;> intro u hu1 hu2) | fail)
  exact ⟨_, [], rl_, List.nil_sublist _, Sub.refl _, rfl⟩
theorem f_painted : AP Tryz.prog T0 16 [] (B true) := by
  have c1 : AP Tryz.prog T0 60 [I 3, I 2] (tupA [belA 3 2 [gZero, gZero, gZero, gZero, gZero, gZero] 0 0 false false, I 0]) := (f_beNew 3 2).to (by rw [show newB 3 2 = ((3, 2, [gZero, gZero, gZero, gZero, gZero, gZero], 0, 0, false, false), 0) by kernel_rfl])
  have c2 : AP Tryz.prog T0 61 [I 3, I 2] (tupA [termA 3 2 [(32, 0), (32, 0), (32, 0), (32, 0), (32, 0), (32, 0)] 0 0 false, I 0]) := (f_termNew 3 2).to (by rw [show newR 3 2 = ((3, 2, [(32, 0), (32, 0), (32, 0), (32, 0), (32, 0), (32, 0)]), 0) by decide])
  have c3 : AP Tryz.prog T0 12 [belA 3 2 [gZero, gZero, gZero, gZero, gZero, gZero] 0 0 false false, termA 3 2 [(32, 0), (32, 0), (32, 0), (32, 0), (32, 0), (32, 0)] 0 0 false] (tupA [I 6, I 0]) := (f_pWrongX 3 2 [gZero, gZero, gZero, gZero, gZero, gZero] 0 0 false false 3 2 [(32, 0), (32, 0), (32, 0), (32, 0), (32, 0), (32, 0)] 0 0 false).to (by rw [wrongP_c, show wrongPC (3, 2, [gZero, gZero, gZero, gZero, gZero, gZero], 0, 0, false, false) (3, 2, [(32, 0), (32, 0), (32, 0), (32, 0), (32, 0), (32, 0)], 0, 0, false) = (6, 0) by kernel_rfl])
  have c4 : AP Tryz.prog T0 14 [belA 3 2 [gZero, gZero, gZero, gZero, gZero, gZero] 0 0 false false, termA 3 2 [(32, 0), (32, 0), (32, 0), (32, 0), (32, 0), (32, 0)] 0 0 false] (tupA [cmdA (2, 0, 0, 0), I 0]) := (f_pNext 3 2 [gZero, gZero, gZero, gZero, gZero, gZero] 0 0 false false 3 2 [(32, 0), (32, 0), (32, 0), (32, 0), (32, 0), (32, 0)] 0 0 false).to (by rw [nextP_c, show nextPC (3, 2, [gZero, gZero, gZero, gZero, gZero, gZero], 0, 0, false, false) (3, 2, [(32, 0), (32, 0), (32, 0), (32, 0), (32, 0), (32, 0)], 0, 0, false) = ((2, 0, 0, 0), 0) by kernel_rfl])
  have c5 : AP Tryz.prog T0 19 [belA 3 2 [gZero, gZero, gZero, gZero, gZero, gZero] 0 0 false false, cmdA (2, 0, 0, 0)] (tupA [belA 3 2 [gZero, gZero, gZero, gZero, gZero, gZero] 0 0 false true, I 0]) := (f_beDo 3 2 [gZero, gZero, gZero, gZero, gZero, gZero] 0 0 false false (2, 0, 0, 0)).to (by rw [doB_c, show doBC (3, 2, [gZero, gZero, gZero, gZero, gZero, gZero], 0, 0, false, false) (2, 0, 0, 0) = ((3, 2, [gZero, gZero, gZero, gZero, gZero, gZero], 0, 0, false, true), 0) by kernel_rfl])
  have c6 : AP Tryz.prog T0 14 [belA 3 2 [gZero, gZero, gZero, gZero, gZero, gZero] 0 0 false true, termA 3 2 [(32, 0), (32, 0), (32, 0), (32, 0), (32, 0), (32, 0)] 0 0 false] (tupA [cmdA (1, 0, 0, 32), I 0]) := (f_pNext 3 2 [gZero, gZero, gZero, gZero, gZero, gZero] 0 0 false true 3 2 [(32, 0), (32, 0), (32, 0), (32, 0), (32, 0), (32, 0)] 0 0 false).to (by rw [nextP_c, show nextPC (3, 2, [gZero, gZero, gZero, gZero, gZero, gZero], 0, 0, false, true) (3, 2, [(32, 0), (32, 0), (32, 0), (32, 0), (32, 0), (32, 0)], 0, 0, false) = ((1, 0, 0, 32), 0) by kernel_rfl])
  have c7 : AP Tryz.prog T0 44 [termA 3 2 [(32, 0), (32, 0), (32, 0), (32, 0), (32, 0), (32, 0)] 0 0 false, SA [97, 27, 91, 50, 59, 51, 72]] (tupA [termA 3 2 [(97, 0), (32, 0), (32, 0), (32, 0), (32, 0), (32, 0)] 2 1 false, SA [], I 0]) := (f_termFeed 3 2 [(32, 0), (32, 0), (32, 0), (32, 0), (32, 0), (32, 0)] 0 0 false [97, 27, 91, 50, 59, 51, 72] (by decide)).to (by rw [feedT_c, show feedTC (3, 2, [(32, 0), (32, 0), (32, 0), (32, 0), (32, 0), (32, 0)], 0, 0, false) [97, 27, 91, 50, 59, 51, 72] = ((3, 2, [(97, 0), (32, 0), (32, 0), (32, 0), (32, 0), (32, 0)], 2, 1, false), [], 0) by kernel_rfl])
  have c8 : AP Tryz.prog T0 62 [termA 3 2 [(32, 0), (32, 0), (32, 0), (32, 0), (32, 0), (32, 0)] 0 0 false] (tupA [belA 3 2 [((32, 0), true), ((32, 0), true), ((32, 0), true), ((32, 0), true), ((32, 0), true), ((32, 0), true)] 0 0 false true, I 0]) := (f_beOf 3 2 [(32, 0), (32, 0), (32, 0), (32, 0), (32, 0), (32, 0)] 0 0 false).to (by rw [ofB_c, show ofBC (3, 2, [(32, 0), (32, 0), (32, 0), (32, 0), (32, 0), (32, 0)], 0, 0, false) = ((3, 2, [((32, 0), true), ((32, 0), true), ((32, 0), true), ((32, 0), true), ((32, 0), true), ((32, 0), true)], 0, 0, false, true), 0) by kernel_rfl])
  have c9 : AP Tryz.prog T0 14 [belA 3 2 [((32, 0), true), ((32, 0), true), ((32, 0), true), ((32, 0), true), ((32, 0), true), ((32, 0), true)] 0 0 false true, termA 3 2 [(97, 0), (32, 0), (32, 0), (32, 0), (32, 0), (32, 0)] 2 1 false] (tupA [cmdA (1, 0, 0, 97), I 0]) := (f_pNext 3 2 [((32, 0), true), ((32, 0), true), ((32, 0), true), ((32, 0), true), ((32, 0), true), ((32, 0), true)] 0 0 false true 3 2 [(97, 0), (32, 0), (32, 0), (32, 0), (32, 0), (32, 0)] 2 1 false).to (by rw [nextP_c, show nextPC (3, 2, [((32, 0), true), ((32, 0), true), ((32, 0), true), ((32, 0), true), ((32, 0), true), ((32, 0), true)], 0, 0, false, true) (3, 2, [(97, 0), (32, 0), (32, 0), (32, 0), (32, 0), (32, 0)], 2, 1, false) = ((1, 0, 0, 97), 0) by kernel_rfl])
  have d1 : AP Tryz.prog T0 19 [belA 3 2 [((32, 0), true), ((32, 0), true), ((32, 0), true), ((32, 0), true), ((32, 0), true), ((32, 0), true)] 0 0 false true, cmdA (1, 0, 0, 97)] (tupA [belA 3 2 [((97, 0), true), ((32, 0), true), ((32, 0), true), ((32, 0), true), ((32, 0), true), ((32, 0), true)] 1 0 false true, I 0]) := (f_beDo 3 2 [((32, 0), true), ((32, 0), true), ((32, 0), true), ((32, 0), true), ((32, 0), true), ((32, 0), true)] 0 0 false true (1, 0, 0, 97)).to (by rw [doB_c, show doBC (3, 2, [((32, 0), true), ((32, 0), true), ((32, 0), true), ((32, 0), true), ((32, 0), true), ((32, 0), true)], 0, 0, false, true) (1, 0, 0, 97) = ((3, 2, [((97, 0), true), ((32, 0), true), ((32, 0), true), ((32, 0), true), ((32, 0), true), ((32, 0), true)], 1, 0, false, true), 0) by kernel_rfl])
  have d2 : AP Tryz.prog T0 14 [belA 3 2 [((97, 0), true), ((32, 0), true), ((32, 0), true), ((32, 0), true), ((32, 0), true), ((32, 0), true)] 1 0 false true, termA 3 2 [(97, 0), (32, 0), (32, 0), (32, 0), (32, 0), (32, 0)] 2 1 false] (tupA [cmdA (2, 1, 2, 0), I 0]) := (f_pNext 3 2 [((97, 0), true), ((32, 0), true), ((32, 0), true), ((32, 0), true), ((32, 0), true), ((32, 0), true)] 1 0 false true 3 2 [(97, 0), (32, 0), (32, 0), (32, 0), (32, 0), (32, 0)] 2 1 false).to (by rw [nextP_c, show nextPC (3, 2, [((97, 0), true), ((32, 0), true), ((32, 0), true), ((32, 0), true), ((32, 0), true), ((32, 0), true)], 1, 0, false, true) (3, 2, [(97, 0), (32, 0), (32, 0), (32, 0), (32, 0), (32, 0)], 2, 1, false) = ((2, 1, 2, 0), 0) by kernel_rfl])
  have e3 : AP Tryz.prog T0 14 [belA 3 2 [gZero, gZero, gZero, gZero, gZero, gZero] 0 0 false false, termA 0 0 [] 0 0 false] (tupA [cmdA (0, 0, 0, 0), I 1]) := (f_pNext 3 2 [gZero, gZero, gZero, gZero, gZero, gZero] 0 0 false false 0 0 [] 0 0 false).to (by rw [nextP_c, show nextPC (3, 2, [gZero, gZero, gZero, gZero, gZero, gZero], 0, 0, false, false) (0, 0, [], 0, 0, false) = ((0, 0, 0, 0), 1) by kernel_rfl])
  have d3 : AP Tryz.prog T0 14 [belA 3 2 [gZero, gZero, gZero, gZero, gZero, gZero] 0 0 false false, aggA [I 0, I 0, vA (.slice none 0 0), I 0, I 0, B false]] (tupA [cmdA (0, 0, 0, 0), I 1]) := e3.pre (subl1 (Sub.refl _) (subl1 (sub_agg (subl1 (Sub.refl _) (subl1 (Sub.refl _) (subl1 sub_nilG (subl1 (Sub.refl _) (subl1 (Sub.refl _) (subl1 (Sub.refl _) subl0))))))) subl0))
  have d4 : AP Tryz.prog T0 14 [belA 3 2 [((32, 0), true), ((32, 0), true), ((32, 0), true), ((32, 0), true), ((32, 0), true), ((32, 0), true)] 0 0 false true, termA 3 2 [(32, 0), (32, 0), (32, 0), (32, 0), (32, 0), (32, 0)] 0 0 false] (tupA [cmdA (0, 0, 0, 0), I 7]) := (f_pNext 3 2 [((32, 0), true), ((32, 0), true), ((32, 0), true), ((32, 0), true), ((32, 0), true), ((32, 0), true)] 0 0 false true 3 2 [(32, 0), (32, 0), (32, 0), (32, 0), (32, 0), (32, 0)] 0 0 false).to (by rw [nextP_c, show nextPC (3, 2, [((32, 0), true), ((32, 0), true), ((32, 0), true), ((32, 0), true), ((32, 0), true), ((32, 0), true)], 0, 0, false, true) (3, 2, [(32, 0), (32, 0), (32, 0), (32, 0), (32, 0), (32, 0)], 0, 0, false) = ((0, 0, 0, 0), 7) by kernel_rfl])
  refine af_intro Tryz.func16 rfl (by decide) Tryz.ntmps16 rfl ?_
  repeat' (first
  | refine sa_ ?_ | refine s_call ?_ (c := by first | exact c1 | exact c2 | exact c3 | exact c4 | exact c5 | exact c6 | exact c7 | exact c8 | exact c9 | exact d1 | exact d2 | exact d3 | exact d4 | fail) | refine s_yg ?_ | refine s_callg ?_ (c := by intro hk hk2; first | exact c1 | exact c2 | exact c3 | exact c4 | exact c5 | exact c6 | exact c7 | exact c8 | exact c9 | exact d1 | exact d2 | exact d3 | exact d4 | fail) | refine sw_ ?_ | (refine aw_if ?_ ?_ <;> intro hb <;> try exact no_) | (refine sx_ ?_ <;> intro bb) | (refine su_ ?_ <;> intro u hu1 hu2) | fail)
  all_goals first | exact ⟨_, [], rl_, List.nil_sublist _, Sub.refl _, rfl⟩ | exact ⟨_, [], rl_, List.nil_sublist _, Sub.eq (congrArg B (by decide)), rfl⟩ | exact ⟨_, [], rl_, List.nil_sublist _, Sub.eq (congrArg B (by simp)), rfl⟩ | skip
end Go.Proofs.YtgfmjmfphmjdkaaGreatDoor
namespace Go.Proofs.YtgfmjmfphmjdkaaGreatDoor
set_option linter.unusedSimpArgs false
set_option linter.unusedVariables false
set_option linter.unusedSectionVars false
set_option maxHeartbeats 4000000
open Go Go.RowKit
set_option maxRecDepth 200000
variable {T0 : Gh} [TabS T0] [TabU T0]
attribute [local irreducible] thenA inBlockA AW AL AO QY varO rowO rsA Opd OpdN vA gvA tupA aggA slA slcA ipA rpA EqK LnK IxK LdK FaK FdK
theorem l_PaintDoes (w h : Int) (l : List Guess) (x y : Int) (b s : Bool) (tw th : Int) (tl : List Cell) (tx ty : Int) (tb : Bool) : AP Tryz.prog T0 3 [belA w h l x y b s, termA tw th tl tx ty tb] (B true) := by
  have c1 : True := trivial
  have c2 : True := trivial
  have c3 : True := trivial
  have c4 : True := trivial
  have c5 : True := trivial
  have c6 : True := trivial
  have c7 : True := trivial
  have hat : True := trivial
  have hat1 : True := trivial
  have hat2 : True := trivial
  have c1 := f_big29 (T0 := T0) w h l x y b s tw th tl tx ty tb
  have c2 := f_pWrongX (T0 := T0) w h l x y b s tw th tl tx ty tb
  have c3 := f_r29WrongX (T0 := T0) w h l x y b s tw th tl tx ty tb
  have c4 := f_pNext (T0 := T0) w h l x y b s tw th tl tx ty tb
  have c5 := f_ref29Next (T0 := T0) w h l x y b s tw th tl tx ty tb
  generalize wrongP (w, h, l, x, y, b, s) (tw, th, tl, tx, ty, tb) = z1 at *
  generalize nextP (w, h, l, x, y, b, s) (tw, th, tl, tx, ty, tb) = z2 at *
  obtain ⟨n, e⟩ := z1
  obtain ⟨⟨k, a, d, r⟩, e2⟩ := z2
  refine af_intro Tryz.func3 rfl (by decide) Tryz.ntmps3 rfl ?_
  repeat' (first
  | refine g70_ ?_ | (refine aw_if ?_ ?_ <;> intro hb <;> try exact no_) | (refine sx_ ?_ <;> intro bb) | (refine su_ ?_ <;> intro u hu1 hu2) | fail)
  all_goals first | exact e9_ | skip
/-- what fits is not too much -/
theorem f_small29 {w h : Int} {l : List Guess} {x y : Int} {b s : Bool} {tw th : Int} {tl : List Cell} {tx ty : Int} {tb : Bool} (hf : fitsP (w, h, l, x, y, b, s) (tw, th, tl, tx, ty, tb)) : AP Tryz.prog T0 11 [belA w h l x y b s, termA tw th tl tx ty tb] (B false) := by
  obtain ⟨e1, e2⟩ := fits_len hf
  simp only at e1 e2
  refine (f_big29 (T0 := T0) w h l x y b s tw th tl tx ty tb).to (congrArg B ?_)
  rw [decide_eq_false (by omega), decide_eq_false (by omega)]; rfl
theorem l_PaintDraws (w h : Int) (l : List Guess) (x y : Int) (b s : Bool) (uw uh : Int) (ul : List Cell) (ux uy : Int) (ub : Bool) (tw th : Int) (tl : List Cell) (tx ty : Int) (tb : Bool) : AP Tryz.prog T0 4 [belA w h l x y b s, termA uw uh ul ux uy ub, termA tw th tl tx ty tb] (B true) := by
  have c1 : True := trivial
  have c2 : True := trivial
  have c3 : True := trivial
  have c4 : True := trivial
  have c5 : True := trivial
  have c6 : True := trivial
  have c7 : True := trivial
  have hat : True := trivial
  have hat1 : True := trivial
  have hat2 : True := trivial
  have c1 := f_big29 (T0 := T0) w h l x y b s tw th tl tx ty tb
  have c2 := f_pWrongX (T0 := T0) w h l x y b s tw th tl tx ty tb
  have c3 := f_beAgrees (T0 := T0) w h l x y b s uw uh ul ux uy ub
  by_cases hf : fitsP (w, h, l, x, y, b, s) (tw, th, tl, tx, ty, tb)
  · have c1 := f_small29 (T0 := T0) hf
    rw [wrongP_ok hf] at c2
    by_cases ha : AgrP (w, h, l, x, y, b, s) (uw, uh, ul, ux, uy, ub)
    · replace c3 := c3.to (A' := B true) (congrArg B (decide_eq_true ha))
      have H0 := ends_start hf
      have hle := (meas_le (w, h, l, x, y, b, s) (tw, th, tl, tx, ty, tb)).1
      have h9 := (fits_len hf).2
      generalize hB : ((w, h, l, x, y, b, s) : Bel) = b0 at *
      generalize hT : ((tw, th, tl, tx, ty, tb) : Tm) = t0 at *
      generalize hn : cntW b0 t0 = n at *
      refine af_intro Tryz.func4 rfl (by decide) Tryz.ntmps4 rfl ?_
      repeat' (first
      | refine g70_ ?_ | (refine aw_if ?_ ?_ <;> intro hb <;> try exact no_) | (refine sx_ ?_ <;> intro bb) | (refine su_ ?_ <;> intro u hu1 hu2) | fail)
      all_goals first | exact e2_ | skip
      rename_i b3 b4
      refine aw_fl (fun z : Nat × Bel × Tm => [(3, ptA b3), (4, ptA b4), (5, ptA bb), (7, I (n : Nat)), (9, I z.1)]) (fun z => [varO bb 29 [I tw, I th, slA cellT tl, I tx, I ty, B tb], varO b4 29 [I z.2.2.1, I z.2.2.2.1, slA cellT z.2.2.2.2.1, I z.2.2.2.2.2.1, I z.2.2.2.2.2.2.1, B z.2.2.2.2.2.2.2], varO b3 24 [I z.2.1.1, I z.2.1.2.1, slA guT z.2.1.2.2.1, I z.2.1.2.2.2.1, I z.2.1.2.2.2.2.1, B z.2.1.2.2.2.2.2.1, B z.2.1.2.2.2.2.2.2]]) (fun z => (∃ by_ pd, EndsI b0 t0 z.1 by_ pd z.2.1) ∧ AgrP z.2.1 z.2.2) (fun z => 2 * n + 2 - z.1) (0, (w, h, l, x, y, b, s), (uw, uh, ul, ux, uy, ub)) ⟨⟨0, 0, by rw [hB]; exact H0⟩, by rw [hB]; exact ha⟩ wk_ sl_ ?_
      rintro ⟨i, ⟨p1, p2, p3, p4, p5, p6, p7⟩, ⟨g1, g2, g3, g4, g5, g6⟩⟩ ⟨⟨by_, pd, H⟩, hA⟩
      simp only at H hA
      have hlt := ends_lt H
      rw [hn] at hlt
      have c4 := f_pNext (T0 := T0) p1 p2 p3 p4 p5 p6 p7 tw th tl tx ty tb
      rw [hT] at c4
      by_cases h7 : (nextP (p1, p2, p3, p4, p5, p6, p7) t0).2 = 7
      · have k1 := draws_stop H hA h7
        rw [← hT] at k1
        simp only [Prod.mk.injEq] at k1
        obtain ⟨rfl, rfl, rfl, rfl, rfl, rfl⟩ := k1
        have k2 := H.fits.2.2.1
        rw [← hT] at k2
        simp only at k2
        subst k2
        have c5 := (f_ref03Same (T0 := T0) g1 g2 g1 g2 g3 g3).to (A' := B true) (congrArg B (decide_eq_true ⟨rfl, rfl, rfl⟩))
        rw [h7] at c4
        clear hT hB H hA H0 hf ha
        generalize (nextP (p1, p2, p3, p4, p5, p6, p7) t0).1 = z at *
        obtain ⟨k, a, d, r⟩ := z
        repeat' (first
        | refine g70_ ?_ | (refine aw_if ?_ ?_ <;> intro hb <;> try exact no_) | (refine sx_ ?_ <;> intro bb) | (refine su_ ?_ <;> intro u hu1 hu2) | fail)
        all_goals first | exact e9_ | skip
      · obtain ⟨k1, k2, k3, k4⟩ := ends_go H h7
        obtain ⟨k5, k6⟩ := draws_go H hA h7
        rw [k1] at c4
        have c5 := f_beDo (T0 := T0) p1 p2 p3 p4 p5 p6 p7 (nextP (p1, p2, p3, p4, p5, p6, p7) t0).1
        have c6 := f_termDo (T0 := T0) g1 g2 g3 g4 g5 g6 (nextP (p1, p2, p3, p4, p5, p6, p7) t0).1
        rw [k3] at c5
        rw [k5] at c6
        clear k1 k2 k3 k5 h7
        generalize (doB (p1, p2, p3, p4, p5, p6, p7) (nextP (p1, p2, p3, p4, p5, p6, p7) t0).1).1 = v1 at *
        generalize (doT (g1, g2, g3, g4, g5, g6) (nextP (p1, p2, p3, p4, p5, p6, p7) t0).1).1 = v2 at *
        generalize lenC (nextP (p1, p2, p3, p4, p5, p6, p7) t0).1 = q1 at *
        generalize padC (nextP (p1, p2, p3, p4, p5, p6, p7) t0).1 = q2 at *
        generalize (nextP (p1, p2, p3, p4, p5, p6, p7) t0).1 = z at *
        obtain ⟨k, a, d, r⟩ := z
        obtain ⟨o1, o2, o3, o4, o5, o6, o7⟩ := v1
        obtain ⟨r1, r2, r3, r4, r5, r6⟩ := v2
        have c7 := (f_beAgrees (T0 := T0) o1 o2 o3 o4 o5 o6 o7 r1 r2 r3 r4 r5 r6).to (A' := B true) (congrArg B (decide_eq_true k6))
        repeat' (first
        | refine g70_ ?_ | (refine aw_if ?_ ?_ <;> intro hb <;> try exact no_) | (refine sx_ ?_ <;> intro bb) | (refine su_ ?_ <;> intro u hu1 hu2) | fail)
        all_goals first | (exfalso; simp at hb; done) | (exfalso; omega) | skip
        exact ⟨(i + 1, (o1, o2, o3, o4, o5, o6, o7), (r1, r2, r3, r4, r5, r6)), ⟨⟨_, _, k4⟩, k6⟩, by show _ - (i + 1) < _ - i; omega, wk_, sl_⟩
    · replace c3 := c3.to (A' := B false) (congrArg B (decide_eq_false ha))
      clear hf ha
      refine af_intro Tryz.func4 rfl (by decide) Tryz.ntmps4 rfl ?_
      repeat' (first
      | refine g70_ ?_ | (refine aw_if ?_ ?_ <;> intro hb <;> try exact no_) | (refine sx_ ?_ <;> intro bb) | (refine su_ ?_ <;> intro u hu1 hu2) | fail)
      all_goals first | exact e9_ | skip
  · rw [wrongP_no hf] at c2
    clear hf
    refine af_intro Tryz.func4 rfl (by decide) Tryz.ntmps4 rfl ?_
    repeat' (first
    | refine g70_ ?_ | (refine aw_if ?_ ?_ <;> intro hb <;> try exact no_) | (refine sx_ ?_ <;> intro bb) | (refine su_ ?_ <;> intro u hu1 hu2) | fail)
    all_goals first | exact e9_ | skip
end Go.Proofs.YtgfmjmfphmjdkaaGreatDoor
