/- Layer 28 (motion): what leads there, by the program. No condition. -/
import Derived.Test.YtgfmjmfphmjdkaaDoorR2B1
import Derived.Test.YtgfmjmfphmjdkaaDoorR2H1
import Derived.Test.YtgfmjmfphmjdkaaDoorR2O2
namespace Go.Proofs.YtgfmjmfphmjdkaaDoor
set_option linter.unusedSimpArgs false
set_option linter.unusedVariables false
set_option linter.unusedSectionVars false
set_option maxHeartbeats 4000000
open Go Go.RowKit
variable {T0 : Gh} [TabS T0]
attribute [local irreducible] thenA inBlockA AW AL AO QY varO rowO rsA Opd OpdN vA gvA tupA aggA slA slcA ipA rpA EqK LnK IxK LdK FaK FdK
set_option maxRecDepth 100000
theorem perm6 {α : Type _} (r a b c d e : α) : List.Perm [r, a, b, c, d, e] [a, b, c, r, d, e] := (List.perm_middle (l₁ := [a, b, c]) (a := r) (l₂ := [d, e])).symm
theorem f_moNext0 (w h : Int) (l : List Guess) (x y : Int) (b s : Bool) (X Y : Int) (hn : ¬ (okBe w h l x y b s = true ∧ 0 ≤ X ∧ X < w ∧ 0 ≤ Y ∧ Y < h)) : AP Tryd.prog T0 14 [belA w h l x y b s, I X, I Y] (tupA [cmdA (0, 0, 0, 0), I 1]) := by
  have ci := f_beIs (T0 := T0) w h l x y b s
  generalize okBe w h l x y b s = ok at *
  refine af_intro Tryd.func14 rfl (by decide) Tryd.ntmps14 rfl ?_
  repeat' (first
  | refine g29_ ?_ | (refine aw_if ?_ ?_ <;> intro hb <;> try exact no_) | (refine sx_ ?_ <;> intro bb) | (refine su_ ?_ <;> intro u hu1 hu2) | fail)
  all_goals first | exact ⟨_, [], rl_, List.nil_sublist _, Sub.refl _, rfl⟩ | (exfalso; rename_i hb0; simp at hb0; exact hn ⟨hb0.1.1.1.1, hb0.1.1.1.2, hb0.1.1.2, hb0.1.2, hb0.2⟩) | (exfalso; rename_i hb0 hb1; simp at hb0; exact hn ⟨hb0.1.1.1.1, hb0.1.1.1.2, hb0.1.1.2, hb0.1.2, hb0.2⟩) | skip
theorem f_moNext1 (w h : Int) (l : List Guess) (x y : Int) (b s : Bool) (X Y : Int) (hn : okBe w h l x y b s = true ∧ 0 ≤ X ∧ X < w ∧ 0 ≤ Y ∧ Y < h) (hs : s = false) : AP Tryd.prog T0 14 [belA w h l x y b s, I X, I Y] (tupA [cmdA (goC X Y), I 0]) := by
  have ci := f_beIs (T0 := T0) w h l x y b s
  obtain ⟨ho, h1, h2, h3, h4⟩ := hn
  rw [ho] at ci
  subst hs
  refine af_intro Tryd.func14 rfl (by decide) Tryd.ntmps14 rfl ?_
  repeat' (first
  | refine g29_ ?_ | (refine aw_if ?_ ?_ <;> intro hb <;> try exact no_) | (refine sx_ ?_ <;> intro bb) | (refine su_ ?_ <;> intro u hu1 hu2) | fail)
  all_goals first | exact ⟨_, [], rl_, List.nil_sublist _, Sub.refl _, rfl⟩ | (exfalso; simp at hb; omega) | skip
theorem f_moNext2 (w h : Int) (l : List Guess) (x y : Int) (b s : Bool) (X Y : Int) (hn : okBe w h l x y b s = true ∧ 0 ≤ X ∧ X < w ∧ 0 ≤ Y ∧ Y < h) (hs : s = true) (ht : x = X ∧ y = Y ∧ b = false) : AP Tryd.prog T0 14 [belA w h l x y b s, I X, I Y] (tupA [cmdA (0, 0, 0, 0), I 7]) := by
  have ci := f_beIs (T0 := T0) w h l x y b s
  obtain ⟨ho, h1, h2, h3, h4⟩ := hn
  rw [ho] at ci
  obtain ⟨rfl, rfl, rfl⟩ := ht
  subst hs
  refine af_intro Tryd.func14 rfl (by decide) Tryd.ntmps14 rfl ?_
  repeat' (first
  | refine g29_ ?_ | (refine aw_if ?_ ?_ <;> intro hb <;> try exact no_) | (refine sx_ ?_ <;> intro bb) | (refine su_ ?_ <;> intro u hu1 hu2) | fail)
  all_goals first | exact ⟨_, [], rl_, List.nil_sublist _, Sub.refl _, rfl⟩ | (exfalso; simp at hb; omega) | (exfalso; simp at hb; done) | skip
theorem costM_one (c : Cmd) : costM [c] = lenC c := by simp [costM]
theorem f_moNext3 (w h : Int) (l : List Guess) (x y : Int) (b s : Bool) (X Y : Int) (hn : okBe w h l x y b s = true ∧ 0 ≤ X ∧ X < w ∧ 0 ≤ Y ∧ Y < h) (hs : s = true) (ht : ¬ (x = X ∧ y = Y ∧ b = false)) : AP Tryd.prog T0 14 [belA w h l x y b s, I X, I Y] (tupA [cmdA (bestM (movesM h x y X Y) (goC X Y)), I 0]) := by
  have ci := f_beIs (T0 := T0) w h l x y b s
  have cv1 : True := trivial
  have cv2 : True := trivial
  obtain ⟨ho, h1, h2, h3, h4⟩ := hn
  rw [ho] at ci
  obtain ⟨w', h', e1, e2, w2, w3, w4, w5, hl, hk, p1, p2⟩ := okBe_iff.1 ho
  obtain ⟨q1, q2, q3, q4, q5⟩ := p1 hs
  have hx := fun b3 b4 b5 => x_moves w h l x y b s X Y b3 b4 b5 (by omega) (by omega) (by omega) (by omega) (by omega)
  subst hs
  generalize movesM h x y X Y = ML at *
  refine af_introM Tryd.func14 rfl (by decide) Tryd.ntmps14 rfl ?_
  refine awm_seq ?_
  repeat' (first
  | (apply al_call0 rfl rfl rfl rfl (c := f_moves w h l x y b true X Y)
     case ha => exact os_
     rintro _ _ ⟨b3, b4, b5, rfl, rfl⟩)
  | refine g28_ ?_ | (refine aw_if ?_ ?_ <;> intro hb <;> try exact no_) | (refine sx_ ?_ <;> intro bb) | (refine su_ ?_ <;> intro u hu1 hu2) | fail)
  refine awm_seq ?_
  repeat' (first
  | (apply al_call0 rfl rfl rfl rfl (c := f_moves w h l x y b true X Y)
     case ha => exact os_
     rintro _ _ ⟨b3, b4, b5, rfl, rfl⟩)
  | refine g28_ ?_ | (refine aw_if ?_ ?_ <;> intro hb <;> try exact no_) | (refine sx_ ?_ <;> intro bb) | (refine su_ ?_ <;> intro u hu1 hu2) | fail)
  refine awm_seq ?_
  repeat' (first
  | (apply al_call0 rfl rfl rfl rfl (c := f_moves w h l x y b true X Y)
     case ha => exact os_
     rintro _ _ ⟨b3, b4, b5, rfl, rfl⟩)
  | refine g28_ ?_ | (refine aw_if ?_ ?_ <;> intro hb <;> try exact no_) | (refine sx_ ?_ <;> intro bb) | (refine su_ ?_ <;> intro u hu1 hu2) | fail)
  all_goals first | (exfalso; omega) | (exfalso; simp at hb; omega) | (exfalso; exact ht ⟨hb.1.1, hb.1.2, hb.2⟩) | (exfalso; simp at hb; exact ht ⟨hb.1.1, hb.1.2, hb.2⟩) | skip
  refine awm_seqM ?_
  refine awm_seq ?_
  repeat' (first
  | (apply al_call0 rfl rfl rfl rfl (c := f_moves w h l x y b true X Y)
     case ha => exact os_
     rintro _ _ ⟨b3, b4, b5, rfl, rfl⟩)
  | refine g28_ ?_ | (refine aw_if ?_ ?_ <;> intro hb <;> try exact no_) | (refine sx_ ?_ <;> intro bb) | (refine su_ ?_ <;> intro u hu1 hu2) | fail)
  refine awm_block ?_
  rename_i a3 a6 _
  refine awm_range (fun _ => True) (fun _ => False) (fun pre => [varO bb 31 [I (bestM pre (goC X Y)).1, I (bestM pre (goC X Y)).2.1, I (bestM pre (goC X Y)).2.2.1, R (bestM pre (goC X Y)).2.2.2]]) (fun _ => []) [_, _, _] [_, _] trivial (perm6 _ _ _ _ _ _) rfl (hx _ _ _) rfl ?_ ?_ ?_
  · intro lo pre c t hpr _
    obtain ⟨k1, a1, e1, r1⟩ := c
    have hsn := bestM_snoc pre (k1, a1, e1, r1) (goC X Y)
    obtain ⟨⟨k2, a2, e2, r2⟩, hbe⟩ : ∃ z, z = bestM pre (goC X Y) := ⟨_, rfl⟩
    rw [← hbe] at hsn
    have cv1 := f_vtCost (T0 := T0) [(k1, a1, e1, r1)] (by simp)
    have cv2 := f_vtCost (T0 := T0) [(k2, a2, e2, r2)] (by simp)
    rw [costM_one] at cv1 cv2
    by_cases hlt : lenC (k1, a1, e1, r1) < lenC (k2, a2, e2, r2)
    · rw [if_pos hlt] at hsn
      rw [hsn, ← hbe]
      repeat' (first
      | (apply al_call0 rfl rfl rfl rfl (c := f_moves w h l x y b true X Y)
         case ha => exact os_
         rintro _ _ ⟨b3, b4, b5, rfl, rfl⟩)
      | refine awr_seq ?_ | refine awr_block ?_ | refine awr_region0 rfl (by (repeat' (first | refine no_th ?_ | refine no_ib ?_)); first | exact noq_round | exact noq_no) ?_ | refine awr_region1 rfl (by kernel_rfl) rfl (by (repeat' (first | refine no_th ?_ | refine no_ib ?_)); first | exact noq_round | exact noq_no) ?_ | refine awr_skip ?_ | refine awr_ret ?_ | (refine awr_cond rfl ?_ ?_ <;> intro hb) | refine g28_ ?_ | (refine aw_if ?_ ?_ <;> intro hb <;> try exact no_) | (refine sx_ ?_ <;> intro bb) | (refine su_ ?_ <;> intro u hu1 hu2) | fail)
      all_goals first | (exfalso; simp at hb; omega) | exact ⟨trivial, List.Sublist.cons _ (List.Sublist.refl _)⟩ | skip
    · rw [if_neg hlt] at hsn
      rw [hsn, ← hbe]
      repeat' (first
      | (apply al_call0 rfl rfl rfl rfl (c := f_moves w h l x y b true X Y)
         case ha => exact os_
         rintro _ _ ⟨b3, b4, b5, rfl, rfl⟩)
      | refine awr_seq ?_ | refine awr_block ?_ | refine awr_region0 rfl (by (repeat' (first | refine no_th ?_ | refine no_ib ?_)); first | exact noq_round | exact noq_no) ?_ | refine awr_region1 rfl (by kernel_rfl) rfl (by (repeat' (first | refine no_th ?_ | refine no_ib ?_)); first | exact noq_round | exact noq_no) ?_ | refine awr_skip ?_ | refine awr_ret ?_ | (refine awr_cond rfl ?_ ?_ <;> intro hb) | refine g28_ ?_ | (refine aw_if ?_ ?_ <;> intro hb <;> try exact no_) | (refine sx_ ?_ <;> intro bb) | (refine su_ ?_ <;> intro u hu1 hu2) | fail)
      all_goals first | (exfalso; simp at hb; omega) | exact ⟨trivial, List.Sublist.cons _ (List.Sublist.refl _)⟩ | skip
  · intro d _
    refine ibm_n (awm_aw ?_)
    generalize bestM ML (goC X Y) = z at *
    repeat' (first
    | (apply al_call0 rfl rfl rfl rfl (c := f_moves w h l x y b true X Y)
       case ha => exact os_
       rintro _ _ ⟨b3, b4, b5, rfl, rfl⟩)
    | refine g28_ ?_ | (refine aw_if ?_ ?_ <;> intro hb <;> try exact no_) | (refine sx_ ?_ <;> intro bb) | (refine su_ ?_ <;> intro u hu1 hu2) | fail)
    exact retM_mark rl_ (List.nil_sublist _) ⟨Sub.refl _, rfl⟩
  · intro d pre t _ hf
    exact hf.elim
theorem f_moNext (w h : Int) (l : List Guess) (x y : Int) (b s : Bool) (X Y : Int) : AP Tryd.prog T0 14 [belA w h l x y b s, I X, I Y] (tupA [cmdA (nextMo (w, h, l, x, y, b, s) X Y).1, I (nextMo (w, h, l, x, y, b, s) X Y).2]) := by
  by_cases hn : okBe w h l x y b s = true ∧ 0 ≤ X ∧ X < w ∧ 0 ≤ Y ∧ Y < h
  · cases s with
    | false =>
      have e : nextMo (w, h, l, x, y, b, false) X Y = (goC X Y, 0) := by unfold nextMo; rw [if_neg (fun z => z hn), if_pos rfl]
      rw [e]; exact f_moNext1 w h l x y b false X Y hn rfl
    | true =>
      by_cases ht : x = X ∧ y = Y ∧ b = false
      · have e : nextMo (w, h, l, x, y, b, true) X Y = ((0, 0, 0, 0), 7) := by unfold nextMo; rw [if_neg (fun z => z hn), if_neg (fun z => absurd (show true = false from z) (by decide)), if_pos ht]
        rw [e]; exact f_moNext2 w h l x y b true X Y hn rfl ht
      · have e : nextMo (w, h, l, x, y, b, true) X Y = (bestM (movesM h x y X Y) (goC X Y), 0) := by unfold nextMo; rw [if_neg (fun z => z hn), if_neg (fun z => absurd (show true = false from z) (by decide)), if_neg ht]
        rw [e]; exact f_moNext3 w h l x y b true X Y hn rfl ht
  · have e : nextMo (w, h, l, x, y, b, s) X Y = ((0, 0, 0, 0), 1) := by unfold nextMo; rw [if_pos hn]
    rw [e]; exact f_moNext0 w h l x y b s X Y hn
end Go.Proofs.YtgfmjmfphmjdkaaDoor
