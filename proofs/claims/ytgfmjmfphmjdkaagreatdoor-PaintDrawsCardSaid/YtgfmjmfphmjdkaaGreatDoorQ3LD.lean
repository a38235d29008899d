/- Layer 29 (paint): what is told next, by the program. No condition. -/
import Derived.Test.YtgfmjmfphmjdkaaGreatDoorQ3LA
import Derived.Test.YtgfmjmfphmjdkaaGreatDoorQ3O2
import Derived.Test.YtgfmjmfphmjdkaaGreatDoorQ3O3
namespace Go.Proofs.YtgfmjmfphmjdkaaGreatDoor
set_option linter.unusedSimpArgs false
set_option linter.unusedVariables false
set_option linter.unusedSectionVars false
set_option maxHeartbeats 4000000
open Go Go.RowKit
set_option maxRecDepth 200000
variable {T0 : Gh} [TabS T0]
/-- parts of the rows, as the program cuts them -/
theorem f_pWrongCut (l : List Guess) (tl : List Cell) (P E m : Nat) (he : E - P = m) (hE : E ≤ l.length) (hP : P ≤ E) (hl : l.length ≤ tl.length) (h9 : l.length ≤ 100000) : AP Tryz.prog T0 50 [slA guT ((l.drop P).take (E - P)), slA cellT ((tl.drop P).take (E - P))] (I (cntP (wrP l tl) P m : Nat)) := by
  subst he
  have e1 : ((l.drop P).take (E - P)).length = E - P := by rw [List.length_take, List.length_drop]; omega
  have := f_pWrong (T0 := T0) ((l.drop P).take (E - P)) ((tl.drop P).take (E - P)) (by rw [e1, List.length_take, List.length_drop]; omega) (by rw [e1]; omega)
  rw [e1, cnt_sub (Nat.le_refl _)] at this
  exact this
theorem f_pBlankCut (tl : List Cell) (P E m : Nat) (he : E - P = m) (hE : E ≤ tl.length) (hP : P ≤ E) (h9 : tl.length ≤ 100000) : AP Tryz.prog T0 55 [slA cellT ((tl.drop P).take (E - P))] (B (blkP tl P m)) := by
  subst he
  have e1 : ((tl.drop P).take (E - P)).length = E - P := by rw [List.length_take, List.length_drop]; omega
  have := f_pBlank (T0 := T0) ((tl.drop P).take (E - P)) (by rw [e1]; omega)
  rw [e1, blk_sub] at this
  exact this
attribute [local irreducible] thenA inBlockA AW AL AO QY varO rowO rsA Opd OpdN vA gvA tupA aggA slA slcA ipA rpA EqK LnK IxK LdK FaK FdK
theorem f_pNext (w h : Int) (l : List Guess) (x y : Int) (b s : Bool) (tw th : Int) (tl : List Cell) (tx ty : Int) (tb : Bool) : AP Tryz.prog T0 14 [belA w h l x y b s, termA tw th tl tx ty tb] (tupA [cmdA (nextP (w, h, l, x, y, b, s) (tw, th, tl, tx, ty, tb)).1, I (nextP (w, h, l, x, y, b, s) (tw, th, tl, tx, ty, tb)).2]) := by
  have c1 := f_pFits (T0 := T0) w h l x y b s tw th tl tx ty tb
  have hat : True := trivial
  have c2 : True := trivial
  have c3 : True := trivial
  have c4 : True := trivial
  have c5 : True := trivial
  have c6 : True := trivial
  have c7 : True := trivial
  by_cases hf : fitsP (w, h, l, x, y, b, s) (tw, th, tl, tx, ty, tb)
  · rw [decide_eq_true hf] at c1
    obtain ⟨w', h', _, _, _, _, _, _, _, _, e1, e2, w2, w3, _, w5, hl, hcl, hk, hX, hY⟩ := fits_nat hf
    simp only [Prod.mk.injEq] at e1 e2
    obtain ⟨rfl, rfl, rfl, rfl, rfl, rfl, rfl⟩ := e1
    obtain ⟨rfl, rfl, rfl, rfl, rfl, rfl⟩ := e2
    have hwh : w' * h' ≤ 1920 := side_leB w3 w5
    have c2 := f_pFirst (T0 := T0) w' h' l x y b s tl tx ty false w2 w3 w5 hl hcl (fun i hi q => by
      have := ((cs_kind hk hi).2.2 q).1
      rcases Nat.eq_zero_or_pos i with z | z
      · rw [z] at this; simp at this
      · exact z)
    have hF := (fstW_spec ((w' : Int), (h' : Int), l, x, y, b, s) ((w' : Int), (h' : Int), tl, tx, ty, false)).1
    simp only at hF
    by_cases hn : fstW ((w' : Int), (h' : Int), l, x, y, b, s) ((w' : Int), (h' : Int), tl, tx, ty, false) = l.length
    · rw [nextP_end hf hn]
      rw [firP, if_pos hn] at c2
      have c3 := f_moNext (T0 := T0) w' h' l x y b s tx ty
      dsimp only at c2 ⊢
      generalize nextMo ((w' : Int), (h' : Int), l, x, y, b, s) tx ty = z at *
      obtain ⟨⟨k, a, d, r⟩, e⟩ := z
      clear hf
      refine af_intro Tryz.func14 rfl (by decide) Tryz.ntmps14 rfl ?_
      repeat' (first
      | refine g68_ ?_ | (refine aw_if ?_ ?_ <;> intro hb <;> try exact no_) | (refine sx_ ?_ <;> intro bb) | (refine su_ ?_ <;> intro u hu1 hu2) | fail)
      all_goals first | exact e8_ | skip
    · rw [nextP_mid hf hn]
      rw [firP, if_neg hn] at c2
      have hP := plc_le (b := ((w' : Int), (h' : Int), l, x, y, b, s)) (t := ((w' : Int), (h' : Int), tl, tx, ty, false))
      generalize plcW ((w' : Int), (h' : Int), l, x, y, b, s) ((w' : Int), (h' : Int), tl, tx, ty, false) = P at *
      simp only [Int.toNat_natCast] at c2 ⊢
      obtain ⟨r1, r2, r3⟩ := row_inP (h := h') (show 0 < w' by omega) (p := P) (by omega)
      have hm := Nat.mod_lt P (show 0 < w' by omega)
      have hme := Nat.mod_le P w'
      have hdm := Nat.div_add_mod P w'
      have hq : P / w' < h' := (Nat.div_lt_iff_lt_mul (by omega)).2 (by rw [Nat.mul_comm]; omega)
      have hnn : (0 : Int) ≤ ((P / w' : Nat) : Int) := Int.natCast_nonneg _
      have c3 := f_moNext (T0 := T0) w' h' l x y b s (P % w' : Nat) (P / w' : Nat)
      rcases nextMo_two (b := ((w' : Int), (h' : Int), l, x, y, b, s)) (X := (P % w' : Nat)) (Y := (P / w' : Nat)) hf.1 ⟨Int.natCast_nonneg _, Int.ofNat_lt.2 hm⟩ ⟨Int.natCast_nonneg _, Int.ofNat_lt.2 hq⟩ with ⟨q1, q2⟩ | ⟨q1, q2⟩
      · rw [q1, if_neg (by decide)]
        rw [q2] at c3
        have c4 := f_pBlankCut (T0 := T0) tl P tl.length (l.length - P) (by omega) (Nat.le_refl _) (by omega) (by omega)
        have c5 : AP Tryz.prog T0 50 [slA guT ((l.drop P).take (l.length - P)), slA cellT ((tl.drop P).take (tl.length - P))] (I (cntP (wrP l tl) P (l.length - P) : Nat)) := by
          rw [show tl.length = l.length by omega]
          exact f_pWrongCut (T0 := T0) l tl P l.length (l.length - P) rfl (Nat.le_refl _) (by omega) (by omega) (by omega)
        have c6 := f_pBlankCut (T0 := T0) tl P (P - P % w' + w') (w' - P % w') (by omega) (by omega) (by omega) (by omega)
        have c7 := f_pWrongCut (T0 := T0) l tl P (P - P % w' + w') (w' - P % w') (by omega) (by omega) (by omega) (by omega) (by omega)
        have hat := c_in (l := tl) (i := P) (by omega)
        change tl[P]? = some (cAt tl P) at hat
        unfold tellW
        have b1 := cntP_le (wrP l tl) P (l.length - P)
        have b2 := cntP_le (wrP l tl) P (w' - P % w')
        clear hf q1 q2 hk
        generalize blkP tl P (l.length - P) = v1 at *
        generalize blkP tl P (w' - P % w') = v2 at *
        generalize cntP (wrP l tl) P (l.length - P) = n1 at *
        generalize cntP (wrP l tl) P (w' - P % w') = n2 at *
        generalize cAt tl P = tc at *
        obtain ⟨t1, t2⟩ := tc
        by_cases q8 : v1 = true ∧ 8 ≤ n1
        · rw [if_pos q8]
          obtain ⟨rfl, q8⟩ := q8
          refine af_intro Tryz.func14 rfl (by decide) Tryz.ntmps14 rfl ?_
          repeat' (first
          | refine g68_ ?_ | (refine aw_if ?_ ?_ <;> intro hb <;> try exact no_) | (refine sx_ ?_ <;> intro bb) | (refine su_ ?_ <;> intro u hu1 hu2) | fail)
          all_goals first | exact e8_ | skip
        · rw [if_neg q8]
          by_cases q7 : v2 = true ∧ 4 ≤ n2
          · rw [if_pos q7]
            obtain ⟨rfl, q7⟩ := q7
            refine af_intro Tryz.func14 rfl (by decide) Tryz.ntmps14 rfl ?_
            repeat' (first
            | refine g68_ ?_ | (refine aw_if ?_ ?_ <;> intro hb <;> try exact no_) | (refine sx_ ?_ <;> intro bb) | (refine su_ ?_ <;> intro u hu1 hu2) | fail)
            all_goals first | exact e8_ | skip
          · rw [if_neg q7]
            refine af_intro Tryz.func14 rfl (by decide) Tryz.ntmps14 rfl ?_
            repeat' (first
            | refine g68_ ?_ | (refine aw_if ?_ ?_ <;> intro hb <;> try exact no_) | (refine sx_ ?_ <;> intro bb) | (refine su_ ?_ <;> intro u hu1 hu2) | fail)
            all_goals first | exact e8_ | skip
      · rw [q1, if_pos rfl]
        generalize nextMo ((w' : Int), (h' : Int), l, x, y, b, s) (P % w' : Nat) (P / w' : Nat) = z at *
        obtain ⟨⟨k, a, d, r⟩, e⟩ := z
        simp only at q2
        subst q2
        clear hf
        refine af_intro Tryz.func14 rfl (by decide) Tryz.ntmps14 rfl ?_
        repeat' (first
        | refine g68_ ?_ | (refine aw_if ?_ ?_ <;> intro hb <;> try exact no_) | (refine sx_ ?_ <;> intro bb) | (refine su_ ?_ <;> intro u hu1 hu2) | fail)
        all_goals first | exact e8_ | skip
  · rw [decide_eq_false hf] at c1
    rw [nextP_no hf]
    clear hf
    refine af_intro Tryz.func14 rfl (by decide) Tryz.ntmps14 rfl ?_
    repeat' (first
    | refine g68_ ?_ | (refine aw_if ?_ ?_ <;> intro hb <;> try exact no_) | (refine sx_ ?_ <;> intro bb) | (refine su_ ?_ <;> intro u hu1 hu2) | fail)
    all_goals first | exact e8_ | skip
end Go.Proofs.YtgfmjmfphmjdkaaGreatDoor
