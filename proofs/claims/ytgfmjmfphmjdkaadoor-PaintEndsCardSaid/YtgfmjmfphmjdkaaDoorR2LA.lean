/- Layer 29 (paint): what fits, what is wrong, and what is blank, by the program. No condition. -/
import Derived.Test.YtgfmjmfphmjdkaaDoorR2I1
import Derived.Test.YtgfmjmfphmjdkaaDoorR2B1
import Derived.Test.YtgfmjmfphmjdkaaDoorR2BA
import Derived.Test.YtgfmjmfphmjdkaaDoorR2H1
import Derived.Test.YtgfmjmfphmjdkaaDoorR2BC
import Derived.Test.YtgfmjmfphmjdkaaDoorR2BD
import Derived.Test.YtgfmjmfphmjdkaaDoorR2BF
import Derived.Test.YtgfmjmfphmjdkaaDoorR2O2
import Derived.Test.YtgfmjmfphmjdkaaDoorR2O3
namespace Go.Proofs.YtgfmjmfphmjdkaaDoor
set_option linter.unusedSimpArgs false
set_option linter.unusedVariables false
set_option linter.unusedSectionVars false
set_option maxHeartbeats 4000000
open Go Go.RowKit
set_option maxRecDepth 200000
variable {T0 : Gh} [TabS T0]
attribute [local irreducible] thenA inBlockA AW AL AO QY varO rowO rsA Opd OpdN vA gvA tupA aggA slA slcA ipA rpA EqK LnK IxK LdK FaK FdK
theorem f_pFits (w h : Int) (l : List Guess) (x y : Int) (b s : Bool) (tw th : Int) (tl : List Cell) (tx ty : Int) (tb : Bool) : AP Tryd.prog T0 12 [belA w h l x y b s, termA tw th tl tx ty tb] (B (decide (fitsP (w, h, l, x, y, b, s) (tw, th, tl, tx, ty, tb)))) := by
  have c1 := f_beIs (T0 := T0) w h l x y b s
  have c2 := f_termIs (T0 := T0) tw th tl tx ty tb
  rw [fits_dec]
  generalize okBe w h l x y b s = v1 at *
  generalize okT tw th tl tx ty tb = v2 at *
  refine af_intro Tryd.func12 rfl (by decide) Tryd.ntmps12 rfl ?_
  repeat' (first
  | refine g6_ ?_ | (refine aw_if ?_ ?_ <;> intro hb <;> try exact no_) | (refine sx_ ?_ <;> intro bb) | (refine su_ ?_ <;> intro u hu1 hu2) | fail)
  all_goals exact ⟨_, [], rl_, List.nil_sublist _, Sub.refl _, rfl⟩
theorem f_pWrong (l : List Guess) (cs : List Cell) (hl : l.length ≤ cs.length) (hn : l.length ≤ 100000) : AP Tryd.prog T0 16 [slA guT l, slA cellT cs] (I (cntP (wrP l cs) 0 l.length : Nat)) := by
  have hat : True := trivial
  have hat2 : True := trivial
  refine af_intro Tryd.func16 rfl (by decide) Tryd.ntmps16 rfl ?_
  repeat' (first
  | refine g42_ ?_ | (refine aw_if ?_ ?_ <;> intro hb <;> try exact no_) | (refine sx_ ?_ <;> intro bb) | (refine su_ ?_ <;> intro u hu1 hu2) | fail)
  refine aw_lf (fun k : Nat => [(5, I (cntP (wrP l cs) 0 k : Nat)), (10, I k)]) (fun k => k ≤ l.length) (fun k => l.length - k) 0 (Nat.zero_le _) ?_
  rintro k k1
  have hle := cntP_le (wrP l cs) 0 k
  by_cases hlt : k < l.length
  · have hat := g_in hlt
    have hat2 := c_in (l := cs) (i := k) (by omega)
    have nx := cnt_next (p := wrP l cs) (a := 0) (n := k)
    rw [Nat.zero_add] at nx
    have wd : wrP l cs k = decide (gAt l k ≠ (cAt cs k, true)) := rfl
    change cs[k]? = some (cAt cs k) at hat2
    generalize gAt l k = g at *
    generalize cAt cs k = tc at *
    obtain ⟨⟨g1, g2⟩, gs⟩ := g
    obtain ⟨t1, t2⟩ := tc
    repeat' (first
    | refine g42_ ?_ | (refine aw_if ?_ ?_ <;> intro hb <;> try exact no_) | (refine sx_ ?_ <;> intro bb) | (refine su_ ?_ <;> intro u hu1 hu2) | fail)
    · refine ⟨k + 1, by omega, by omega, ?_, sl_⟩
      rw [nx, wd, if_pos (decide_eq_true hb)]; exact wx_
    · refine ⟨k + 1, by omega, by omega, ?_, sl_⟩
      rw [nx, wd, if_neg (fun z => absurd hb (of_decide_eq_true z))]; exact wx_
  · obtain rfl : k = l.length := by omega
    repeat' (first
    | refine g42_ ?_ | (refine aw_if ?_ ?_ <;> intro hb <;> try exact no_) | (refine sx_ ?_ <;> intro bb) | (refine su_ ?_ <;> intro u hu1 hu2) | fail)
    exact ⟨_, [], rl_, List.nil_sublist _, Sub.refl _, rfl⟩
theorem f_pBlank (cs : List Cell) (hn : cs.length ≤ 100000) : AP Tryd.prog T0 15 [slA cellT cs] (B (blkP cs 0 cs.length)) := by
  have hat : True := trivial
  have hat2 : True := trivial
  refine af_intro Tryd.func15 rfl (by decide) Tryd.ntmps15 rfl ?_
  repeat' (first
  | refine g42_ ?_ | (refine aw_if ?_ ?_ <;> intro hb <;> try exact no_) | (refine sx_ ?_ <;> intro bb) | (refine su_ ?_ <;> intro u hu1 hu2) | fail)
  refine aw_lf (fun k : Nat => [(7, I k)]) (fun k => k ≤ cs.length ∧ ∀ i, i < k → cAt cs i = (32, 0)) (fun k => cs.length - k) 0 ⟨Nat.zero_le _, fun _ z => absurd z (Nat.not_lt_zero _)⟩ ?_
  rintro k ⟨k1, k2⟩
  by_cases hlt : k < cs.length
  · have hat := c_in hlt
    change cs[k]? = some (cAt cs k) at hat
    have hv : blkP cs 0 cs.length = true → cAt cs k = (32, 0) := fun z => blkP_iff.1 z k (Nat.zero_le _) (by omega)
    have hw : cAt cs k = (32, 0) → ∀ i, i < k + 1 → cAt cs i = (32, 0) := fun z i hi => by
      rcases Nat.lt_or_ge i k with q | q
      · exact k2 i q
      · rw [show i = k by omega]; exact z
    generalize cAt cs k = tc at *
    obtain ⟨t1, t2⟩ := tc
    repeat' (first
    | refine g42_ ?_ | (refine aw_if ?_ ?_ <;> intro hb <;> try exact no_) | (refine sx_ ?_ <;> intro bb) | (refine su_ ?_ <;> intro u hu1 hu2) | fail)
    · refine ⟨_, [], rl_, List.nil_sublist _, Sub.eq (congrArg B ?_), rfl⟩
      cases e : blkP cs 0 cs.length with
      | false => rfl
      | true => exact absurd (hv e) hb
    · exact ⟨k + 1, ⟨by omega, hw hb⟩, by omega, wx_, sl_⟩
  · repeat' (first
    | refine g42_ ?_ | (refine aw_if ?_ ?_ <;> intro hb <;> try exact no_) | (refine sx_ ?_ <;> intro bb) | (refine su_ ?_ <;> intro u hu1 hu2) | fail)
    refine ⟨_, [], rl_, List.nil_sublist _, Sub.eq (congrArg B ?_), rfl⟩
    exact (blkP_iff.2 fun i _ hi => k2 i (by omega)).symm
end Go.Proofs.YtgfmjmfphmjdkaaDoor
namespace Go.Proofs.YtgfmjmfphmjdkaaDoor
set_option linter.unusedSimpArgs false
set_option linter.unusedVariables false
set_option linter.unusedSectionVars false
set_option maxHeartbeats 4000000
open Go Go.RowKit
set_option maxRecDepth 200000
variable {T0 : Gh} [TabS T0]
attribute [local irreducible] thenA inBlockA AW AL AO QY varO rowO rsA Opd OpdN vA gvA tupA aggA slA slcA ipA rpA EqK LnK IxK LdK FaK FdK
theorem f_pWrongX (w h : Int) (l : List Guess) (x y : Int) (b s : Bool) (tw th : Int) (tl : List Cell) (tx ty : Int) (tb : Bool) : AP Tryd.prog T0 9 [belA w h l x y b s, termA tw th tl tx ty tb] (tupA [I (wrongP (w, h, l, x, y, b, s) (tw, th, tl, tx, ty, tb)).1, I (wrongP (w, h, l, x, y, b, s) (tw, th, tl, tx, ty, tb)).2]) := by
  have c1 := f_pFits (T0 := T0) w h l x y b s tw th tl tx ty tb
  by_cases hf : fitsP (w, h, l, x, y, b, s) (tw, th, tl, tx, ty, tb)
  · rw [decide_eq_true hf] at c1
    obtain ⟨e1, e2⟩ := fits_len hf
    rw [wrongP_ok hf]
    have c2 := f_pWrong (T0 := T0) l tl (by simp only at e1; omega) (by simp only at e2; omega)
    refine af_intro Tryd.func9 rfl (by decide) Tryd.ntmps9 rfl ?_
    repeat' (first
    | refine g6_ ?_ | (refine aw_if ?_ ?_ <;> intro hb <;> try exact no_) | (refine sx_ ?_ <;> intro bb) | (refine su_ ?_ <;> intro u hu1 hu2) | fail)
    exact ⟨_, [], rl_, List.nil_sublist _, Sub.refl _, rfl⟩
  · rw [decide_eq_false hf] at c1
    rw [wrongP_no hf]
    have c2 : True := trivial
    refine af_intro Tryd.func9 rfl (by decide) Tryd.ntmps9 rfl ?_
    repeat' (first
    | refine g6_ ?_ | (refine aw_if ?_ ?_ <;> intro hb <;> try exact no_) | (refine sx_ ?_ <;> intro bb) | (refine su_ ?_ <;> intro u hu1 hu2) | fail)
    exact ⟨_, [], rl_, List.nil_sublist _, Sub.refl _, rfl⟩
end Go.Proofs.YtgfmjmfphmjdkaaDoor
namespace Go.Proofs.YtgfmjmfphmjdkaaDoor
set_option linter.unusedSimpArgs false
set_option linter.unusedVariables false
set_option linter.unusedSectionVars false
set_option maxHeartbeats 4000000
open Go Go.RowKit
set_option maxRecDepth 200000
variable {T0 : Gh} [TabS T0]
attribute [local irreducible] thenA inBlockA AW AL AO QY varO rowO rsA Opd OpdN vA gvA tupA aggA slA slcA ipA rpA EqK LnK IxK LdK FaK FdK
theorem f_pFirst (w h : Nat) (l : List Guess) (x y : Int) (b s : Bool) (tl : List Cell) (tx ty : Int) (tb : Bool) (h1 : 2 ≤ w) (h2 : w ≤ 80) (h4 : h ≤ 24) (hl : l.length = w * h) (htl : tl.length = w * h) (hp : ∀ i, i < tl.length → (cAt tl i).2 = 2 → 1 ≤ i) : AP Tryd.prog T0 13 [belA w h l x y b s, termA w h tl tx ty tb] (tupA [I (firP (w, h, l, x, y, b, s) (w, h, tl, tx, ty, tb)).1, B (firP (w, h, l, x, y, b, s) (w, h, tl, tx, ty, tb)).2]) := by
  have F : ∀ k, k < l.length → (∀ j, j < k → wrP l tl j = false) → wrP l tl k = true → firP ((w : Int), (h : Int), l, x, y, b, s) ((w : Int), (h : Int), tl, tx, ty, tb) = (((if (cAt tl k).2 = 2 then k - 1 else k : Nat) : Int), true) := fun k a1 a2 a3 => by
    have e : fstW ((w : Int), (h : Int), l, x, y, b, s) ((w : Int), (h : Int), tl, tx, ty, tb) = k := fstW_here a1 a2 a3
    unfold firP plcW
    rw [e, if_neg (by simp only; omega)]
  have E : (∀ j, j < l.length → wrP l tl j = false) → firP ((w : Int), (h : Int), l, x, y, b, s) ((w : Int), (h : Int), tl, tx, ty, tb) = (0, false) := fun a => by
    unfold firP
    rw [if_pos (fstW_end a)]
  have hwh : w * h ≤ 1920 := side_leB h2 h4
  generalize firP ((w : Int), (h : Int), l, x, y, b, s) ((w : Int), (h : Int), tl, tx, ty, tb) = z at *
  have hat : True := trivial
  have c1 : True := trivial
  refine af_intro Tryd.func13 rfl (by decide) Tryd.ntmps13 rfl ?_
  repeat' (first
  | refine g41_ ?_ | (refine aw_if ?_ ?_ <;> intro hb <;> try exact no_) | (refine sx_ ?_ <;> intro bb) | (refine su_ ?_ <;> intro u hu1 hu2) | fail)
  refine aw_lf (fun Y : Nat => [(11, I Y)]) (fun Y => Y ≤ h ∧ ∀ j, j < Y * w → wrP l tl j = false) (fun Y => h - Y) 0 ⟨Nat.zero_le _, fun j z => absurd z (by omega)⟩ ?_
  rintro Y ⟨y1, y2⟩
  by_cases hy : Y < h
  · have hq : (Y + 1) * w ≤ h * w := Nat.mul_le_mul_right _ hy
    rw [Nat.add_mul, Nat.one_mul, Nat.mul_comm h w] at hq
    repeat' (first
    | refine g41_ ?_ | (refine aw_if ?_ ?_ <;> intro hb <;> try exact no_) | (refine sx_ ?_ <;> intro bb) | (refine su_ ?_ <;> intro u hu1 hu2) | fail)
    refine aw_lf (fun X : Nat => [(16, I X)]) (fun X => X < w ∧ ∀ j, j < Y * w + X → wrP l tl j = false) (fun X => w - X) 0 ⟨by omega, fun j z => y2 j (by omega)⟩ ?_
    rintro X ⟨x1, x2⟩
    have c1 : AP Tryd.prog T0 16 [slA guT ((l.drop (Y * w + X)).take (Y * w + X + 1 - (Y * w + X))), slA cellT ((tl.drop (Y * w + X)).take (tl.length - (Y * w + X)))] (I (cntP (wrP l tl) (Y * w + X) 1 : Nat)) := by
      have e1 : ((l.drop (Y * w + X)).take 1).length = 1 := by rw [List.length_take, List.length_drop]; omega
      have := f_pWrong (T0 := T0) ((l.drop (Y * w + X)).take 1) ((tl.drop (Y * w + X)).take (tl.length - (Y * w + X))) (by rw [e1, List.length_take, List.length_drop]; omega) (by rw [e1]; omega)
      rw [e1, cnt_sub (by omega)] at this
      rw [Nat.add_sub_cancel_left]; exact this
    have k1 := cnt_one (l := l) (cs := tl) (a := Y * w + X)
    have hat := c_in (l := tl) (i := Y * w + X) (by omega)
    change tl[Y * w + X]? = some (cAt tl (Y * w + X)) at hat
    have F1 := F (Y * w + X) (by omega) x2
    have hp1 := hp (Y * w + X) (by omega)
    have x3 : wrP l tl (Y * w + X) = false → ∀ j, j < Y * w + X + 1 → wrP l tl j = false := fun q j hj => by
      rcases Nat.lt_or_ge j (Y * w + X) with q2 | q2
      · exact x2 j q2
      · rw [show j = Y * w + X by omega]; exact q
    generalize cntP (wrP l tl) (Y * w + X) 1 = n1 at *
    generalize wrP l tl (Y * w + X) = v at *
    generalize cAt tl (Y * w + X) = tc at *
    obtain ⟨t1, t2⟩ := tc
    cases v with
    | false =>
      obtain rfl : n1 = 0 := k1.2 rfl
      by_cases hx : X = w - 1
      · repeat' (first
        | refine g41_ ?_ | (refine aw_if ?_ ?_ <;> intro hb <;> try exact no_) | (refine sx_ ?_ <;> intro bb) | (refine su_ ?_ <;> intro u hu1 hu2) | fail)
        all_goals first | (exfalso; omega) | exact ⟨Y + 1, ⟨by omega, fun j hj => x3 rfl j (by rw [Nat.add_mul, Nat.one_mul] at hj; omega)⟩, by omega, wx_, sl_⟩ | skip
      · repeat' (first
        | refine g41_ ?_ | (refine aw_if ?_ ?_ <;> intro hb <;> try exact no_) | (refine sx_ ?_ <;> intro bb) | (refine su_ ?_ <;> intro u hu1 hu2) | fail)
        all_goals first | (exfalso; omega) | exact ⟨X + 1, ⟨by omega, fun j hj => x3 rfl j (by omega)⟩, by omega, wx_, sl_⟩ | skip
    | true =>
      have hn : n1 ≠ 0 := fun q => by cases k1.1 q
      have e := F1 rfl
      simp only at e hp1
      by_cases hk : t2 = 2
      · have hp2 := hp1 hk
        rw [if_pos hk] at e
        subst e
        repeat' (first
        | refine g41_ ?_ | (refine aw_if ?_ ?_ <;> intro hb <;> try exact no_) | (refine sx_ ?_ <;> intro bb) | (refine su_ ?_ <;> intro u hu1 hu2) | fail)
        all_goals first | (exfalso; omega) | exact ⟨_, [], rl_, List.nil_sublist _, Sub.refl _, rfl⟩ | skip
      · rw [if_neg hk] at e
        subst e
        repeat' (first
        | refine g41_ ?_ | (refine aw_if ?_ ?_ <;> intro hb <;> try exact no_) | (refine sx_ ?_ <;> intro bb) | (refine su_ ?_ <;> intro u hu1 hu2) | fail)
        all_goals first | (exfalso; omega) | exact ⟨_, [], rl_, List.nil_sublist _, Sub.refl _, rfl⟩ | skip
  · obtain rfl : Y = h := by omega
    have e := E fun j hj => y2 j (by rw [Nat.mul_comm]; omega)
    subst e
    repeat' (first
    | refine g41_ ?_ | (refine aw_if ?_ ?_ <;> intro hb <;> try exact no_) | (refine sx_ ?_ <;> intro bb) | (refine su_ ?_ <;> intro u hu1 hu2) | fail)
    exact ⟨_, [], rl_, List.nil_sublist _, Sub.refl _, rfl⟩
end Go.Proofs.YtgfmjmfphmjdkaaDoor
namespace Go.Proofs.YtgfmjmfphmjdkaaDoor
set_option linter.unusedSimpArgs false
set_option linter.unusedVariables false
set_option linter.unusedSectionVars false
set_option maxHeartbeats 4000000
open Go Go.RowKit
set_option maxRecDepth 200000
variable {T0 : Gh} [TabS T0]
/-- parts of the rows, as the program cuts them -/
theorem f_pWrongCut (l : List Guess) (tl : List Cell) (P E m : Nat) (he : E - P = m) (hE : E ≤ l.length) (hP : P ≤ E) (hl : l.length ≤ tl.length) (h9 : l.length ≤ 100000) : AP Tryd.prog T0 16 [slA guT ((l.drop P).take (E - P)), slA cellT ((tl.drop P).take (E - P))] (I (cntP (wrP l tl) P m : Nat)) := by
  subst he
  have e1 : ((l.drop P).take (E - P)).length = E - P := by rw [List.length_take, List.length_drop]; omega
  have := f_pWrong (T0 := T0) ((l.drop P).take (E - P)) ((tl.drop P).take (E - P)) (by rw [e1, List.length_take, List.length_drop]; omega) (by rw [e1]; omega)
  rw [e1, cnt_sub (Nat.le_refl _)] at this
  exact this
theorem f_pBlankCut (tl : List Cell) (P E m : Nat) (he : E - P = m) (hE : E ≤ tl.length) (hP : P ≤ E) (h9 : tl.length ≤ 100000) : AP Tryd.prog T0 15 [slA cellT ((tl.drop P).take (E - P))] (B (blkP tl P m)) := by
  subst he
  have e1 : ((tl.drop P).take (E - P)).length = E - P := by rw [List.length_take, List.length_drop]; omega
  have := f_pBlank (T0 := T0) ((tl.drop P).take (E - P)) (by rw [e1]; omega)
  rw [e1, blk_sub] at this
  exact this
attribute [local irreducible] thenA inBlockA AW AL AO QY varO rowO rsA Opd OpdN vA gvA tupA aggA slA slcA ipA rpA EqK LnK IxK LdK FaK FdK
theorem f_pNext (w h : Int) (l : List Guess) (x y : Int) (b s : Bool) (tw th : Int) (tl : List Cell) (tx ty : Int) (tb : Bool) : AP Tryd.prog T0 5 [belA w h l x y b s, termA tw th tl tx ty tb] (tupA [cmdA (nextP (w, h, l, x, y, b, s) (tw, th, tl, tx, ty, tb)).1, I (nextP (w, h, l, x, y, b, s) (tw, th, tl, tx, ty, tb)).2]) := by
  have c1 := f_pFits (T0 := T0) w h l x y b s tw th tl tx ty tb
  have hat : True := trivial
  have c2 : True := trivial
  have c3 : True := trivial
  have c4 : True := trivial
  have c5 : True := trivial
  have c6 : True := trivial
  have c7 : True := trivial
  by_cases hf : fitsP (w, h, l, x, y, b, s) (tw, th, tl, tx, ty, tb)
  · rw [decide_eq_true hf] at c1
    obtain ⟨w', h', _, _, _, _, _, _, _, _, e1, e2, w2, w3, _, w5, hl, hcl, hk, hX, hY⟩ := fits_nat hf
    simp only [Prod.mk.injEq] at e1 e2
    obtain ⟨rfl, rfl, rfl, rfl, rfl, rfl, rfl⟩ := e1
    obtain ⟨rfl, rfl, rfl, rfl, rfl, rfl⟩ := e2
    have hwh : w' * h' ≤ 1920 := side_leB w3 w5
    have c2 := f_pFirst (T0 := T0) w' h' l x y b s tl tx ty false w2 w3 w5 hl hcl (fun i hi q => by
      have := ((cs_kind hk hi).2.2 q).1
      rcases Nat.eq_zero_or_pos i with z | z
      · rw [z] at this; simp at this
      · exact z)
    have hF := (fstW_spec ((w' : Int), (h' : Int), l, x, y, b, s) ((w' : Int), (h' : Int), tl, tx, ty, false)).1
    simp only at hF
    by_cases hn : fstW ((w' : Int), (h' : Int), l, x, y, b, s) ((w' : Int), (h' : Int), tl, tx, ty, false) = l.length
    · rw [nextP_end hf hn]
      rw [firP, if_pos hn] at c2
      have c3 := f_moNext (T0 := T0) w' h' l x y b s tx ty
      dsimp only at c2 ⊢
      generalize nextMo ((w' : Int), (h' : Int), l, x, y, b, s) tx ty = z at *
      obtain ⟨⟨k, a, d, r⟩, e⟩ := z
      clear hf
      refine af_intro Tryd.func5 rfl (by decide) Tryd.ntmps5 rfl ?_
      repeat' (first
      | refine g40_ ?_ | (refine aw_if ?_ ?_ <;> intro hb <;> try exact no_) | (refine sx_ ?_ <;> intro bb) | (refine su_ ?_ <;> intro u hu1 hu2) | fail)
      all_goals first | exact e6_ | skip
    · rw [nextP_mid hf hn]
      rw [firP, if_neg hn] at c2
      have hP := plc_le (b := ((w' : Int), (h' : Int), l, x, y, b, s)) (t := ((w' : Int), (h' : Int), tl, tx, ty, false))
      generalize plcW ((w' : Int), (h' : Int), l, x, y, b, s) ((w' : Int), (h' : Int), tl, tx, ty, false) = P at *
      simp only [Int.toNat_natCast] at c2 ⊢
      obtain ⟨r1, r2, r3⟩ := row_inP (h := h') (show 0 < w' by omega) (p := P) (by omega)
      have hm := Nat.mod_lt P (show 0 < w' by omega)
      have hme := Nat.mod_le P w'
      have hdm := Nat.div_add_mod P w'
      have hq : P / w' < h' := (Nat.div_lt_iff_lt_mul (by omega)).2 (by rw [Nat.mul_comm]; omega)
      have hnn : (0 : Int) ≤ ((P / w' : Nat) : Int) := Int.natCast_nonneg _
      have c3 := f_moNext (T0 := T0) w' h' l x y b s (P % w' : Nat) (P / w' : Nat)
      rcases nextMo_two (b := ((w' : Int), (h' : Int), l, x, y, b, s)) (X := (P % w' : Nat)) (Y := (P / w' : Nat)) hf.1 ⟨Int.natCast_nonneg _, Int.ofNat_lt.2 hm⟩ ⟨Int.natCast_nonneg _, Int.ofNat_lt.2 hq⟩ with ⟨q1, q2⟩ | ⟨q1, q2⟩
      · rw [q1, if_neg (by decide)]
        rw [q2] at c3
        have c4 := f_pBlankCut (T0 := T0) tl P tl.length (l.length - P) (by omega) (Nat.le_refl _) (by omega) (by omega)
        have c5 : AP Tryd.prog T0 16 [slA guT ((l.drop P).take (l.length - P)), slA cellT ((tl.drop P).take (tl.length - P))] (I (cntP (wrP l tl) P (l.length - P) : Nat)) := by
          rw [show tl.length = l.length by omega]
          exact f_pWrongCut (T0 := T0) l tl P l.length (l.length - P) rfl (Nat.le_refl _) (by omega) (by omega) (by omega)
        have c6 := f_pBlankCut (T0 := T0) tl P (P - P % w' + w') (w' - P % w') (by omega) (by omega) (by omega) (by omega)
        have c7 := f_pWrongCut (T0 := T0) l tl P (P - P % w' + w') (w' - P % w') (by omega) (by omega) (by omega) (by omega) (by omega)
        have hat := c_in (l := tl) (i := P) (by omega)
        change tl[P]? = some (cAt tl P) at hat
        unfold tellW
        have b1 := cntP_le (wrP l tl) P (l.length - P)
        have b2 := cntP_le (wrP l tl) P (w' - P % w')
        clear hf q1 q2 hk
        generalize blkP tl P (l.length - P) = v1 at *
        generalize blkP tl P (w' - P % w') = v2 at *
        generalize cntP (wrP l tl) P (l.length - P) = n1 at *
        generalize cntP (wrP l tl) P (w' - P % w') = n2 at *
        generalize cAt tl P = tc at *
        obtain ⟨t1, t2⟩ := tc
        by_cases q8 : v1 = true ∧ 8 ≤ n1
        · rw [if_pos q8]
          obtain ⟨rfl, q8⟩ := q8
          refine af_intro Tryd.func5 rfl (by decide) Tryd.ntmps5 rfl ?_
          repeat' (first
          | refine g40_ ?_ | (refine aw_if ?_ ?_ <;> intro hb <;> try exact no_) | (refine sx_ ?_ <;> intro bb) | (refine su_ ?_ <;> intro u hu1 hu2) | fail)
          all_goals first | exact e6_ | skip
        · rw [if_neg q8]
          by_cases q7 : v2 = true ∧ 4 ≤ n2
          · rw [if_pos q7]
            obtain ⟨rfl, q7⟩ := q7
            refine af_intro Tryd.func5 rfl (by decide) Tryd.ntmps5 rfl ?_
            repeat' (first
            | refine g40_ ?_ | (refine aw_if ?_ ?_ <;> intro hb <;> try exact no_) | (refine sx_ ?_ <;> intro bb) | (refine su_ ?_ <;> intro u hu1 hu2) | fail)
            all_goals first | exact e6_ | skip
          · rw [if_neg q7]
            refine af_intro Tryd.func5 rfl (by decide) Tryd.ntmps5 rfl ?_
            repeat' (first
            | refine g40_ ?_ | (refine aw_if ?_ ?_ <;> intro hb <;> try exact no_) | (refine sx_ ?_ <;> intro bb) | (refine su_ ?_ <;> intro u hu1 hu2) | fail)
            all_goals first | exact e6_ | skip
      · rw [q1, if_pos rfl]
        generalize nextMo ((w' : Int), (h' : Int), l, x, y, b, s) (P % w' : Nat) (P / w' : Nat) = z at *
        obtain ⟨⟨k, a, d, r⟩, e⟩ := z
        simp only at q2
        subst q2
        clear hf
        refine af_intro Tryd.func5 rfl (by decide) Tryd.ntmps5 rfl ?_
        repeat' (first
        | refine g40_ ?_ | (refine aw_if ?_ ?_ <;> intro hb <;> try exact no_) | (refine sx_ ?_ <;> intro bb) | (refine su_ ?_ <;> intro u hu1 hu2) | fail)
        all_goals first | exact e6_ | skip
  · rw [decide_eq_false hf] at c1
    rw [nextP_no hf]
    clear hf
    refine af_intro Tryd.func5 rfl (by decide) Tryd.ntmps5 rfl ?_
    repeat' (first
    | refine g40_ ?_ | (refine aw_if ?_ ?_ <;> intro hb <;> try exact no_) | (refine sx_ ?_ <;> intro bb) | (refine su_ ?_ <;> intro u hu1 hu2) | fail)
    all_goals first | exact e6_ | skip
end Go.Proofs.YtgfmjmfphmjdkaaDoor
