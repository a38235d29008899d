/- Layer 29 (paint): what fits, what is wrong, and what is blank, by the program. No condition. -/
import Derived.Test.YtgfmjmfphmjdkaaGreatDoorQ3I6
import Derived.Test.YtgfmjmfphmjdkaaGreatDoorQ3B1
import Derived.Test.YtgfmjmfphmjdkaaGreatDoorQ3H4
import Derived.Test.YtgfmjmfphmjdkaaGreatDoorQ3BD
import Derived.Test.YtgfmjmfphmjdkaaGreatDoorQ3BF
namespace Go.Proofs.YtgfmjmfphmjdkaaGreatDoor
set_option linter.unusedSimpArgs false
set_option linter.unusedVariables false
set_option linter.unusedSectionVars false
set_option maxHeartbeats 4000000
open Go Go.RowKit
set_option maxRecDepth 200000
variable {T0 : Gh} [TabS T0]
attribute [local irreducible] thenA inBlockA AW AL AO QY varO rowO rsA Opd OpdN vA gvA tupA aggA slA slcA ipA rpA EqK LnK IxK LdK FaK FdK
theorem f_pFits (w h : Int) (l : List Guess) (x y : Int) (b s : Bool) (tw th : Int) (tl : List Cell) (tx ty : Int) (tb : Bool) : AP Tryz.prog T0 49 [belA w h l x y b s, termA tw th tl tx ty tb] (B (decide (fitsP (w, h, l, x, y, b, s) (tw, th, tl, tx, ty, tb)))) := by
  have c1 := f_beIs (T0 := T0) w h l x y b s
  have c2 := f_termIs (T0 := T0) tw th tl tx ty tb
  rw [fits_dec]
  generalize okBe w h l x y b s = v1 at *
  generalize okT tw th tl tx ty tb = v2 at *
  refine af_intro Tryz.func49 rfl (by decide) Tryz.ntmps49 rfl ?_
  repeat' (first
  | refine g20_ ?_ | (refine aw_if ?_ ?_ <;> intro hb <;> try exact no_) | (refine sx_ ?_ <;> intro bb) | (refine su_ ?_ <;> intro u hu1 hu2) | fail)
  all_goals exact ⟨_, [], rl_, List.nil_sublist _, Sub.refl _, rfl⟩
theorem f_r29Fits (w h : Int) (l : List Guess) (x y : Int) (b s : Bool) (tw th : Int) (tl : List Cell) (tx ty : Int) (tb : Bool) : AP Tryz.prog T0 51 [belA w h l x y b s, termA tw th tl tx ty tb] (B (decide (fitsP (w, h, l, x, y, b, s) (tw, th, tl, tx, ty, tb)))) := by
  have c1 := f_ref27Is (T0 := T0) w h l x y b s
  have c2 := f_ref07Is (T0 := T0) tw th tl tx ty tb
  rw [fits_dec]
  generalize okBe w h l x y b s = v1 at *
  generalize okT tw th tl tx ty tb = v2 at *
  refine af_intro Tryz.func51 rfl (by decide) Tryz.ntmps51 rfl ?_
  repeat' (first
  | refine g20_ ?_ | (refine aw_if ?_ ?_ <;> intro hb <;> try exact no_) | (refine sx_ ?_ <;> intro bb) | (refine su_ ?_ <;> intro u hu1 hu2) | fail)
  all_goals exact ⟨_, [], rl_, List.nil_sublist _, Sub.refl _, rfl⟩
theorem f_pWrong (l : List Guess) (cs : List Cell) (hl : l.length ≤ cs.length) (hn : l.length ≤ 100000) : AP Tryz.prog T0 50 [slA guT l, slA cellT cs] (I (cntP (wrP l cs) 0 l.length : Nat)) := by
  have hat : True := trivial
  have hat2 : True := trivial
  refine af_intro Tryz.func50 rfl (by decide) Tryz.ntmps50 rfl ?_
  repeat' (first
  | refine g67_ ?_ | (refine aw_if ?_ ?_ <;> intro hb <;> try exact no_) | (refine sx_ ?_ <;> intro bb) | (refine su_ ?_ <;> intro u hu1 hu2) | fail)
  refine aw_lf (fun k : Nat => [(5, I (cntP (wrP l cs) 0 k : Nat)), (10, I k)]) (fun k => k ≤ l.length) (fun k => l.length - k) 0 (Nat.zero_le _) ?_
  rintro k k1
  have hle := cntP_le (wrP l cs) 0 k
  by_cases hlt : k < l.length
  · have hat := g_in hlt
    have hat2 := c_in (l := cs) (i := k) (by omega)
    have nx := cnt_next (p := wrP l cs) (a := 0) (n := k)
    rw [Nat.zero_add] at nx
    have wd : wrP l cs k = decide (gAt l k ≠ (cAt cs k, true)) := rfl
    change cs[k]? = some (cAt cs k) at hat2
    generalize gAt l k = g at *
    generalize cAt cs k = tc at *
    obtain ⟨⟨g1, g2⟩, gs⟩ := g
    obtain ⟨t1, t2⟩ := tc
    repeat' (first
    | refine g67_ ?_ | (refine aw_if ?_ ?_ <;> intro hb <;> try exact no_) | (refine sx_ ?_ <;> intro bb) | (refine su_ ?_ <;> intro u hu1 hu2) | fail)
    · refine ⟨k + 1, by omega, by omega, ?_, sl_⟩
      rw [nx, wd, if_pos (decide_eq_true hb)]; exact wx_
    · refine ⟨k + 1, by omega, by omega, ?_, sl_⟩
      rw [nx, wd, if_neg (fun z => absurd hb (of_decide_eq_true z))]; exact wx_
  · obtain rfl : k = l.length := by omega
    repeat' (first
    | refine g67_ ?_ | (refine aw_if ?_ ?_ <;> intro hb <;> try exact no_) | (refine sx_ ?_ <;> intro bb) | (refine su_ ?_ <;> intro u hu1 hu2) | fail)
    exact ⟨_, [], rl_, List.nil_sublist _, Sub.refl _, rfl⟩
theorem f_pBlank (cs : List Cell) (hn : cs.length ≤ 100000) : AP Tryz.prog T0 55 [slA cellT cs] (B (blkP cs 0 cs.length)) := by
  have hat : True := trivial
  have hat2 : True := trivial
  refine af_intro Tryz.func55 rfl (by decide) Tryz.ntmps55 rfl ?_
  repeat' (first
  | refine g67_ ?_ | (refine aw_if ?_ ?_ <;> intro hb <;> try exact no_) | (refine sx_ ?_ <;> intro bb) | (refine su_ ?_ <;> intro u hu1 hu2) | fail)
  refine aw_lf (fun k : Nat => [(7, I k)]) (fun k => k ≤ cs.length ∧ ∀ i, i < k → cAt cs i = (32, 0)) (fun k => cs.length - k) 0 ⟨Nat.zero_le _, fun _ z => absurd z (Nat.not_lt_zero _)⟩ ?_
  rintro k ⟨k1, k2⟩
  by_cases hlt : k < cs.length
  · have hat := c_in hlt
    change cs[k]? = some (cAt cs k) at hat
    have hv : blkP cs 0 cs.length = true → cAt cs k = (32, 0) := fun z => blkP_iff.1 z k (Nat.zero_le _) (by omega)
    have hw : cAt cs k = (32, 0) → ∀ i, i < k + 1 → cAt cs i = (32, 0) := fun z i hi => by
      rcases Nat.lt_or_ge i k with q | q
      · exact k2 i q
      · rw [show i = k by omega]; exact z
    generalize cAt cs k = tc at *
    obtain ⟨t1, t2⟩ := tc
    repeat' (first
    | refine g67_ ?_ | (refine aw_if ?_ ?_ <;> intro hb <;> try exact no_) | (refine sx_ ?_ <;> intro bb) | (refine su_ ?_ <;> intro u hu1 hu2) | fail)
    · refine ⟨_, [], rl_, List.nil_sublist _, Sub.eq (congrArg B ?_), rfl⟩
      cases e : blkP cs 0 cs.length with
      | false => rfl
      | true => exact absurd (hv e) hb
    · exact ⟨k + 1, ⟨by omega, hw hb⟩, by omega, wx_, sl_⟩
  · repeat' (first
    | refine g67_ ?_ | (refine aw_if ?_ ?_ <;> intro hb <;> try exact no_) | (refine sx_ ?_ <;> intro bb) | (refine su_ ?_ <;> intro u hu1 hu2) | fail)
    refine ⟨_, [], rl_, List.nil_sublist _, Sub.eq (congrArg B ?_), rfl⟩
    exact (blkP_iff.2 fun i _ hi => k2 i (by omega)).symm
end Go.Proofs.YtgfmjmfphmjdkaaGreatDoor
namespace Go.Proofs.YtgfmjmfphmjdkaaGreatDoor
set_option linter.unusedSimpArgs false
set_option linter.unusedVariables false
set_option linter.unusedSectionVars false
set_option maxHeartbeats 4000000
open Go Go.RowKit
set_option maxRecDepth 200000
variable {T0 : Gh} [TabS T0]
attribute [local irreducible] thenA inBlockA AW AL AO QY varO rowO rsA Opd OpdN vA gvA tupA aggA slA slcA ipA rpA EqK LnK IxK LdK FaK FdK
theorem f_r29Wrong (w h : Int) (l : List Guess) (x y : Int) (b s : Bool) (tw th : Int) (tl : List Cell) (tx ty : Int) (tb : Bool) (k : Nat) (hk : k < l.length) (hk2 : k < tl.length) : AP Tryz.prog T0 56 [belA w h l x y b s, termA tw th tl tx ty tb, I k] (B (wrP l tl k)) := by
  have hat := g_in hk
  have hat2 := c_in (l := tl) (i := k) hk2
  have wd : wrP l tl k = decide (gAt l k ≠ (cAt tl k, true)) := rfl
  rw [wd]
  change tl[k]? = some (cAt tl k) at hat2
  generalize gAt l k = g at *
  generalize cAt tl k = tc at *
  obtain ⟨⟨g1, g2⟩, gs⟩ := g
  obtain ⟨t1, t2⟩ := tc
  refine af_intro Tryz.func56 rfl (by decide) Tryz.ntmps56 rfl ?_
  repeat' (first
  | refine s_op ?_ (hy := by first | (apply k_ix rfl; exact oo_; exact on_; apply ik_sl un_ el_; exact hat) | fail) | refine s_opg ?_ (hy := by intro hk hk2; first | (apply k_ix rfl; exact oog_; exact ong_; apply ik_sl un_ el_; exact hat) | (apply k_ix rfl; exact oog_; exact ong_; apply ik_sl un_ el_; exact hat2) | fail) | refine sa_ ?_ | refine s_op ?_ (hy := by first | exact ay_loadn rfl agg_ sz_ oo_ (Nat.le_of_ble_eq_true rfl) | exact ay_loadn rfl agg_ sz_ oog_ (Nat.le_of_ble_eq_true rfl) | fail) | refine s_yg ?_ | refine s_opg ?_ (hy := by intro hk hk2; first | exact ay_loadn rfl agg_ sz_ oo_ (Nat.le_of_ble_eq_true rfl) | exact ay_loadn rfl agg_ sz_ oog_ (Nat.le_of_ble_eq_true rfl) | fail) | refine sw_ ?_ | (refine aw_if ?_ ?_ <;> intro hb <;> try exact no_) | (refine sx_ ?_ <;> intro bb) | (refine su_ ?_ <;> intro u hu1 hu2) | fail)
  refine ⟨_, [], rl_, List.nil_sublist _, Sub.eq (congrArg B ?_), rfl⟩
  cases gs <;> simp
theorem f_r29Count (w h : Int) (l : List Guess) (x y : Int) (b s : Bool) (tw th : Int) (tl : List Cell) (tx ty : Int) (tb : Bool) (f n : Nat) (hn : f + n ≤ l.length) (hl : l.length ≤ tl.length) (h9 : l.length ≤ 100000) : AP Tryz.prog T0 52 [belA w h l x y b s, termA tw th tl tx ty tb, I f, I (f + n : Nat)] (I (cntP (wrP l tl) f n : Nat)) := by
  have c1 : True := trivial
  have c2 : True := trivial
  refine af_intro Tryz.func52 rfl (by decide) Tryz.ntmps52 rfl ?_
  repeat' (first
  | refine g20_ ?_ | (refine aw_if ?_ ?_ <;> intro hb <;> try exact no_) | (refine sx_ ?_ <;> intro bb) | (refine su_ ?_ <;> intro u hu1 hu2) | fail)
  refine aw_lf (fun k : Nat => [(9, I (cntP (wrP l tl) f k : Nat)), (10, I (f + k : Nat))]) (fun k => k ≤ n) (fun k => n - k) 0 (Nat.zero_le _) ?_
  rintro k k1
  have hle := cntP_le (wrP l tl) f k
  by_cases hlt : k < n
  · have c1 := f_r29Wrong (T0 := T0) w h l x y b s tw th tl tx ty tb (f + k) (by omega) (by omega)
    have nx := cnt_next (p := wrP l tl) (a := f) (n := k)
    generalize wrP l tl (f + k) = v at *
    repeat' (first
    | refine g20_ ?_ | (refine aw_if ?_ ?_ <;> intro hb <;> try exact no_) | (refine sx_ ?_ <;> intro bb) | (refine su_ ?_ <;> intro u hu1 hu2) | fail)
    · refine ⟨k + 1, by omega, by omega, ?_, sl_⟩
      rw [nx, hb, if_pos rfl]; exact wx_
    · refine ⟨k + 1, by omega, by omega, ?_, sl_⟩
      rw [nx, hb, if_neg (by decide)]; exact wx_
  · obtain rfl : k = n := by omega
    repeat' (first
    | refine g20_ ?_ | (refine aw_if ?_ ?_ <;> intro hb <;> try exact no_) | (refine sx_ ?_ <;> intro bb) | (refine su_ ?_ <;> intro u hu1 hu2) | fail)
    exact ⟨_, [], rl_, List.nil_sublist _, Sub.refl _, rfl⟩
theorem f_r29Blank (tw th : Int) (tl : List Cell) (tx ty : Int) (tb : Bool) (f n : Nat) (hn : f + n ≤ tl.length) (h9 : tl.length ≤ 100000) : AP Tryz.prog T0 59 [termA tw th tl tx ty tb, I f, I (f + n : Nat)] (B (blkP tl f n)) := by
  have hat : True := trivial
  refine af_intro Tryz.func59 rfl (by decide) Tryz.ntmps59 rfl ?_
  repeat' (first
  | refine g66_ ?_ | (refine aw_if ?_ ?_ <;> intro hb <;> try exact no_) | (refine sx_ ?_ <;> intro bb) | (refine su_ ?_ <;> intro u hu1 hu2) | fail)
  refine aw_lf (fun k : Nat => [(7, I (f + k : Nat))]) (fun k => k ≤ n ∧ ∀ i, f ≤ i → i < f + k → cAt tl i = (32, 0)) (fun k => n - k) 0 ⟨Nat.zero_le _, fun _ z z2 => absurd z2 (by omega)⟩ ?_
  rintro k ⟨k1, k2⟩
  by_cases hlt : k < n
  · have hat := c_in (l := tl) (i := f + k) (by omega)
    change tl[f + k]? = some (cAt tl (f + k)) at hat
    have hv : blkP tl f n = true → cAt tl (f + k) = (32, 0) := fun z => blkP_iff.1 z (f + k) (by omega) (by omega)
    have hw : cAt tl (f + k) = (32, 0) → ∀ i, f ≤ i → i < f + (k + 1) → cAt tl i = (32, 0) := fun z i h0 hi => by
      rcases Nat.lt_or_ge i (f + k) with q | q
      · exact k2 i h0 q
      · rw [show i = f + k by omega]; exact z
    generalize cAt tl (f + k) = tc at *
    obtain ⟨t1, t2⟩ := tc
    repeat' (first
    | refine g66_ ?_ | (refine aw_if ?_ ?_ <;> intro hb <;> try exact no_) | (refine sx_ ?_ <;> intro bb) | (refine su_ ?_ <;> intro u hu1 hu2) | fail)
    · refine ⟨_, [], rl_, List.nil_sublist _, Sub.eq (congrArg B ?_), rfl⟩
      cases e : blkP tl f n with
      | false => rfl
      | true => exact absurd (hv e) hb
    · exact ⟨k + 1, ⟨by omega, hw hb⟩, by omega, wx_, sl_⟩
  · repeat' (first
    | refine g66_ ?_ | (refine aw_if ?_ ?_ <;> intro hb <;> try exact no_) | (refine sx_ ?_ <;> intro bb) | (refine su_ ?_ <;> intro u hu1 hu2) | fail)
    refine ⟨_, [], rl_, List.nil_sublist _, Sub.eq (congrArg B ?_), rfl⟩
    exact (blkP_iff.2 fun i h0 hi => k2 i h0 (by omega)).symm
theorem f_pWrongX (w h : Int) (l : List Guess) (x y : Int) (b s : Bool) (tw th : Int) (tl : List Cell) (tx ty : Int) (tb : Bool) : AP Tryz.prog T0 12 [belA w h l x y b s, termA tw th tl tx ty tb] (tupA [I (wrongP (w, h, l, x, y, b, s) (tw, th, tl, tx, ty, tb)).1, I (wrongP (w, h, l, x, y, b, s) (tw, th, tl, tx, ty, tb)).2]) := by
  have c1 := f_pFits (T0 := T0) w h l x y b s tw th tl tx ty tb
  by_cases hf : fitsP (w, h, l, x, y, b, s) (tw, th, tl, tx, ty, tb)
  · rw [decide_eq_true hf] at c1
    obtain ⟨e1, e2⟩ := fits_len hf
    rw [wrongP_ok hf]
    have c2 := f_pWrong (T0 := T0) l tl (by simp only at e1; omega) (by simp only at e2; omega)
    refine af_intro Tryz.func12 rfl (by decide) Tryz.ntmps12 rfl ?_
    repeat' (first
    | refine g20_ ?_ | (refine aw_if ?_ ?_ <;> intro hb <;> try exact no_) | (refine sx_ ?_ <;> intro bb) | (refine su_ ?_ <;> intro u hu1 hu2) | fail)
    exact ⟨_, [], rl_, List.nil_sublist _, Sub.refl _, rfl⟩
  · rw [decide_eq_false hf] at c1
    rw [wrongP_no hf]
    have c2 : True := trivial
    refine af_intro Tryz.func12 rfl (by decide) Tryz.ntmps12 rfl ?_
    repeat' (first
    | refine g20_ ?_ | (refine aw_if ?_ ?_ <;> intro hb <;> try exact no_) | (refine sx_ ?_ <;> intro bb) | (refine su_ ?_ <;> intro u hu1 hu2) | fail)
    exact ⟨_, [], rl_, List.nil_sublist _, Sub.refl _, rfl⟩
theorem f_r29WrongX (w h : Int) (l : List Guess) (x y : Int) (b s : Bool) (tw th : Int) (tl : List Cell) (tx ty : Int) (tb : Bool) : AP Tryz.prog T0 13 [belA w h l x y b s, termA tw th tl tx ty tb] (tupA [I (wrongP (w, h, l, x, y, b, s) (tw, th, tl, tx, ty, tb)).1, I (wrongP (w, h, l, x, y, b, s) (tw, th, tl, tx, ty, tb)).2]) := by
  have c1 := f_r29Fits (T0 := T0) w h l x y b s tw th tl tx ty tb
  by_cases hf : fitsP (w, h, l, x, y, b, s) (tw, th, tl, tx, ty, tb)
  · rw [decide_eq_true hf] at c1
    obtain ⟨e1, e2⟩ := fits_len hf
    simp only at e1 e2
    rw [wrongP_ok hf]
    have c2 := f_r29Count (T0 := T0) w h l x y b s tw th tl tx ty tb 0 l.length (by omega) (by omega) (by omega)
    rw [Nat.zero_add] at c2
    replace c2 : AP Tryz.prog T0 52 [belA w h l x y b s, termA tw th tl tx ty tb, I 0, I l.length] (I (cntP (wrP l tl) 0 l.length : Nat)) := c2
    refine af_intro Tryz.func13 rfl (by decide) Tryz.ntmps13 rfl ?_
    repeat' (first
    | refine g20_ ?_ | (refine aw_if ?_ ?_ <;> intro hb <;> try exact no_) | (refine sx_ ?_ <;> intro bb) | (refine su_ ?_ <;> intro u hu1 hu2) | fail)
    exact ⟨_, [], rl_, List.nil_sublist _, Sub.refl _, rfl⟩
  · rw [decide_eq_false hf] at c1
    rw [wrongP_no hf]
    have c2 : True := trivial
    refine af_intro Tryz.func13 rfl (by decide) Tryz.ntmps13 rfl ?_
    repeat' (first
    | refine g20_ ?_ | (refine aw_if ?_ ?_ <;> intro hb <;> try exact no_) | (refine sx_ ?_ <;> intro bb) | (refine su_ ?_ <;> intro u hu1 hu2) | fail)
    exact ⟨_, [], rl_, List.nil_sublist _, Sub.refl _, rfl⟩
end Go.Proofs.YtgfmjmfphmjdkaaGreatDoor
namespace Go.Proofs.YtgfmjmfphmjdkaaGreatDoor
set_option linter.unusedSimpArgs false
set_option linter.unusedVariables false
set_option linter.unusedSectionVars false
set_option maxHeartbeats 4000000
open Go Go.RowKit
set_option maxRecDepth 200000
variable {T0 : Gh} [TabS T0]
attribute [local irreducible] thenA inBlockA AW AL AO QY varO rowO rsA Opd OpdN vA gvA tupA aggA slA slcA ipA rpA EqK LnK IxK LdK FaK FdK
theorem f_pFirst (w h : Nat) (l : List Guess) (x y : Int) (b s : Bool) (tl : List Cell) (tx ty : Int) (tb : Bool) (h1 : 2 ≤ w) (h2 : w ≤ 80) (h4 : h ≤ 24) (hl : l.length = w * h) (htl : tl.length = w * h) (hp : ∀ i, i < tl.length → (cAt tl i).2 = 2 → 1 ≤ i) : AP Tryz.prog T0 53 [belA w h l x y b s, termA w h tl tx ty tb] (tupA [I (firP (w, h, l, x, y, b, s) (w, h, tl, tx, ty, tb)).1, B (firP (w, h, l, x, y, b, s) (w, h, tl, tx, ty, tb)).2]) := by
  have F : ∀ k, k < l.length → (∀ j, j < k → wrP l tl j = false) → wrP l tl k = true → firP ((w : Int), (h : Int), l, x, y, b, s) ((w : Int), (h : Int), tl, tx, ty, tb) = (((if (cAt tl k).2 = 2 then k - 1 else k : Nat) : Int), true) := fun k a1 a2 a3 => by
    have e : fstW ((w : Int), (h : Int), l, x, y, b, s) ((w : Int), (h : Int), tl, tx, ty, tb) = k := fstW_here a1 a2 a3
    unfold firP plcW
    rw [e, if_neg (by simp only; omega)]
  have E : (∀ j, j < l.length → wrP l tl j = false) → firP ((w : Int), (h : Int), l, x, y, b, s) ((w : Int), (h : Int), tl, tx, ty, tb) = (0, false) := fun a => by
    unfold firP
    rw [if_pos (fstW_end a)]
  have hwh : w * h ≤ 1920 := side_leB h2 h4
  generalize firP ((w : Int), (h : Int), l, x, y, b, s) ((w : Int), (h : Int), tl, tx, ty, tb) = z at *
  have hat : True := trivial
  have c1 : True := trivial
  refine af_intro Tryz.func53 rfl (by decide) Tryz.ntmps53 rfl ?_
  repeat' (first
  | refine g65_ ?_ | (refine aw_if ?_ ?_ <;> intro hb <;> try exact no_) | (refine sx_ ?_ <;> intro bb) | (refine su_ ?_ <;> intro u hu1 hu2) | fail)
  refine aw_lf (fun Y : Nat => [(11, I Y)]) (fun Y => Y ≤ h ∧ ∀ j, j < Y * w → wrP l tl j = false) (fun Y => h - Y) 0 ⟨Nat.zero_le _, fun j z => absurd z (by omega)⟩ ?_
  rintro Y ⟨y1, y2⟩
  by_cases hy : Y < h
  · have hq : (Y + 1) * w ≤ h * w := Nat.mul_le_mul_right _ hy
    rw [Nat.add_mul, Nat.one_mul, Nat.mul_comm h w] at hq
    repeat' (first
    | refine g65_ ?_ | (refine aw_if ?_ ?_ <;> intro hb <;> try exact no_) | (refine sx_ ?_ <;> intro bb) | (refine su_ ?_ <;> intro u hu1 hu2) | fail)
    refine aw_lf (fun X : Nat => [(16, I X)]) (fun X => X < w ∧ ∀ j, j < Y * w + X → wrP l tl j = false) (fun X => w - X) 0 ⟨by omega, fun j z => y2 j (by omega)⟩ ?_
    rintro X ⟨x1, x2⟩
    have c1 : AP Tryz.prog T0 50 [slA guT ((l.drop (Y * w + X)).take (Y * w + X + 1 - (Y * w + X))), slA cellT ((tl.drop (Y * w + X)).take (tl.length - (Y * w + X)))] (I (cntP (wrP l tl) (Y * w + X) 1 : Nat)) := by
      have e1 : ((l.drop (Y * w + X)).take 1).length = 1 := by rw [List.length_take, List.length_drop]; omega
      have := f_pWrong (T0 := T0) ((l.drop (Y * w + X)).take 1) ((tl.drop (Y * w + X)).take (tl.length - (Y * w + X))) (by rw [e1, List.length_take, List.length_drop]; omega) (by rw [e1]; omega)
      rw [e1, cnt_sub (by omega)] at this
      rw [Nat.add_sub_cancel_left]; exact this
    have k1 := cnt_one (l := l) (cs := tl) (a := Y * w + X)
    have hat := c_in (l := tl) (i := Y * w + X) (by omega)
    change tl[Y * w + X]? = some (cAt tl (Y * w + X)) at hat
    have F1 := F (Y * w + X) (by omega) x2
    have hp1 := hp (Y * w + X) (by omega)
    have x3 : wrP l tl (Y * w + X) = false → ∀ j, j < Y * w + X + 1 → wrP l tl j = false := fun q j hj => by
      rcases Nat.lt_or_ge j (Y * w + X) with q2 | q2
      · exact x2 j q2
      · rw [show j = Y * w + X by omega]; exact q
    generalize cntP (wrP l tl) (Y * w + X) 1 = n1 at *
    generalize wrP l tl (Y * w + X) = v at *
    generalize cAt tl (Y * w + X) = tc at *
    obtain ⟨t1, t2⟩ := tc
    cases v with
    | false =>
      obtain rfl : n1 = 0 := k1.2 rfl
      by_cases hx : X = w - 1
      · repeat' (first
        | refine g65_ ?_ | (refine aw_if ?_ ?_ <;> intro hb <;> try exact no_) | (refine sx_ ?_ <;> intro bb) | (refine su_ ?_ <;> intro u hu1 hu2) | fail)
        all_goals first | (exfalso; omega) | exact ⟨Y + 1, ⟨by omega, fun j hj => x3 rfl j (by rw [Nat.add_mul, Nat.one_mul] at hj; omega)⟩, by omega, wx_, sl_⟩ | skip
      · repeat' (first
        | refine g65_ ?_ | (refine aw_if ?_ ?_ <;> intro hb <;> try exact no_) | (refine sx_ ?_ <;> intro bb) | (refine su_ ?_ <;> intro u hu1 hu2) | fail)
        all_goals first | (exfalso; omega) | exact ⟨X + 1, ⟨by omega, fun j hj => x3 rfl j (by omega)⟩, by omega, wx_, sl_⟩ | skip
    | true =>
      have hn : n1 ≠ 0 := fun q => by cases k1.1 q
      have e := F1 rfl
      simp only at e hp1
      by_cases hk : t2 = 2
      · have hp2 := hp1 hk
        rw [if_pos hk] at e
        subst e
        repeat' (first
        | refine g65_ ?_ | (refine aw_if ?_ ?_ <;> intro hb <;> try exact no_) | (refine sx_ ?_ <;> intro bb) | (refine su_ ?_ <;> intro u hu1 hu2) | fail)
        all_goals first | (exfalso; omega) | exact ⟨_, [], rl_, List.nil_sublist _, Sub.refl _, rfl⟩ | skip
      · rw [if_neg hk] at e
        subst e
        repeat' (first
        | refine g65_ ?_ | (refine aw_if ?_ ?_ <;> intro hb <;> try exact no_) | (refine sx_ ?_ <;> intro bb) | (refine su_ ?_ <;> intro u hu1 hu2) | fail)
        all_goals first | (exfalso; omega) | exact ⟨_, [], rl_, List.nil_sublist _, Sub.refl _, rfl⟩ | skip
  · obtain rfl : Y = h := by omega
    have e := E fun j hj => y2 j (by rw [Nat.mul_comm]; omega)
    subst e
    repeat' (first
    | refine g65_ ?_ | (refine aw_if ?_ ?_ <;> intro hb <;> try exact no_) | (refine sx_ ?_ <;> intro bb) | (refine su_ ?_ <;> intro u hu1 hu2) | fail)
    exact ⟨_, [], rl_, List.nil_sublist _, Sub.refl _, rfl⟩
end Go.Proofs.YtgfmjmfphmjdkaaGreatDoor
