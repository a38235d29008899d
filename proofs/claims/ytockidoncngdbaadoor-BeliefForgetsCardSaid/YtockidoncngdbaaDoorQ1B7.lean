/- Layer 27 (belief), plainly: what a command touches, what is forgotten, and the belief of a terminal. No condition. -/
import Derived.Test.YtockidoncngdbaaDoorQ1B6
namespace Go.Proofs.YtockidoncngdbaaDoor
set_option linter.unusedSimpArgs false
set_option linter.unusedVariables false
set_option linter.unusedSectionVars false
set_option maxHeartbeats 4000000
open Go Go.RowKit
set_option maxRecDepth 100000
/-- what a command touches -/
def goesDown (w x : Int) (b : Bool) (c : Cmd) : Bool := decide (c.1 = 10) || (decide (c.1 = 1) && (b || decide (w < x + (cellsM c.2.2.2).length)))
noncomputable def touchB (b : Bel) (c : Cmd) : Int × Int :=
  if ¬ (okBl b = true ∧ isCmd c = true ∧ chg c.1 = true) then (0, 0)
  else if b.2.2.2.2.2.2 = false ∨ (goesDown b.1 b.2.2.2.1 b.2.2.2.2.2.1 c = true ∧ b.2.2.2.2.1 = b.2.1 - 1) then (0, b.1 * b.2.1)
  else if c.1 = 10 then (0, 0)
  else
    let y := if goesDown b.1 b.2.2.2.1 b.2.2.2.2.2.1 c = true then b.2.2.2.2.1 + 1 else b.2.2.2.2.1
    let x := if goesDown b.1 b.2.2.2.1 b.2.2.2.2.2.1 c = true then 0 else b.2.2.2.1
    (y * b.1 + max (x - 1) 0, if c.1 = 7 then (y + 1) * b.1 else if c.1 = 8 then b.1 * b.2.1 else y * b.1 + min b.1 (x + (cellsM c.2.2.2).length + 1))
/-- what is laid changes no cell but beside it -/
theorem lay_touch {w h : Nat} {t : List Cell} {Y X : Nat} {cs : List Cell} (hok : okG w h t = true) (hy : Y < h) (hne : cs ≠ []) (hp : Y * w + X + cs.length ≤ w * h) (hX : X < w) {f g : Nat} (hf : f ≤ Y * w + X) (hf2 : 1 ≤ X → f + 1 ≤ Y * w + X) (hg : Y * w + X + cs.length ≤ g) (hg2 : (Y * w + X + cs.length - 1) % w ≠ w - 1 → Y * w + X + cs.length + 1 ≤ g) (i : Nat) (hi : i < f ∨ g ≤ i) : cAt (layG t (Y * w + X) cs) i = cAt t i := by
  obtain ⟨w', h', e1, e2, h1, h2, h3, h4, hlen, hall⟩ := okG_nat hok
  obtain rfl : w = w' := by omega
  obtain rfl : h = h' := by omega
  have hpos := List.length_pos_iff.2 hne
  have hm := pos_mod (y := Y) hX
  rw [layG_at hne (by omega) (fun k => ok_left (hall _ (by omega)).2 k) (fun k => by
    have := ok_right (h := h) (by omega) h3 hlen (by omega) (hall (Y * w + X + cs.length - 1) (by omega)).2 k; omega)]
  by_cases q1 : i < Y * w + X
  · rw [if_pos q1, if_neg]
    rintro ⟨k1, k2⟩
    have := ((lost_false.1 (hall (Y * w + X) (by omega)).2).2 k2).1
    rw [hm] at this
    have := hf2 (by omega)
    omega
  · rw [if_neg q1, if_neg (by omega), if_neg]
    rintro ⟨k1, k2⟩
    have := hg2 ((lost_false.1 (hall (Y * w + X + cs.length - 1) (by omega)).2).1 k2).1
    omega
def Touches (t : List Cell) (ft : Int × Int) (L : List Cell) : Prop := 0 ≤ ft.1 ∧ ft.1 ≤ ft.2 ∧ ft.2 ≤ t.length ∧ L.length = t.length ∧ ∀ i : Nat, i < t.length → ((i : Int) < ft.1 ∨ ft.2 ≤ (i : Int)) → cAt L i = cAt t i
theorem touches_same {t : List Cell} : Touches t (0, 0) t := ⟨by simp, by simp, by simp, rfl, fun _ _ _ => rfl⟩
theorem touches_all {t L : List Cell} {n : Int} (h1 : L.length = t.length) (h2 : n = t.length) : Touches t (0, n) L := ⟨by simp, by simp; omega, by simp; omega, h1, fun i hi h => by simp only at h; omega⟩
theorem touch_ok {b : Bel} {t : Tm} {c : Cmd} (ha : AgrP b t) (hc : isCmd c = true) : Touches t.2.2.1 (touchB b c) (doT t c).1.2.2.1 := by
  obtain ⟨h1, h2, h3, h4, h5, h6⟩ := ha
  have hok := doK_ok h2 hc
  rw [doT_ok h2 hc]
  obtain ⟨w, h, l, x, y, bb, s⟩ := b
  obtain ⟨W, H, tl, X, Y, tb⟩ := t
  simp only at h3 h4 h5 h6 ⊢
  subst h3 h4
  have s1 := doK_sides w h tl X Y tb c
  have hL : (doK w h tl X Y tb c).2.2.1.length = tl.length := by
    have a1 := (okG_len (okT_iff.1 hok).1).1
    have a2 := (okG_len (okT_iff.1 h2).1).1
    rw [s1.1, s1.2] at a1
    exact Int.ofNat_inj.1 (a1.trans a2.symm)
  obtain ⟨w, h, rfl, rfl, w2, w3, w4, w5, hl, hk, p1, p2⟩ := okBe_iff.1 h1
  obtain ⟨g1, ⟨g2, g3, g4, g5⟩, g6⟩ := okT_iff.1 h2
  simp only at g1 g2 g3 g4 g5 g6
  have tlen := (okG_len g1).1
  by_cases q0 : chg c.1 = true
  · by_cases q1 : s = false ∨ (goesDown w x bb c = true ∧ y = (h : Int) - 1)
    · have e : touchB (w, h, l, x, y, bb, s) c = (0, (w : Int) * h) := by
        unfold touchB; rw [if_neg (fun z => z ⟨h1, hc, q0⟩), if_pos q1]
      rw [e]; exact touches_all hL tlen.symm
    · have hs : s = true := by cases s with | true => rfl | false => exact absurd (.inl rfl) q1
      subst hs
      obtain ⟨rfl, rfl, rfl⟩ := h6 rfl
      have q2 : goesDown w x bb c = true → y + 1 < (h : Int) := fun z => by
        have : ¬ y = (h : Int) - 1 := fun z2 => q1 (.inr ⟨z, z2⟩)
        omega
      have te : touchB (w, h, l, x, y, bb, true) c = if c.1 = 10 then (0, 0) else
          ((if goesDown w x bb c = true then y + 1 else y) * w + max ((if goesDown w x bb c = true then 0 else x) - 1) 0, if c.1 = 7 then ((if goesDown w x bb c = true then y + 1 else y) + 1) * w else if c.1 = 8 then (w : Int) * h else (if goesDown w x bb c = true then y + 1 else y) * w + min (w : Int) ((if goesDown w x bb c = true then 0 else x) + (cellsM c.2.2.2).length + 1)) := by
        unfold touchB; rw [if_neg (fun z => z ⟨h1, hc, q0⟩), if_neg q1]
      rw [te]
      obtain ⟨x, rfl⟩ := Int.eq_ofNat_of_zero_le g2
      obtain ⟨y, rfl⟩ := Int.eq_ofNat_of_zero_le g4
      have hx : x < w := by omega
      have hy : y < h := by omega
      have lay : ∀ (Y X : Nat) (cs : List Cell) (g : Nat), Y < h → X < w → cs ≠ [] → Y * w + X + cs.length ≤ w * h → g ≤ w * h → Y * w + X + cs.length ≤ g → ((Y * w + X + cs.length - 1) % w ≠ w - 1 → Y * w + X + cs.length + 1 ≤ g) → Touches tl ((Y : Int) * w + max ((X : Int) - 1) 0, (g : Int)) (layG tl (Y * w + X) cs) := fun Y X cs g a1 a2 a3 a4 a5 a6 a7 => by
        have e : ((Y : Int) * w + max ((X : Int) - 1) 0) = ((Y * w + (X - 1) : Nat) : Int) := by rw [Int.natCast_add, Int.natCast_mul]; omega
        rw [e]
        have hwh : ((w * h : Nat) : Int) = (w : Int) * h := Int.natCast_mul w h
        refine ⟨Int.natCast_nonneg _, by simp only; omega, by simp only; omega, layG_len (by omega), fun i hi hh => ?_⟩
        refine lay_touch g1 a1 a3 a4 a2 (f := Y * w + (X - 1)) (g := g) (by omega) (by omega) a6 a7 i ?_
        simp only at hh; omega
      have hwh : ((w * h : Nat) : Int) = (w : Int) * h := Int.natCast_mul w h
      rcases cmd_ways hc with ⟨r, rfl, hs⟩ | ⟨a, d, rfl, _⟩ | ⟨k, a, rfl, hk', _⟩ | ⟨k, rfl, hk'⟩
      · have hn := cellsM_rng hs
        have hne : cellsM r ≠ [] := fun z => by rw [z] at hn; simp at hn
        have txt : ∀ (Y X : Nat), Y < h → X + (cellsM r).length ≤ w → X < w → Touches tl ((Y : Int) * w + max ((X : Int) - 1) 0, (Y : Int) * w + min (w : Int) ((X : Int) + (cellsM r).length + 1)) (textAt w h tl X Y r).2.2.1 := fun Y X a1 a2 a3 => by
          have e := (putR_shown (x := X) (y := Y) g1 ⟨by omega, by omega⟩ ⟨by omega, by omega⟩ hs (by omega)).1
          show Touches tl _ (putR w h tl X Y r).1.2.2
          rw [e]
          have e2 : ((Y : Int) * w + min (w : Int) ((X : Int) + (cellsM r).length + 1)) = ((Y * w + min w (X + (cellsM r).length + 1) : Nat) : Int) := by rw [Int.natCast_add, Int.natCast_mul]; omega
          rw [e2]
          have hr := row_in a1 a2
          have hr2 := row_in (n := 0) a1 (show w + 0 ≤ w by omega)
          refine lay Y X (cellsM r) _ a1 a3 hne hr (by omega) (by omega) fun z => ?_
          have : X + (cellsM r).length ≠ w := fun z2 => z (by
            rw [show Y * w + X + (cellsM r).length - 1 = Y * w + (w - 1) by omega]; exact pos_mod (by omega))
          omega
        show Touches tl _ (textK w h tl x y bb r).2.2.1
        unfold textK
        have gd : goesDown w x bb (1, 0, 0, r) = true ↔ (bb = true ∨ (w : Int) < x + (cellsM r).length) := by simp [goesDown]
        by_cases e : bb = true ∨ (w : Int) < x + (cellsM r).length
        · have := q2 (gd.2 e)
          simp only [if_pos (gd.2 e), if_pos e, show ((1 : Int) = 7) = False by simp, show ((1 : Int) = 8) = False by simp, show ((1 : Int) = 10) = False by simp, if_false]
          unfold downL
          rw [if_neg (show ¬ ((y : Int) = (h : Int) - 1) by omega)]
          exact txt (y + 1) 0 (by omega) (by omega) (by omega)
        · have e' : ¬ goesDown w x bb (1, 0, 0, r) = true := fun z => e (gd.1 z)
          simp only [if_neg e', if_neg e, show ((1 : Int) = 7) = False by simp, show ((1 : Int) = 8) = False by simp, show ((1 : Int) = 10) = False by simp, if_false]
          exact txt y x hy (by omega) hx
      · simp [chg] at q0
      · simp [chg] at q0; omega
      · have gd : k ≠ 10 → goesDown w x bb (k, 0, 0, 0) = false := fun z => by
          simp [goesDown, z]; omega
        have hr := row_in (n := w - x) hy (show x + (w - x) ≤ w by omega)
        have h2' : (y + 1) * w = y * w + w := Nat.succ_mul y w
        have e0 : ((y : Int) * w + x) = ((y * w + x : Nat) : Int) := by simp
        have e1 : (((y : Int) + 1) * w) = (((y + 1) * w : Nat) : Int) := by simp
        rcases hk' with rfl | rfl | rfl | rfl | rfl | rfl
        · have gd := gd (by decide)
          simp only [gd, Bool.false_eq_true, if_false]
          rw [if_neg (by decide), if_pos trivial]
          show Touches tl _ (blankR w h tl (y * w + x) ((y + 1) * w)).1.2.2
          rw [e0, e1, (blankR_in g1 (by omega) (by omega) (by omega)).1]
          have e3 : (((y + 1) * w : Nat) - ((y * w + x : Nat) : Int)).toNat = w - x := by omega
          simp only [Int.toNat_natCast, e3]
          refine lay y x _ _ hy hx (by intro hnil; have := congrArg List.length hnil; simp at this; omega) (by simp; omega) (by omega) (by simp; omega) fun z => absurd ?_ z
          rw [List.length_replicate, show y * w + x + (w - x) - 1 = y * w + (w - 1) by omega]; exact pos_mod (by omega)
        · have gd := gd (by decide)
          simp only [gd, Bool.false_eq_true, if_false]
          rw [if_neg (by decide), if_neg (by decide), if_pos trivial]
          show Touches tl _ (blankR w h tl (y * w + x) tl.length).1.2.2
          rw [e0, (blankR_in g1 (by omega) (by omega) (by omega)).1]
          have e3 : ((tl.length : Int) - ((y * w + x : Nat) : Int)).toNat = w * h - (y * w + x) := by omega
          simp only [Int.toNat_natCast, e3]
          rw [← hwh]
          refine lay y x _ _ hy hx (by intro hnil; have := congrArg List.length hnil; simp at this; omega) (by simp; omega) (by omega) (by simp; omega) fun z => absurd ?_ z
          rw [List.length_replicate, show y * w + x + (w * h - (y * w + x)) - 1 = w * h - 1 by omega]
          exact last_mod (h := h) (by omega) w4 (by omega)
        · simp [chg] at q0
        · rw [if_pos (by rfl)]
          show Touches tl (0, 0) (downL w h tl y).1
          unfold downL
          have := q2 (by simp [goesDown])
          rw [if_neg (by omega)]; exact touches_same
        · simp [chg] at q0
        · simp [chg] at q0
  · have e : touchB (w, h, l, x, y, bb, s) c = (0, 0) := by
      unfold touchB; rw [if_pos (fun z => q0 z.2.2)]
    have e2 : (doK w h tl X Y tb c).2.2.1 = tl := by
      have q := q0
      simp only [chg, Bool.or_eq_true, decide_eq_true_eq, not_or] at q
      unfold doK goK
      simp only [q.1.1.1, q.1.1.2, q.1.2, q.2, if_false]
      repeat' split
      all_goals rfl
    rw [e, e2]; exact touches_same
/-- what is forgotten -/
noncomputable def forgetB (b : Bel) (f t : Int) (cur : Bool) : Bel :=
  if ¬ (okBl b = true ∧ 0 ≤ f ∧ f ≤ t ∧ t ≤ b.2.2.1.length) then b
  else if cur then (b.1, b.2.1, forB b.2.2.1 f.toNat t.toNat, 0, 0, false, false)
  else (b.1, b.2.1, forB b.2.2.1 f.toNat t.toNat, b.2.2.2.1, b.2.2.2.2.1, b.2.2.2.2.2.1, b.2.2.2.2.2.2)
theorem forget_ok {b : Bel} {f t : Int} {cur : Bool} (h : okBl b = true) : okBl (forgetB b f t cur) = true := by
  unfold forgetB
  by_cases q : okBl b = true ∧ 0 ≤ f ∧ f ≤ t ∧ t ≤ b.2.2.1.length
  · rw [if_neg (fun z => z q)]
    obtain ⟨w, h', l, x, y, bb, s⟩ := b
    obtain ⟨_, q1, q2, q3⟩ := q
    obtain ⟨w, h', rfl, rfl, w2, w3, w4, w5, hl, hk, p1, p2⟩ := okBe_iff.1 h
    simp only at q3
    have f1 : (forB l f.toNat t.toNat).length = w * h' := by rw [forB_len (by omega) (by omega), hl]
    have f2 : GOk w (forB l f.toNat t.toNat) := forB_ok (by omega) (by omega) hk
    cases cur with
    | true => exact okBe_iff.2 ⟨w, h', rfl, rfl, w2, w3, w4, w5, f1, f2, fun z => (by cases z), fun _ => ⟨rfl, rfl, rfl⟩⟩
    | false => exact okBe_iff.2 ⟨w, h', rfl, rfl, w2, w3, w4, w5, f1, f2, p1, p2⟩
  · rw [if_pos q]; exact h
theorem forget_agr {b : Bel} {tm : Tm} {f t : Int} {cur : Bool} (ha : AgrP b tm) : AgrP (forgetB b f t cur) tm := by
  have k := forget_ok (f := f) (t := t) (cur := cur) ha.1
  obtain ⟨h1, h2, h3, h4, h5, h6⟩ := ha
  unfold forgetB at k ⊢
  by_cases q : okBl b = true ∧ 0 ≤ f ∧ f ≤ t ∧ t ≤ b.2.2.1.length
  · rw [if_neg (fun z => z q)] at k ⊢
    have f3 : Agr (forB b.2.2.1 f.toNat t.toNat) tm.2.2.1 := agr_for (by omega) (by omega) h5
    cases cur with
    | true => exact ⟨k, h2, h3, h4, f3, fun z => (by cases z)⟩
    | false => exact ⟨k, h2, h3, h4, f3, h6⟩
  · rw [if_pos q] at k ⊢; exact ⟨h1, h2, h3, h4, h5, h6⟩
/-- the belief of a terminal -/
def ofL (l : List Cell) : List Guess := l.map fun c => (c, true)
noncomputable def ofB (t : Tm) : Bel × Int := if okTm t = true then ((t.1, t.2.1, ofL t.2.2.1, t.2.2.2.1, t.2.2.2.2.1, t.2.2.2.2.2, true), 0) else (noB, 1)
theorem ofL_at {l : List Cell} {i : Nat} (h : i < l.length) : gAt (ofL l) i = (cAt l i, true) := gAt_map h
theorem ofL_len (l : List Cell) : (ofL l).length = l.length := by simp [ofL]
theorem of_ok {t : Tm} (h : okTm t = true) : okBl (ofB t).1 = true := by
  obtain ⟨w, h', l, x, y, b⟩ := t
  rw [ofB, if_pos h]
  obtain ⟨g1, ⟨g2, g3, g4, g5⟩, g6⟩ := okT_iff.1 h
  obtain ⟨w, h', rfl, rfl, w2, w3, w4, w5, hlen, hall⟩ := okG_nat g1
  refine okBe_iff.2 ⟨w, h', rfl, rfl, w2, w3, w4, w5, by rw [ofL_len]; exact hlen, gOk_of fun i hi => ?_, fun _ => ⟨g2, g3, g4, g5, g6⟩, fun z => (by cases z)⟩
  rw [ofL_len] at hi
  have hc := hall i hi
  have hm := Nat.mod_lt i (show 0 < w by omega)
  have hlo := lost_false.1 hc.2
  rw [ofL_at hi]
  refine ⟨fun z => (by simp at z), fun _ => hc.1, fun z => ?_, fun z => ?_⟩
  · obtain ⟨a1, a2⟩ := hlo.1 z
    refine ⟨by omega, fun _ => ?_⟩
    rw [ofL_at (ok_right (h := h') (by omega) w4 hlen hi hc.2 z), a2]
  · obtain ⟨a1, a2⟩ := hlo.2 z
    refine ⟨by omega, fun _ => ?_⟩
    rw [ofL_at (by omega), a2]
theorem new_agr {t : Tm} (h : okTm t = true) : AgrP (newB t.1 t.2.1).1 t ∧ (newB t.1 t.2.1).2 = 0 := by
  obtain ⟨w, h', l, x, y, b⟩ := t
  obtain ⟨g1, _, _⟩ := okT_iff.1 h
  have hg := okG_len g1
  have hs : sidesM w h' = true := by simp only at hg; simp [sidesM]; omega
  have k := newB_ok hs
  simp only at k ⊢
  rw [newB, if_pos hs] at k ⊢
  exact ⟨⟨k, h, rfl, rfl, agr_rep _ _, fun z => (by cases z)⟩, rfl⟩
theorem of_agr {t u : Tm} (h : okTm t = true) : AgrP (ofB t).1 u ↔ t = u := by
  have k := of_ok h
  rw [ofB, if_pos h] at k ⊢
  constructor
  · rintro ⟨_, h2, h3, h4, h5, h6⟩
    simp only at h3 h4 h5 h6
    obtain ⟨e1, e2, e3⟩ := h6 trivial
    have a1 := (okG_len (okT_iff.1 h).1).1
    have a2 := (okG_len (okT_iff.1 h2).1).1
    rw [← h3, ← h4] at a2
    have el : t.2.2.1 = u.2.2.1 := by
      refine cAt_ext (by omega) fun i hi => ?_
      have := h5 i (by rw [ofL_len]; exact hi)
      rw [ofL_at hi] at this
      exact this rfl
    exact Prod.ext h3 (Prod.ext h4 (Prod.ext el (Prod.ext e1 (Prod.ext e2 e3))))
  · rintro rfl
    refine ⟨k, h, rfl, rfl, fun i hi _ => ?_, fun _ => ⟨rfl, rfl, rfl⟩⟩
    rw [show ((t.1, t.2.1, ofL t.2.2.1, t.2.2.2.1, t.2.2.2.2.1, t.2.2.2.2.2, true) : Bel).2.2.1 = ofL t.2.2.1 from rfl] at hi ⊢
    rw [ofL_len] at hi
    rw [ofL_at hi]
end Go.Proofs.YtockidoncngdbaaDoor
