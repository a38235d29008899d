/- Layer 3 (grid), plain laws: what comes of a right grid is right. No condition. -/
import Derived.Test.YthlikicgikoilaaDoorGE
namespace Go.Proofs.YthlikicgikoilaaDoor
set_option linter.unusedSimpArgs false
set_option linter.unusedVariables false
set_option maxHeartbeats 4000000
open Go Go.RowKit
set_option maxRecDepth 100000
theorem div_row {W y x : Nat} (h : x < W) : (W * y + x) / W = y := by
  rw [Nat.mul_add_div (by omega), Nat.div_eq_of_lt h, Nat.add_zero]
theorem mod_succ {i w : Nat} (hw : 1 ≤ w) (h : i % w ≠ w - 1) : (i + 1) % w = i % w + 1 := by
  have h1 := Nat.mod_lt i (show 0 < w by omega)
  have e : i + 1 = (i % w + 1) + w * (i / w) := by have := Nat.mod_add_div i w; omega
  calc (i + 1) % w = ((i % w + 1) + w * (i / w)) % w := congrArg (· % w) e
    _ = i % w + 1 := by rw [Nat.add_mul_mod_self_left, Nat.mod_eq_of_lt (by omega)]
theorem mod_pred {i w : Nat} (hw : 1 ≤ w) (h : i % w ≠ 0) : (i - 1) % w = i % w - 1 := by
  have h1 := Nat.mod_lt i (show 0 < w by omega)
  have e : i - 1 = (i % w - 1) + w * (i / w) := by have := Nat.mod_add_div i w; omega
  calc (i - 1) % w = ((i % w - 1) + w * (i / w)) % w := congrArg (· % w) e
    _ = i % w - 1 := by rw [Nat.add_mul_mod_self_left, Nat.mod_eq_of_lt (by omega)]
theorem next_in {w h i : Nat} {l : List Cell} (hw : 1 ≤ w) (h1 : 1 ≤ h) (hl : l.length = w * h) (hi : i < l.length) (hm : i % w ≠ w - 1) : i + 1 < l.length := by
  rcases Nat.lt_or_ge (i + 1) l.length with k | k
  · exact k
  · exact absurd (last_mod hw h1 (by omega)) hm
theorem prev_in {w i : Nat} (hm : i % w ≠ 0) : 1 ≤ i := by
  rcases Nat.eq_zero_or_pos i with h | h
  · subst h; simp at hm
  · exact h
/-- what is mended is right -/
theorem mend_ok (w h : Nat) (l : List Cell) (hw : 2 ≤ w) (h1 : 1 ≤ h) (hl : l.length = w * h) (hc : ∀ i, i < l.length → isCell (cAt l i) = true) : ∀ i, i < (mendM w l).length → isCell (cAt (mendM w l) i) = true ∧ lostM w (mendM w l) i = false := by
  intro i hi
  rw [mendM_len] at hi
  refine ⟨?_, lost_false.2 ⟨fun k => ?_, fun k => ?_⟩⟩
  · rw [mendM_at hi]; split
    · exact isCell_blank
    · exact hc i hi
  · rw [mendM_at hi] at k ⊢
    by_cases q : lostM w l i = true
    · rw [if_pos q] at k; simp at k
    · rw [if_neg q] at k ⊢
      obtain ⟨k1, k2⟩ := (lost_false.1 (by simpa using q)).1 k
      refine ⟨k1, ?_⟩
      have hn := next_in (by omega) h1 hl hi k1
      rw [mendM_at hn, if_neg, k2]
      rw [Bool.not_eq_true]
      refine lost_false.2 ⟨fun e => ?_, fun _ => ⟨?_, ?_⟩⟩
      · rw [k2] at e; simp at e
      · rw [mod_succ (by omega) k1]; omega
      · rw [Nat.add_sub_cancel, k2]; exact Prod.ext rfl k
  · rw [mendM_at hi] at k ⊢
    by_cases q : lostM w l i = true
    · rw [if_pos q] at k; simp at k
    · rw [if_neg q] at k ⊢
      obtain ⟨k1, k2⟩ := (lost_false.1 (by simpa using q)).2 k
      refine ⟨k1, ?_⟩
      have hp := prev_in k1
      have hml := Nat.mod_lt i (show 0 < w by omega)
      rw [mendM_at (by omega), if_neg, k2]
      rw [Bool.not_eq_true]
      refine lost_false.2 ⟨fun _ => ⟨?_, ?_⟩, fun e => ?_⟩
      · rw [mod_pred (by omega) k1]; omega
      · rw [show i - 1 + 1 = i by omega, k2]; exact Prod.ext rfl k
      · rw [k2] at e; simp at e
theorem okG_mk {w h : Nat} {l : List Cell} (h1 : 2 ≤ w) (h2 : w ≤ 80) (h3 : 1 ≤ h) (h4 : h ≤ 24) (hl : l.length = w * h) (hc : ∀ i, i < l.length → isCell (cAt l i) = true ∧ lostM w l i = false) : okG w h l = true :=
  decide_eq_true ⟨by omega, by rw [hl]; simp, by simpa using hc⟩
theorem layG_ok (w h : Nat) (l : List Cell) (a : Nat) (cs : List Cell) (hok : okG w h l = true) (hac : a + cs.length ≤ l.length) (hcs : WholeIn w a cs) (hcl : ∀ j, j < cs.length → isCell (cAt cs j) = true) : okG w h (layG l a cs) = true := by
  obtain ⟨w', h', e1, e2, h1, h2, h3, h4, hlen, hall⟩ := okG_nat hok
  obtain rfl : w = w' := by omega
  obtain rfl : h = h' := by omega
  have hl2 := ovr_len hac
  rw [← mend_lay w h l a cs h1 h3 hlen hall hac hcs]
  refine okG_mk h1 h2 h3 h4 (by rw [mendM_len, hl2, hlen]) (mend_ok w h _ h1 h3 (by rw [hl2, hlen]) fun i hi => ?_)
  rw [hl2] at hi
  rw [cAt_ovr hac]
  split
  · exact (hall i hi).1
  · split
    · exact hcl _ (by omega)
    · exact (hall i hi).1
theorem isCell_cells {r : Int} (hs : shown r = true) : ∀ j, j < (cellsM r).length → isCell (cAt (cellsM r) j) = true := by
  rw [cellsM_shown hs]
  cases hw : isW r with
  | true =>
    simp only [if_true, List.length_cons, List.length_nil]
    intro j hj
    have : j = 0 ∨ j = 1 := by omega
    rcases this with rfl | rfl <;> simp [cAt, isCell, hs, hw]
  | false =>
    simp only [Bool.false_eq_true, if_false, List.length_cons, List.length_nil]
    intro j hj
    obtain rfl : j = 0 := by omega
    simp [cAt, isCell, hs, hw]
/-! ### a grid of other sides -/
/-- what is cut, ahead of the place x in the row y -/
def cutC (w : Nat) (l : List Cell) (W m y x i : Nat) : Cell := if i / W < y ∧ i % W < m ∨ i / W = y ∧ i % W < x then cAt l (i / W * w + i % W) else (32, 0)
def cutK (w : Nat) (l : List Cell) (W H m y x : Nat) : List Cell := (List.range (W * H)).map fun i => cutC w l W m y x i
theorem cutK_len (w : Nat) (l : List Cell) (W H m y x : Nat) : (cutK w l W H m y x).length = W * H := by simp [cutK]
theorem cutK_at {w : Nat} {l : List Cell} {W H m y x i : Nat} (h : i < W * H) : cAt (cutK w l W H m y x) i = cutC w l W m y x i := by
  unfold cutK; rw [cAt, List.getElem?_map]; simp [h]
theorem cutK_zero (w : Nat) (l : List Cell) (W H m : Nat) : cutK w l W H m 0 0 = List.replicate (W * H) (32, 0) := by
  apply cAt_ext
  · simp [cutK]
  · intro i hi
    rw [cutK_len] at hi
    rw [cutK_at hi, cAt_rep hi, cutC, if_neg (fun h => by rcases h with ⟨h, _⟩ | ⟨_, h⟩ <;> exact absurd h (Nat.not_lt_zero _))]
theorem cutK_row (w : Nat) (l : List Cell) (W H m y : Nat) : cutK w l W H m y m = cutK w l W H m (y + 1) 0 := by
  apply cAt_ext
  · simp [cutK]
  · intro i hi
    rw [cutK_len] at hi
    rw [cutK_at hi, cutK_at hi, cutC, cutC]
    have : (i / W < y ∧ i % W < m ∨ i / W = y ∧ i % W < m) ↔ (i / W < y + 1 ∧ i % W < m ∨ i / W = y + 1 ∧ i % W < 0) := by omega
    simp only [this]
theorem cutK_next (w : Nat) (l : List Cell) (W H m y x : Nat) (hm : m ≤ W) (hx : x < m) (hy : y < H) : (cutK w l W H m y x).set (y * W + x) (cAt l (y * w + x)) = cutK w l W H m y (x + 1) := by
  have hp := cell_pos (w := W) (h := H) (show x < W by omega) hy
  apply cAt_ext
  · simp [cutK]
  · intro i hi
    have hi2 : i < W * H := by simpa [cutK] using hi
    rw [cAt_set _ _ _ _ (by rw [cutK_len]; exact hp), cutK_at hi2, cutK_at hi2, cutC, cutC]
    have hd : (y * W + x) / W = y := by
      rw [Nat.mul_comm, Nat.mul_add_div (by omega), Nat.div_eq_of_lt (by omega), Nat.add_zero]
    have hmod := pos_mod (w := W) (y := y) (x := x) (by omega)
    by_cases q : i = y * W + x
    · subst q
      rw [if_pos rfl, hd, hmod, if_pos (by omega)]
    · rw [if_neg q]
      have hne : ¬ (i / W = y ∧ i % W = x) := fun ⟨a, b⟩ => q (by
        have := Nat.div_add_mod i W
        rw [a, b, Nat.mul_comm] at this; omega)
      have : (i / W < y ∧ i % W < m ∨ i / W = y ∧ i % W < x) ↔ (i / W < y ∧ i % W < m ∨ i / W = y ∧ i % W < x + 1) := by omega
      simp only [this]
theorem fit_mend (w h : Nat) (l : List Cell) (W H : Nat) (hok : okG w h l = true) (hW : 2 ≤ W) (hH : 1 ≤ H) : mendM W (cutK w l W H (min W w) (min H h) 0) = fitK w h l W H (min H h) := by
  obtain ⟨w', h', e1, e2, h1, h2, h3, h4, hlen, hall⟩ := okG_nat hok
  obtain rfl : w = w' := by omega
  obtain rfl : h = h' := by omega
  have hcl := cutK_len w l W H (min W w) (min H h) 0
  apply cAt_ext (by rw [mendM_len, hcl, fitK_len])
  intro i hi
  rw [mendM_len, hcl] at hi
  rw [mendM_at (by rw [hcl]; exact hi), fitK_at hi]
  have hdm := Nat.div_add_mod i W
  have hml := Nat.mod_lt i (show 0 < W by omega)
  have hdl : i / W < H := by rw [Nat.div_lt_iff_lt_mul (by omega), Nat.mul_comm]; exact hi
  have hat : ∀ j, j < W * H → cAt (cutK w l W H (min W w) (min H h) 0) j = if j / W < min H h ∧ j % W < min W w then cAt l (j / W * w + j % W) else (32, 0) := fun j hj => by
    rw [cutK_at hj, cutC]
    have : (j / W < min H h ∧ j % W < min W w ∨ j / W = min H h ∧ j % W < 0) ↔ (j / W < min H h ∧ j % W < min W w) := by omega
    simp only [this]
  by_cases q : i / W < min H h ∧ i % W < min W w
  · obtain ⟨q1, q2⟩ := q
    rw [if_pos q1, fitC, if_pos (show i / W < h ∧ i % W < min W w by omega)]
    have hp := cell_pos (w := w) (h := h) (x := i % W) (y := i / W) (by omega) (by omega)
    have hmod := pos_mod (w := w) (y := i / W) (x := i % W) (by omega)
    obtain ⟨_, ho⟩ := hall (i / W * w + i % W) (by omega)
    obtain ⟨o1, o2⟩ := lost_false.1 ho
    rw [hmod] at o1 o2
    have hv := hat i hi
    rw [if_pos ⟨q1, q2⟩] at hv
    by_cases k1 : (cAt l (i / W * w + i % W)).2 = 1
    · obtain ⟨p1, p2⟩ := o1 k1
      by_cases k2 : i % W + 1 = min W w
      · rw [if_pos (show i % W + 1 = min W w ∧ (cAt l (i / W * w + i % W)).2 = 1 from ⟨k2, k1⟩), if_pos]
        rw [← Bool.not_eq_false]
        intro hf
        have := (lost_false.1 hf).1 (by rw [hv]; exact k1)
        omega
      · rw [if_neg (show ¬ (i % W + 1 = min W w ∧ (cAt l (i / W * w + i % W)).2 = 1) from fun x => k2 x.1), hv, if_neg]
        rw [Bool.not_eq_true]
        refine lost_false.2 ⟨fun _ => ⟨by omega, ?_⟩, fun e => by rw [hv, k1] at e; simp at e⟩
        have hd2 : (i + 1) / W = i / W := by
          have e : i + 1 = W * (i / W) + (i % W + 1) := by omega
          calc (i + 1) / W = (W * (i / W) + (i % W + 1)) / W := congrArg (· / W) e
            _ = i / W := div_row (by omega)
        have hm2 := mod_succ (i := i) (w := W) (by omega) (by omega)
        have hn : i + 1 < W * H := by
          have := cell_pos (w := W) (h := H) (x := i % W + 1) (y := i / W) (by omega) hdl
          rw [Nat.mul_comm] at this; omega
        rw [hat _ hn, hd2, hm2, if_pos (by omega), hv, ← Nat.add_assoc, p2]
    · rw [if_neg (show ¬ (i % W + 1 = min W w ∧ (cAt l (i / W * w + i % W)).2 = 1) from fun x => k1 x.2), hv, if_neg]
      rw [Bool.not_eq_true]
      refine lost_false.2 ⟨fun e => by rw [hv] at e; exact absurd e k1, fun e => ?_⟩
      rw [hv] at e
      obtain ⟨p1, p2⟩ := o2 e
      refine ⟨p1, ?_⟩
      have hd2 : (i - 1) / W = i / W := by
        have e : i - 1 = W * (i / W) + (i % W - 1) := by omega
        calc (i - 1) / W = (W * (i / W) + (i % W - 1)) / W := congrArg (· / W) e
          _ = i / W := div_row (by omega)
      have hm2 := mod_pred (i := i) (w := W) (by omega) p1
      rw [hat _ (by omega), hd2, hm2, if_pos (by omega), hv, show i / W * w + (i % W - 1) = i / W * w + i % W - 1 by omega, p2]
  · have hv := hat i hi
    rw [if_neg q] at hv
    have hlost : lostM W (cutK w l W H (min W w) (min H h) 0) i = false := lost_false.2 ⟨fun e => by rw [hv] at e; simp at e, fun e => by rw [hv] at e; simp at e⟩
    rw [hlost, if_neg (by decide), hv]
    split
    · rw [fitC, if_neg (by omega)]
    · rfl
theorem fitK_ok (w h : Nat) (l : List Cell) (W H : Nat) (hok : okG w h l = true) (h1 : 2 ≤ W) (h2 : W ≤ 80) (h3 : 1 ≤ H) (h4 : H ≤ 24) : okG W H (fitK w h l W H (min H h)) = true := by
  rw [← fit_mend w h l W H hok h1 h3]
  obtain ⟨w', h', e1, e2, g1, g2, g3, g4, hlen, hall⟩ := okG_nat hok
  obtain rfl : w = w' := by omega
  obtain rfl : h = h' := by omega
  refine okG_mk h1 h2 h3 h4 (by rw [mendM_len, cutK_len]) (mend_ok W H _ h1 h3 (cutK_len _ _ _ _ _ _ _) fun i hi => ?_)
  rw [cutK_len] at hi
  rw [cutK_at hi, cutC]
  split
  · rename_i q
    have hp := cell_pos (w := w) (h := h) (x := i % W) (y := i / W) (by omega) (by omega)
    exact (hall _ (by omega)).1
  · exact isCell_blank
theorem newR_ok {w h : Nat} (h1 : 2 ≤ w) (h2 : w ≤ 80) (h3 : 1 ≤ h) (h4 : h ≤ 24) : okG w h (List.replicate (w * h) (32, 0)) = true := by
  refine okG_mk h1 h2 h3 h4 (by simp) fun i hi => ?_
  rw [List.length_replicate] at hi
  refine ⟨by rw [cAt_rep hi]; exact isCell_blank, lost_false.2 ⟨fun e => by rw [cAt_rep hi] at e; simp at e, fun e => by rw [cAt_rep hi] at e; simp at e⟩⟩
theorem scroll_ok {w h : Nat} {l : List Cell} (hok : okG w h l = true) : okG w h (l.drop w ++ List.replicate w (32, 0)) = true := by
  obtain ⟨w', h', e1, e2, h1, h2, h3, h4, hlen, hall⟩ := okG_nat hok
  obtain rfl : w = w' := by omega
  obtain rfl : h = h' := by omega
  have hwl : w ≤ l.length := by rw [hlen]; exact Nat.le_mul_of_pos_right w h3
  have hat : ∀ i, i < l.length → cAt (l.drop w ++ List.replicate w (32, 0)) i = if i + w < l.length then cAt l (i + w) else (32, 0) := fun i hi => by
    rw [cAt_app, List.length_drop]
    by_cases q : i + w < l.length
    · rw [if_pos q, if_pos (by omega), cAt_drop, Nat.add_comm]
    · rw [if_neg q, if_neg (by omega), cAt_rep (by omega)]
  refine okG_mk h1 h2 h3 h4 (by simp; omega) fun i hi => ?_
  have hi2 : i < l.length := by simp at hi; omega
  by_cases q : i + w < l.length
  · obtain ⟨a, b⟩ := hall _ q
    obtain ⟨b1, b2⟩ := lost_false.1 b
    rw [Nat.add_mod_right] at b1 b2
    have hv := hat i hi2
    rw [if_pos q] at hv
    refine ⟨by rw [hv]; exact a, lost_false.2 ⟨fun e => ?_, fun e => ?_⟩⟩
    · rw [hv] at e ⊢
      obtain ⟨c1, c2⟩ := b1 e
      have hn := next_in (i := i + w) (by omega) h3 hlen q (by rw [Nat.add_mod_right]; exact c1)
      exact ⟨c1, by rw [hat _ (by omega), if_pos (by omega), ← c2]; congr 1; omega⟩
    · rw [hv] at e ⊢
      obtain ⟨c1, c2⟩ := b2 e
      have hp := prev_in c1
      exact ⟨c1, by rw [hat _ (by omega), if_pos (by omega), ← c2]; congr 1; omega⟩
  · have hv := hat i hi2
    rw [if_neg q] at hv
    refine ⟨by rw [hv]; exact isCell_blank, lost_false.2 ⟨fun e => by rw [hv] at e; simp at e, fun e => by rw [hv] at e; simp at e⟩⟩
end Go.Proofs.YthlikicgikoilaaDoor
