/- Layer 27 (belief), plainly: what cells that are laid, and rows that go up, do to guesses. No condition. -/
import Derived.Test.YtockidoncngdbaaGreatDoorQ2B1
namespace Go.Proofs.YtockidoncngdbaaGreatDoor
set_option linter.unusedSimpArgs false
set_option linter.unusedVariables false
set_option linter.unusedSectionVars false
set_option maxHeartbeats 4000000
open Go Go.RowKit
set_option maxRecDepth 100000
abbrev gBlank : Guess := ((32, 0), true)
abbrev gZero : Guess := ((0, 0), false)
def layB (w : Nat) (l : List Guess) (p : Nat) (cs : List Cell) : List Guess :=
  let l1 := if 0 < p % w ∧ (gAt l (p - 1)).1.2 = 1 then l.set (p - 1) gBlank else l
  let l2 := if 0 < (p + cs.length) % w ∧ (gAt l (p + cs.length)).1.2 = 2 then l1.set (p + cs.length) gBlank else l1
  ovr l2 p (cs.map fun c => (c, true))
theorem layB_len {w : Nat} {l : List Guess} {p : Nat} {cs : List Cell} (h : p + cs.length ≤ l.length) : (layB w l p cs).length = l.length := by
  have e : ∀ (c : Prop) [Decidable c] (m : List Guess) (j : Nat), (if c then m.set j gBlank else m).length = m.length := fun c _ m j => by split <;> simp
  unfold layB
  simp only
  rw [ovr_len (by rw [List.length_map, e, e]; exact h), e, e]
theorem layB_at {w : Nat} {l : List Guess} {p : Nat} {cs : List Cell} (h : p + cs.length ≤ l.length) (h2 : 0 < (p + cs.length) % w → p + cs.length < l.length) (i : Nat) :
    gAt (layB w l p cs) i = if i < p then (if i + 1 = p ∧ 0 < p % w ∧ (gAt l i).1.2 = 1 then gBlank else gAt l i) else if i < p + cs.length then (cAt cs (i - p), true) else if i = p + cs.length ∧ 0 < (p + cs.length) % w ∧ (gAt l i).1.2 = 2 then gBlank else gAt l i := by
  have hp : 0 < p % w → 1 ≤ p := fun k => by
    rcases Nat.eq_zero_or_pos p with h | h
    · subst h; simp at k
    · exact h
  have e1 : ∀ j, gAt (if 0 < p % w ∧ (gAt l (p - 1)).1.2 = 1 then l.set (p - 1) gBlank else l) j = if j + 1 = p ∧ 0 < p % w ∧ (gAt l j).1.2 = 1 then gBlank else gAt l j := fun j => by
    by_cases k : 0 < p % w ∧ (gAt l (p - 1)).1.2 = 1
    · have := hp k.1
      rw [if_pos k, gAt_set _ _ _ _ (by omega)]
      by_cases hj : j = p - 1
      · rw [if_pos hj, if_pos ⟨by omega, k.1, by rw [hj]; exact k.2⟩]
      · rw [if_neg hj, if_neg (by omega)]
    · rw [if_neg k]
      by_cases hj : j + 1 = p ∧ 0 < p % w ∧ (gAt l j).1.2 = 1
      · exact absurd ⟨hj.2.1, by rw [show p - 1 = j by omega]; exact hj.2.2⟩ k
      · rw [if_neg hj]
  have len1 : (if 0 < p % w ∧ (gAt l (p - 1)).1.2 = 1 then l.set (p - 1) gBlank else l).length = l.length := by split <;> simp
  unfold layB
  simp only
  generalize (if 0 < p % w ∧ (gAt l (p - 1)).1.2 = 1 then l.set (p - 1) gBlank else l) = l1 at *
  have e2 : ∀ j, gAt (if 0 < (p + cs.length) % w ∧ (gAt l (p + cs.length)).1.2 = 2 then l1.set (p + cs.length) gBlank else l1) j = if j = p + cs.length ∧ 0 < (p + cs.length) % w ∧ (gAt l j).1.2 = 2 then gBlank else gAt l1 j := fun j => by
    by_cases k : 0 < (p + cs.length) % w ∧ (gAt l (p + cs.length)).1.2 = 2
    · have := h2 k.1
      rw [if_pos k, gAt_set _ _ _ _ (by omega)]
      by_cases hj : j = p + cs.length
      · rw [if_pos hj, if_pos ⟨hj, k.1, by rw [hj]; exact k.2⟩]
      · rw [if_neg hj, if_neg (fun x => hj x.1)]
    · rw [if_neg k, if_neg]
      rintro ⟨a, b, c⟩; exact k ⟨b, by rw [← a]; exact c⟩
  have len2 : (if 0 < (p + cs.length) % w ∧ (gAt l (p + cs.length)).1.2 = 2 then l1.set (p + cs.length) gBlank else l1).length = l.length := by split <;> simp [len1]
  rw [gAt_ovr (by rw [len2, List.length_map]; exact h), e2, e1, List.length_map]
  by_cases q1 : i < p
  · rw [if_pos q1, if_pos q1, if_neg (by omega)]
  · rw [if_neg q1, if_neg q1]
    by_cases q2 : i < p + cs.length
    · rw [if_pos q2, if_pos q2, gAt_map (by omega)]
    · rw [if_neg q2, if_neg q2]
      by_cases q3 : i = p + cs.length ∧ 0 < (p + cs.length) % w ∧ (gAt l i).1.2 = 2
      · rw [if_pos q3, if_pos q3]
      · rw [if_neg q3, if_neg q3, if_neg (by omega)]
/-- right guesses, place by place -/
def GOk (w : Nat) (l : List Guess) : Prop := ∀ i, i < l.length → gsOk w l i = true
theorem gsOk_iff {w : Nat} {l : List Guess} {i : Nat} : gsOk w l i = true ↔ ((gAt l i).2 = false → gAt l i = gZero) ∧ ((gAt l i).2 = true → isCell (gAt l i).1 = true ∧ ((gAt l i).1.2 = 1 → i % w < w - 1 ∧ ((gAt l (i + 1)).2 = true → gAt l (i + 1) = (((gAt l i).1.1, 2), true))) ∧ ((gAt l i).1.2 = 2 → 0 < i % w ∧ ((gAt l (i - 1)).2 = true → gAt l (i - 1) = (((gAt l i).1.1, 1), true)))) := by
  unfold gsOk
  cases h : (gAt l i).2 with
  | false => simp
  | true =>
    simp only [Bool.true_eq_false, if_false, Bool.and_eq_true, forall_const, false_implies, true_and, and_congr_right_iff]
    intro hc
    by_cases h1 : (gAt l i).1.2 = 1
    · rw [if_pos h1]
      cases h3 : (gAt l (i + 1)).2 <;> simp [h1]
    · rw [if_neg h1]
      by_cases h2 : (gAt l i).1.2 = 2
      · rw [if_pos h2]
        cases h3 : (gAt l (i - 1)).2 <;> simp [h2]
      · simp [h1, h2]
/-- what is not sure is nothing -/
theorem GOk.zero {w : Nat} {l : List Guess} (h : GOk w l) {i : Nat} (hi : (gAt l i).2 = false) : gAt l i = gZero := by
  by_cases hl : i < l.length
  · exact (gsOk_iff.1 (h i hl)).1 hi
  · exact g_out (by omega)
theorem GOk.half {w : Nat} {l : List Guess} (h : GOk w l) {i : Nat} (hi : (gAt l i).1.2 ≠ 0) : (gAt l i).2 = true := by
  cases e : (gAt l i).2 with
  | true => rfl
  | false => rw [h.zero e] at hi; exact absurd rfl hi
theorem GOk.left {w : Nat} {l : List Guess} (h : GOk w l) {i : Nat} (hi : (gAt l i).1.2 = 1) : i % w < w - 1 ∧ ((gAt l (i + 1)).2 = true → gAt l (i + 1) = (((gAt l i).1.1, 2), true)) := by
  by_cases hl : i < l.length
  · exact ((gsOk_iff.1 (h i hl)).2 (h.half (by rw [hi]; decide))).2.1 hi
  · rw [g_out (by omega)] at hi; simp at hi
theorem GOk.right {w : Nat} {l : List Guess} (h : GOk w l) {i : Nat} (hi : (gAt l i).1.2 = 2) : 0 < i % w ∧ ((gAt l (i - 1)).2 = true → gAt l (i - 1) = (((gAt l i).1.1, 1), true)) := by
  by_cases hl : i < l.length
  · exact ((gsOk_iff.1 (h i hl)).2 (h.half (by rw [hi]; decide))).2.2 hi
  · rw [g_out (by omega)] at hi; simp at hi
theorem GOk.cell {w : Nat} {l : List Guess} (h : GOk w l) {i : Nat} (hi : (gAt l i).2 = true) : isCell (gAt l i).1 = true := by
  by_cases hl : i < l.length
  · exact ((gsOk_iff.1 (h i hl)).2 hi).1
  · rw [g_out (by omega)] at hi; simp at hi
theorem gOk_of {w : Nat} {l : List Guess} (h : ∀ i, i < l.length → ((gAt l i).2 = false → gAt l i = gZero) ∧ ((gAt l i).2 = true → isCell (gAt l i).1 = true) ∧ ((gAt l i).1.2 = 1 → i % w < w - 1 ∧ ((gAt l (i + 1)).2 = true → gAt l (i + 1) = (((gAt l i).1.1, 2), true))) ∧ ((gAt l i).1.2 = 2 → 0 < i % w ∧ ((gAt l (i - 1)).2 = true → gAt l (i - 1) = (((gAt l i).1.1, 1), true)))) : GOk w l := fun i hi =>
  gsOk_iff.2 ⟨(h i hi).1, fun k => ⟨(h i hi).2.1 k, (h i hi).2.2.1, (h i hi).2.2.2⟩⟩
theorem mod_next {w i : Nat} (hw : 1 ≤ w) (h : (i + 1) % w = 0) : i % w = w - 1 := by
  have h1 := Nat.mod_lt i (show 0 < w by omega)
  have h2 := Nat.add_mod i 1 w
  rw [h] at h2
  by_cases e : i % w + 1 < w
  · have h3 : (i % w + 1 % w) % w = i % w + 1 := by
      rcases Nat.lt_or_ge 1 w with k | k
      · rw [Nat.mod_eq_of_lt k, Nat.mod_eq_of_lt e]
      · exfalso; omega
    omega
  · omega
/-- laying cells keeps guesses right -/
theorem layB_ok {w h : Nat} {l : List Guess} {p : Nat} {cs : List Cell} (hw : 2 ≤ w) (hl : l.length = w * h) (hk : GOk w l) (hp : p + cs.length ≤ l.length) (hc : ∀ j, j < cs.length → isCell (cAt cs j) = true) (hW : WholeIn w p cs) : GOk w (layB w l p cs) := by
  have h2 : 0 < (p + cs.length) % w → p + cs.length < l.length := fun k => by
    rcases Nat.lt_or_ge (p + cs.length) l.length with e | e
    · exact e
    · rw [show p + cs.length = w * h by omega, Nat.mul_mod_right] at k; omega
  have at_ := layB_at (w := w) hp h2
  generalize hL : layB w l p cs = L at *
  have hLl : L.length = l.length := by rw [← hL]; exact layB_len hp
  have blk : ∀ i, gAt L i = gBlank → ((gAt L i).2 = false → gAt L i = gZero) ∧ ((gAt L i).2 = true → isCell (gAt L i).1 = true) ∧ ((gAt L i).1.2 = 1 → i % w < w - 1 ∧ ((gAt L (i + 1)).2 = true → gAt L (i + 1) = (((gAt L i).1.1, 2), true))) ∧ ((gAt L i).1.2 = 2 → 0 < i % w ∧ ((gAt L (i - 1)).2 = true → gAt L (i - 1) = (((gAt L i).1.1, 1), true))) := fun i e => by
    rw [e]; exact ⟨fun h => (by simp at h), fun _ => isCell_blank, fun h => (by simp at h), fun h => (by simp at h)⟩
  refine gOk_of fun i hi => ?_
  rw [hLl] at hi
  by_cases q1 : i < p
  · by_cases q : i + 1 = p ∧ 0 < p % w ∧ (gAt l i).1.2 = 1
    · exact blk i (by rw [at_, if_pos q1, if_pos q])
    · have e : gAt L i = gAt l i := by rw [at_, if_pos q1, if_neg q]
      rw [e]
      refine ⟨fun h => hk.zero h, fun h => hk.cell h, fun h => ?_, fun h => ?_⟩
      · obtain ⟨a1, a2⟩ := hk.left h
        refine ⟨a1, ?_⟩
        rw [at_]
        have hne : i + 1 ≠ p := fun hne => by
          refine q ⟨hne, ?_, h⟩
          rcases Nat.eq_zero_or_pos (p % w) with z | z
          · have := mod_next (w := w) (i := i) (by omega) (by rw [hne]; exact z); omega
          · exact z
        rw [if_pos (show i + 1 < p by omega), if_neg]
        · exact a2
        · rintro ⟨_, _, b3⟩
          have := a2 (hk.half (by rw [b3]; decide)); rw [this] at b3; simp at b3
      · obtain ⟨a1, a2⟩ := hk.right h
        refine ⟨a1, ?_⟩
        have h1i : 1 ≤ i := by
          rcases Nat.eq_zero_or_pos i with z | z
          · subst z; simp at a1
          · exact z
        rw [at_, if_pos (show i - 1 < p by omega), if_neg (fun k => by have := k.1; omega)]
        exact a2
  · by_cases q2 : i < p + cs.length
    · have e : gAt L i = (cAt cs (i - p), true) := by rw [at_, if_neg q1, if_pos q2]
      have hW' := hW (i - p) (by omega)
      rw [e]
      refine ⟨fun h => (by simp at h), fun _ => hc _ (by omega), fun h => ?_, fun h => ?_⟩
      · obtain ⟨b1, b2, b3⟩ := hW'.1 h
        rw [show p + (i - p) = i by omega] at b3
        have := Nat.mod_lt i (show 0 < w by omega)
        refine ⟨by omega, fun _ => ?_⟩
        rw [at_, if_neg (by omega), if_pos (by omega), show i + 1 - p = i - p + 1 by omega, b2]
      · obtain ⟨b1, b2, b3⟩ := hW'.2 h
        rw [show p + (i - p) = i by omega] at b3
        refine ⟨by omega, fun _ => ?_⟩
        rw [at_, if_neg (by omega), if_pos (by omega), show i - 1 - p = i - p - 1 by omega, b2]
    · by_cases q : i = p + cs.length ∧ 0 < (p + cs.length) % w ∧ (gAt l i).1.2 = 2
      · exact blk i (by rw [at_, if_neg q1, if_neg q2, if_pos q])
      · have e : gAt L i = gAt l i := by rw [at_, if_neg q1, if_neg q2, if_neg q]
        rw [e]
        refine ⟨fun h => hk.zero h, fun h => hk.cell h, fun h => ?_, fun h => ?_⟩
        · obtain ⟨a1, a2⟩ := hk.left h
          refine ⟨a1, ?_⟩
          rw [at_, if_neg (by omega), if_neg (by omega), if_neg (by omega)]
          exact a2
        · obtain ⟨a1, a2⟩ := hk.right h
          refine ⟨a1, ?_⟩
          have hne : i ≠ p + cs.length := fun hne => q ⟨hne, by rw [← hne]; exact a1, h⟩
          rw [at_, if_neg (by omega), if_neg (by omega), if_neg]
          · exact a2
          · rintro ⟨_, _, b3⟩
            have := a2 (hk.half (by rw [b3]; decide)); rw [this] at b3; simp at b3
/-- the row above goes, and blanks come below -/
def upB (w : Nat) (l : List Guess) : List Guess := l.drop w ++ List.replicate w gBlank
theorem upB_len {w : Nat} {l : List Guess} (h : w ≤ l.length) : (upB w l).length = l.length := by simp [upB]; omega
theorem upB_at {w : Nat} {l : List Guess} (h : w ≤ l.length) {i : Nat} (hi : i < l.length) : gAt (upB w l) i = if i + w < l.length then gAt l (i + w) else gBlank := by
  unfold upB
  rw [gAt_app, List.length_drop]
  by_cases e : i + w < l.length
  · rw [if_pos (by omega), if_pos e, gAt_drop, Nat.add_comm]
  · rw [if_neg (by omega), if_neg e, gAt_rep (by omega)]
theorem upB_ok {w h : Nat} {l : List Guess} (hw : 2 ≤ w) (hh : 1 ≤ h) (hl : l.length = w * h) (hk : GOk w l) : GOk w (upB w l) := by
  have hwl : w ≤ l.length := by rw [hl]; exact Nat.le_mul_of_pos_right w hh
  obtain ⟨k, rfl⟩ : ∃ k, h = k + 1 := ⟨h - 1, by omega⟩
  rw [Nat.mul_add, Nat.mul_one] at hl
  refine gOk_of fun i hi => ?_
  rw [upB_len hwl] at hi
  rw [upB_at hwl hi]
  by_cases e : i + w < l.length
  · rw [if_pos e]
    refine ⟨fun h => hk.zero h, fun h => hk.cell h, fun h => ?_, fun h => ?_⟩
    · obtain ⟨a1, a2⟩ := hk.left h
      rw [Nat.add_mod_right] at a1
      have : i + 1 + w < l.length := by
        rcases Nat.lt_or_ge (i + 1 + w) l.length with z | z
        · exact z
        · have := mod_next (w := w) (i := i) (by omega) (by rw [show i + 1 = w * k by omega, Nat.mul_mod_right]); omega
      refine ⟨a1, ?_⟩
      rw [upB_at hwl (by omega), if_pos this, show i + 1 + w = i + w + 1 by omega]; exact a2
    · obtain ⟨a1, a2⟩ := hk.right h
      rw [Nat.add_mod_right] at a1
      have h1 : 1 ≤ i := by
        rcases Nat.eq_zero_or_pos i with z | z
        · subst z; simp at a1
        · exact z
      refine ⟨a1, ?_⟩
      rw [upB_at hwl (by omega), if_pos (by omega), show i - 1 + w = i + w - 1 by omega]; exact a2
  · rw [if_neg e]
    exact ⟨fun h => (by simp at h), fun _ => isCell_blank, fun h => (by simp at h), fun h => (by simp at h)⟩
/-- guesses that are forgotten -/
def forB (l : List Guess) (a b : Nat) : List Guess := ovr l a (List.replicate (b - a) gZero)
theorem rep_ok (w n : Nat) : GOk w (List.replicate n gZero) := by
  have at_ : ∀ i, gAt (List.replicate n gZero) i = gZero := fun i => by
    by_cases h : i < n
    · exact gAt_rep h
    · exact g_out (by simp; omega)
  refine gOk_of fun i hi => ?_
  rw [at_]; exact ⟨fun _ => rfl, fun h => (by simp at h), fun h => (by simp at h), fun h => (by simp at h)⟩
/-- what is sure is so -/
def Agr (l : List Guess) (t : List Cell) : Prop := ∀ i, i < l.length → (gAt l i).2 = true → (gAt l i).1 = cAt t i
end Go.Proofs.YtockidoncngdbaaGreatDoor
