/- Layer 27 (belief), plainly: what the reference lays is what the program lays. No condition. -/
import Derived.Test.YtgfmjmfphmjdkaaGreatDoorQ3B1
namespace Go.Proofs.YtgfmjmfphmjdkaaGreatDoor
set_option linter.unusedSimpArgs false
set_option linter.unusedVariables false
set_option linter.unusedSectionVars false
set_option maxHeartbeats 4000000
open Go Go.RowKit
set_option maxRecDepth 100000
def layR (w : Nat) (l : List Guess) (p : Nat) (cs : List Cell) : List Guess :=
  let l0 := ovr l p (cs.map fun c => (c, true))
  let l1 := if 0 < p % w ∧ (gAt l (p - 1)).2 = true ∧ (gAt l (p - 1)).1.2 = 1 then l0.set (p - 1) gBlank else l0
  if 0 < (p + cs.length) % w ∧ (gAt l (p + cs.length)).2 = true ∧ (gAt l (p + cs.length)).1.2 = 2 then l1.set (p + cs.length) gBlank else l1
theorem layR_eq {w : Nat} {l : List Guess} {p : Nat} {cs : List Cell} (hk : GOk w l) (hp : p + cs.length ≤ l.length) (h2 : 0 < (p + cs.length) % w → p + cs.length < l.length) : layR w l p cs = layB w l p cs := by
  have hlen : (ovr l p (cs.map fun c => (c, true))).length = l.length := ovr_len (by rw [List.length_map]; exact hp)
  have e : ∀ (c : Prop) [Decidable c] (m : List Guess) (j : Nat), (if c then m.set j gBlank else m).length = m.length := fun c _ m j => by split <;> simp
  have hs : ∀ j k, k ≠ 0 → (((gAt l j).2 = true ∧ (gAt l j).1.2 = k) ↔ (gAt l j).1.2 = k) := fun j k hk0 => ⟨fun h => h.2, fun h => ⟨hk.half (by rw [h]; exact hk0), h⟩⟩
  have hp1 : 0 < p % w → 1 ≤ p := fun k => by
    rcases Nat.eq_zero_or_pos p with h | h
    · subst h; simp at k
    · exact h
  unfold layR
  simp only [hs _ 1 (by decide), hs _ 2 (by decide)]
  refine gAt_ext (by rw [e, e, hlen, layB_len hp]) fun i hi => ?_
  rw [e, e, hlen] at hi
  rw [layB_at hp h2]
  have ov : ∀ j, gAt (ovr l p (cs.map fun c => (c, true))) j = if j < p then gAt l j else if j < p + cs.length then (cAt cs (j - p), true) else gAt l j := fun j => by
    rw [gAt_ovr (by rw [List.length_map]; exact hp), List.length_map]
    split
    · rfl
    · split
      · rw [gAt_map (by omega)]
      · rfl
  generalize ovr l p (cs.map fun c => (c, true)) = l0 at *
  have e1 : ∀ j, gAt (if 0 < p % w ∧ (gAt l (p - 1)).1.2 = 1 then l0.set (p - 1) gBlank else l0) j = if j + 1 = p ∧ 0 < p % w ∧ (gAt l j).1.2 = 1 then gBlank else gAt l0 j := fun j => by
    by_cases k : 0 < p % w ∧ (gAt l (p - 1)).1.2 = 1
    · have := hp1 k.1
      rw [if_pos k, gAt_set _ _ _ _ (by omega)]
      by_cases hj : j = p - 1
      · rw [if_pos hj, if_pos ⟨by omega, k.1, by rw [hj]; exact k.2⟩]
      · rw [if_neg hj, if_neg (by omega)]
    · rw [if_neg k]
      by_cases hj : j + 1 = p ∧ 0 < p % w ∧ (gAt l j).1.2 = 1
      · exact absurd ⟨hj.2.1, by rw [show p - 1 = j by omega]; exact hj.2.2⟩ k
      · rw [if_neg hj]
  have len1 : (if 0 < p % w ∧ (gAt l (p - 1)).1.2 = 1 then l0.set (p - 1) gBlank else l0).length = l.length := by rw [e, hlen]
  generalize (if 0 < p % w ∧ (gAt l (p - 1)).1.2 = 1 then l0.set (p - 1) gBlank else l0) = l1 at *
  have e2 : ∀ j, gAt (if 0 < (p + cs.length) % w ∧ (gAt l (p + cs.length)).1.2 = 2 then l1.set (p + cs.length) gBlank else l1) j = if j = p + cs.length ∧ 0 < (p + cs.length) % w ∧ (gAt l j).1.2 = 2 then gBlank else gAt l1 j := fun j => by
    by_cases k : 0 < (p + cs.length) % w ∧ (gAt l (p + cs.length)).1.2 = 2
    · have := h2 k.1
      rw [if_pos k, gAt_set _ _ _ _ (by omega)]
      by_cases hj : j = p + cs.length
      · rw [if_pos hj, if_pos ⟨hj, k.1, by rw [hj]; exact k.2⟩]
      · rw [if_neg hj, if_neg (fun x => hj x.1)]
    · rw [if_neg k, if_neg]
      rintro ⟨a, b, c⟩; exact k ⟨b, by rw [← a]; exact c⟩
  rw [e2, e1, ov]
  by_cases q1 : i < p
  · rw [if_neg (fun z => by omega), if_pos q1, if_pos q1]
  · rw [if_neg q1, if_neg q1]
    by_cases q2 : i < p + cs.length
    · rw [if_neg (fun z => by omega), if_neg (fun z => by omega), if_pos q2, if_pos q2]
    · rw [if_neg q2, if_neg q2]
      by_cases q3 : i = p + cs.length ∧ 0 < (p + cs.length) % w ∧ (gAt l i).1.2 = 2
      · rw [if_pos q3, if_pos q3]
      · rw [if_neg q3, if_neg q3, if_neg (fun z => by omega)]
/-- where a sure cursor goes -/
theorem doB_sure {w h x y : Int} {l : List Guess} {b : Bool} {c : Cmd} (h1 : okBe w h l x y b true = true) (hc : isCmd c = true) (h12 : c.1 ≠ 12) : doB (w, h, l, x, y, b, true) c = (doBK w h l x y b c, 0) := by
  unfold doB
  rw [if_pos ⟨h1, hc⟩, if_neg (fun h => by cases h.1), if_neg (fun h => by rcases h with h | h; cases h.1; exact h12 h)]
theorem doB_go {w h x y : Int} {l : List Guess} {b s : Bool} {c : Cmd} (h1 : okBe w h l x y b s = true) (hc : isCmd c = true) (h2 : c.1 = 2) : doB (w, h, l, x, y, b, s) c = (doBK w h l x y b c, 0) := by
  unfold doB
  rw [if_pos ⟨h1, hc⟩, if_neg (fun h => by have := h.2; rw [h2] at this; revert this; decide), if_neg (fun h => by rcases h with h | h; exact h.2 h2; omega)]
theorem doB_un {w h x y : Int} {l : List Guess} {b : Bool} {c : Cmd} (h1 : okBe w h l x y b false = true) (hc : isCmd c = true) (h2 : c.1 ≠ 2) : (doB (w, h, l, x, y, b, false) c).1.2.2.2.2.2.2 = false := by
  have hs : sidesM w h = true := by
    obtain ⟨w, h, rfl, rfl, w2, w3, w4, w5, _⟩ := okBe_iff.1 h1
    simp [sidesM]; omega
  unfold doB
  rw [if_pos ⟨h1, hc⟩]
  by_cases e : chg c.1 = true
  · rw [if_pos ⟨rfl, e⟩, newB, if_pos hs]
  · rw [if_neg (fun h => e h.2), if_pos (.inl ⟨rfl, h2⟩)]
theorem up_ok {k a : Int} (hk : k = 3 ∨ k = 4 ∨ k = 5 ∨ k = 6) (ha : 1 ≤ a ∧ a ≤ 80) : isCmd (k, a, 0, 0) = true := by
  simp only [isCmd]
  rw [if_neg (by omega), if_neg (by omega), if_pos (by omega)]; simp; omega
end Go.Proofs.YtgfmjmfphmjdkaaGreatDoor
