/- Layer 3 (grid), a plain law: cells that are whole in themselves, laid into a right grid and mended, are what the program lays. No condition. -/
import Derived.Test.YthlikicgikoilaaDoorGA
namespace Go.Proofs.YthlikicgikoilaaDoor
set_option linter.unusedSimpArgs false
set_option linter.unusedVariables false
set_option maxHeartbeats 4000000
open Go Go.RowKit
set_option maxRecDepth 100000
theorem lost_true {w : Nat} {l : List Cell} {i : Nat} (h : lostM w l i = true) : ((cAt l i).2 = 1 ∧ (i % w = w - 1 ∨ cAt l (i + 1) ≠ ((cAt l i).1, 2))) ∨ ((cAt l i).2 = 2 ∧ (i % w = 0 ∨ cAt l (i - 1) ≠ ((cAt l i).1, 1))) := by
  unfold lostM at h
  by_cases h1 : (cAt l i).2 = 1
  · left; refine ⟨h1, ?_⟩; simpa [h1] using h
  · by_cases h2 : (cAt l i).2 = 2
    · right; refine ⟨h2, ?_⟩; simpa [h1, h2] using h
    · simp [h1, h2] at h
/-- cells that are whole in themselves, from the place a on -/
def WholeIn (w a : Nat) (cs : List Cell) : Prop := ∀ j, j < cs.length → ((cAt cs j).2 = 1 → j + 1 < cs.length ∧ cAt cs (j + 1) = ((cAt cs j).1, 2) ∧ (a + j) % w ≠ w - 1) ∧ ((cAt cs j).2 = 2 → 1 ≤ j ∧ cAt cs (j - 1) = ((cAt cs j).1, 1) ∧ (a + j) % w ≠ 0)
theorem layG_at {l : List Cell} {a : Nat} {cs : List Cell} (hne : cs ≠ []) (hac : a + cs.length ≤ l.length) (hA : (cAt l a).2 = 2 → 1 ≤ a) (hB : (cAt l (a + cs.length - 1)).2 = 1 → a + cs.length < l.length) (i : Nat) :
    cAt (layG l a cs) i = if i < a then (if i + 1 = a ∧ (cAt l a).2 = 2 then (32, 0) else cAt l i) else if i < a + cs.length then cAt cs (i - a) else (if i = a + cs.length ∧ (cAt l (a + cs.length - 1)).2 = 1 then (32, 0) else cAt l i) := by
  have hp := List.length_pos_iff.2 hne
  unfold layG
  rw [if_neg hne]
  simp only
  have e1 : ∀ j, cAt (if (cAt l a).2 = 2 then l.set (a - 1) (32, 0) else l) j = if j + 1 = a ∧ (cAt l a).2 = 2 then (32, 0) else cAt l j := fun j => by
    by_cases h : (cAt l a).2 = 2
    · have := hA h
      rw [if_pos h, cAt_set _ _ _ _ (by omega)]
      by_cases hj : j = a - 1
      · rw [if_pos hj, if_pos ⟨by omega, h⟩]
      · rw [if_neg hj, if_neg (by omega)]
    · rw [if_neg h, if_neg (fun x => h x.2)]
  have len1 : (if (cAt l a).2 = 2 then l.set (a - 1) (32, 0) else l).length = l.length := by split <;> simp
  generalize (if (cAt l a).2 = 2 then l.set (a - 1) (32, 0) else l) = l1 at *
  have hv : cAt l1 (a + cs.length - 1) = cAt l (a + cs.length - 1) := by rw [e1, if_neg (by omega)]
  rw [hv]
  have e2 : ∀ j, cAt (if (cAt l (a + cs.length - 1)).2 = 1 then l1.set (a + cs.length) (32, 0) else l1) j = if j = a + cs.length ∧ (cAt l (a + cs.length - 1)).2 = 1 then (32, 0) else cAt l1 j := fun j => by
    by_cases h : (cAt l (a + cs.length - 1)).2 = 1
    · have := hB h
      rw [if_pos h, cAt_set _ _ _ _ (by omega)]
      by_cases hj : j = a + cs.length
      · rw [if_pos hj, if_pos ⟨hj, h⟩]
      · rw [if_neg hj, if_neg (fun x => hj x.1)]
    · rw [if_neg h, if_neg (fun x => h x.2)]
  have len2 : (if (cAt l (a + cs.length - 1)).2 = 1 then l1.set (a + cs.length) (32, 0) else l1).length = l.length := by split <;> simp [len1]
  rw [cAt_ovr (by rw [len2]; exact hac), e2, e1]
  by_cases q1 : i < a
  · rw [if_pos q1, if_pos q1, if_neg (by omega)]
  · rw [if_neg q1, if_neg q1]
    by_cases q2 : i < a + cs.length
    · rw [if_pos q2, if_pos q2]
    · rw [if_neg q2, if_neg q2]
      by_cases q3 : i = a + cs.length ∧ (cAt l (a + cs.length - 1)).2 = 1
      · rw [if_pos q3, if_pos q3]
      · rw [if_neg q3, if_neg q3, if_neg (by omega)]
theorem mend_lay (w h : Nat) (l : List Cell) (a : Nat) (cs : List Cell) (hw : 2 ≤ w) (h1 : 1 ≤ h) (hl : l.length = w * h) (hok : ∀ i, i < l.length → isCell (cAt l i) = true ∧ lostM w l i = false) (hac : a + cs.length ≤ l.length) (hcs : WholeIn w a cs) : mendM w (ovr l a cs) = layG l a cs := by
  have hm : ∀ i, cAt (ovr l a cs) i = if i < a then cAt l i else if i < a + cs.length then cAt cs (i - a) else cAt l i := fun i => cAt_ovr hac
  apply cAt_ext (by rw [mendM_len, ovr_len hac, layG_len hac])
  intro i hi
  rw [mendM_len, ovr_len hac] at hi
  rw [mendM_at (by rw [ovr_len hac]; exact hi)]
  obtain ⟨_, o1⟩ := hok i hi
  obtain ⟨o2, o3⟩ := lost_false.1 o1
  by_cases hne : cs = []
  · subst hne
    have e : ovr l a [] = l := by simp [ovr]
    rw [e, o1]; simp [layG]
  have hp := List.length_pos_iff.2 hne
  have oa := lost_false.1 (hok a (by omega)).2
  have ob := lost_false.1 (hok (a + cs.length - 1) (by omega)).2
  have c0 := hcs 0 hp
  have cl := hcs (cs.length - 1) (by omega)
  rw [layG_at hne hac (fun k => ok_left (hok a (by omega)).2 k) (fun k => by have := ok_right (by omega) h1 hl (by omega) (hok (a + cs.length - 1) (by omega)).2 k; omega)]
  by_cases q1 : i < a
  · rw [if_pos q1]
    by_cases q2 : i + 1 = a ∧ (cAt l a).2 = 2
    · rw [if_pos q2]
      obtain ⟨q3, q4⟩ := q2
      have q5 := (oa.2 q4).2
      rw [show a - 1 = i by omega] at q5
      have q6 : lostM w (ovr l a cs) i = true := by
        rw [← Bool.not_eq_false]
        intro hf
        have := ((lost_false.1 hf).1 (by rw [hm, if_pos q1, q5])).2
        rw [hm (i + 1), if_neg (by omega), if_pos (by omega), show i + 1 - a = 0 by omega] at this
        have := (c0.2 (by rw [this])).1
        omega
      rw [q6]; rfl
    · rw [if_neg q2]
      have q6 : lostM w (ovr l a cs) i = false := lost_false.2 ⟨fun k => ?_, fun k => ?_⟩
      · rw [q6, hm, if_pos q1]; rfl
      · rw [hm i, if_pos q1] at k ⊢
        obtain ⟨k1, k2⟩ := o2 k
        refine ⟨k1, ?_⟩
        by_cases q7 : i + 1 < a
        · rw [hm, if_pos q7]; exact k2
        · exfalso; apply q2
          refine ⟨by omega, ?_⟩
          rw [show a = i + 1 by omega, k2]
      · rw [hm i, if_pos q1] at k ⊢
        obtain ⟨k1, k2⟩ := o3 k
        exact ⟨k1, by rw [hm, if_pos (by omega)]; exact k2⟩
  · rw [if_neg q1]
    by_cases q2 : i < a + cs.length
    · rw [if_pos q2]
      obtain ⟨d1, d2⟩ := hcs (i - a) (by omega)
      rw [show a + (i - a) = i by omega] at d1 d2
      have q6 : lostM w (ovr l a cs) i = false := lost_false.2 ⟨fun k => ?_, fun k => ?_⟩
      · rw [q6, hm, if_neg q1, if_pos q2]; rfl
      · rw [hm i, if_neg q1, if_pos q2] at k ⊢
        obtain ⟨k1, k2, k3⟩ := d1 k
        exact ⟨k3, by rw [hm, if_neg (by omega), if_pos (by omega), show i + 1 - a = i - a + 1 by omega]; exact k2⟩
      · rw [hm i, if_neg q1, if_pos q2] at k ⊢
        obtain ⟨k1, k2, k3⟩ := d2 k
        exact ⟨k3, by rw [hm, if_neg (by omega), if_pos (by omega), show i - 1 - a = i - a - 1 by omega]; exact k2⟩
    · rw [if_neg q2]
      by_cases q3 : i = a + cs.length ∧ (cAt l (a + cs.length - 1)).2 = 1
      · rw [if_pos q3]
        obtain ⟨q4, q5⟩ := q3
        have q7 := (ob.1 q5).2
        rw [show a + cs.length - 1 + 1 = i by omega] at q7
        have q6 : lostM w (ovr l a cs) i = true := by
          rw [← Bool.not_eq_false]
          intro hf
          have := ((lost_false.1 hf).2 (by rw [hm, if_neg q1, if_neg q2, q7])).2
          rw [hm (i - 1), if_neg (by omega), if_pos (by omega), show i - 1 - a = cs.length - 1 by omega] at this
          have := (cl.1 (by rw [this])).1
          omega
        rw [q6]; rfl
      · rw [if_neg q3]
        have q6 : lostM w (ovr l a cs) i = false := lost_false.2 ⟨fun k => ?_, fun k => ?_⟩
        · rw [q6, hm, if_neg q1, if_neg q2]; rfl
        · rw [hm i, if_neg q1, if_neg q2] at k ⊢
          obtain ⟨k1, k2⟩ := o2 k
          exact ⟨k1, by rw [hm, if_neg (by omega), if_neg (by omega)]; exact k2⟩
        · rw [hm i, if_neg q1, if_neg q2] at k ⊢
          obtain ⟨k1, k2⟩ := o3 k
          refine ⟨k1, ?_⟩
          by_cases q7 : i = a + cs.length
          · exfalso; apply q3
            refine ⟨q7, ?_⟩
            rw [show a + cs.length - 1 = i - 1 by omega, k2]
          · rw [hm, if_neg (by omega), if_neg (by omega)]; exact k2
end Go.Proofs.YthlikicgikoilaaDoor
