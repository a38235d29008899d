/- Layer 29 (paint), plainly: where is painted next; and the same by reckoning. No condition. -/
import Derived.Test.YtgfmjmfphmjdkaaGreatDoorQ3I1
import Derived.Test.YtgfmjmfphmjdkaaGreatDoorQ3H2
namespace Go.Proofs.YtgfmjmfphmjdkaaGreatDoor
set_option linter.unusedSimpArgs false
set_option linter.unusedVariables false
set_option linter.unusedSectionVars false
set_option maxHeartbeats 4000000
open Go Go.RowKit
set_option maxRecDepth 100000
/-- where is painted next, and whether there is such a place -/
def firP (b : Bel) (t : Tm) : Int × Bool := if fstW b t = b.2.2.1.length then (0, false) else ((plcW b t : Nat), true)
def fitsPC (b : Bel) (t : Tm) : Bool := okBlC b && okTC t.1 t.2.1 t.2.2.1 t.2.2.2.1 t.2.2.2.2.1 t.2.2.2.2.2 && !t.2.2.2.2.2 && decide (b.1 = t.1) && decide (b.2.1 = t.2.1)
theorem fitsP_c {b : Bel} {t : Tm} : fitsP b t ↔ fitsPC b t = true := by
  unfold fitsP fitsPC okBl okBlC okTm
  rw [okBe_c, okT_c]
  simp only [Bool.and_eq_true, decide_eq_true_eq, Bool.not_eq_true', and_assoc]
def wrongPC (b : Bel) (t : Tm) : Int × Int := if fitsPC b t = true then ((cntP (wrP b.2.2.1 t.2.2.1) 0 b.2.2.1.length : Nat), 0) else (0, 1)
theorem wrongP_c (b : Bel) (t : Tm) : wrongP b t = wrongPC b t := by
  unfold wrongP wrongPC
  by_cases h : fitsP b t
  · rw [if_pos h, if_pos (fitsP_c.1 h)]
  · rw [if_neg h, if_neg (fun z => h (fitsP_c.2 z))]
def nextMoC (b : Bel) (X Y : Int) : Cmd × Int :=
  if ¬ (okBlC b = true ∧ 0 ≤ X ∧ X < b.1 ∧ 0 ≤ Y ∧ Y < b.2.1) then ((0, 0, 0, 0), 1)
  else if b.2.2.2.2.2.2 = false then (goC X Y, 0)
  else if b.2.2.2.1 = X ∧ b.2.2.2.2.1 = Y ∧ b.2.2.2.2.2.1 = false then ((0, 0, 0, 0), 7)
  else (bestM (movesM b.2.1 b.2.2.2.1 b.2.2.2.2.1 X Y) (goC X Y), 0)
theorem nextMo_c (b : Bel) (X Y : Int) : nextMo b X Y = nextMoC b X Y := by unfold nextMo nextMoC okBl okBlC; rw [okBe_c]
def nextPC (b : Bel) (t : Tm) : Cmd × Int :=
  if fitsPC b t = true then
    if fstW b t = b.2.2.1.length then nextMoC b t.2.2.2.1 t.2.2.2.2.1
    else if isAt b (plcW b t % b.1.toNat : Nat) (plcW b t / b.1.toNat : Nat) = false then nextMoC b (plcW b t % b.1.toNat : Nat) (plcW b t / b.1.toNat : Nat)
    else (tellW b.1.toNat b.2.2.1 t.2.2.1 (plcW b t), 0)
  else ((0, 0, 0, 0), 1)
theorem nextP_c (b : Bel) (t : Tm) : nextP b t = nextPC b t := by
  unfold nextP nextPC
  by_cases h : fitsP b t
  · rw [if_pos h, if_pos (fitsP_c.1 h), nextMo_c, nextMo_c]
  · rw [if_neg h, if_neg (fun z => h (fitsP_c.2 z))]
/-- what is told, in the program's order -/
theorem nextP_no {b : Bel} {t : Tm} (h : ¬ fitsP b t) : nextP b t = ((0, 0, 0, 0), 1) := by unfold nextP; rw [if_neg h]
theorem nextP_end {b : Bel} {t : Tm} (hf : fitsP b t) (h : fstW b t = b.2.2.1.length) : nextP b t = nextMo b t.2.2.2.1 t.2.2.2.2.1 := by unfold nextP; rw [if_pos hf, if_pos h]
theorem nextP_mid {b : Bel} {t : Tm} (hf : fitsP b t) (h : fstW b t ≠ b.2.2.1.length) : nextP b t = if isAt b (plcW b t % b.1.toNat : Nat) (plcW b t / b.1.toNat : Nat) = false then nextMo b (plcW b t % b.1.toNat : Nat) (plcW b t / b.1.toNat : Nat) else (tellW b.1.toNat b.2.2.1 t.2.2.1 (plcW b t), 0) := by unfold nextP; rw [if_pos hf, if_neg h]
theorem wrongP_ok {b : Bel} {t : Tm} (hf : fitsP b t) : wrongP b t = (((cntW b t : Nat) : Int), 0) := by unfold wrongP; rw [if_pos hf]; rfl
theorem wrongP_no {b : Bel} {t : Tm} (hf : ¬ fitsP b t) : wrongP b t = (0, 1) := by unfold wrongP; rw [if_neg hf]
theorem fits_len {b : Bel} {t : Tm} (hf : fitsP b t) : b.2.2.1.length = t.2.2.1.length ∧ b.2.2.1.length ≤ 1920 := by
  obtain ⟨w, h', l, x, y, bb, s, cs, X, Y, rfl, rfl, w2, w3, w4, w5, hl, hcl, hk, hX, hY⟩ := fits_nat hf
  have := side_leB w3 w5
  simp only
  omega
theorem plc_le {b : Bel} {t : Tm} : plcW b t ≤ fstW b t := by unfold plcW; split <;> omega
/-- the place of a first one that is the right half of a sign is behind its left half -/
theorem fst_pos {b : Bel} {t : Tm} (hf : fitsP b t) (h : fstW b t < b.2.2.1.length) (h2 : (cAt t.2.2.1 (fstW b t)).2 = 2) : 1 ≤ fstW b t := by
  obtain ⟨w, h', l, x, y, bb, s, cs, X, Y, rfl, rfl, w2, _, _, _, hl, hcl, hk, hX, hY⟩ := fits_nat hf
  simp only at h h2
  have q := ((cs_kind hk (i := fstW ((w : Int), (h' : Int), l, x, y, bb, s) ((w : Int), (h' : Int), cs, X, Y, false)) (by omega)).2.2 h2).1
  rcases Nat.eq_zero_or_pos (fstW ((w : Int), (h' : Int), l, x, y, bb, s) ((w : Int), (h' : Int), cs, X, Y, false)) with z | z
  · rw [z] at q; simp at q
  · exact z
end Go.Proofs.YtgfmjmfphmjdkaaGreatDoor
