/- Layer 27 (belief), plainly: the same, told so that it can be reckoned. No condition. -/
import Derived.Test.YtockidoncngdbaaGreatDoorQ2H1
import Derived.Test.YtockidoncngdbaaGreatDoorQ2ZN
namespace Go.Proofs.YtockidoncngdbaaGreatDoor
set_option linter.unusedSimpArgs false
set_option linter.unusedVariables false
set_option linter.unusedSectionVars false
set_option maxHeartbeats 4000000
open Go Go.RowKit
set_option maxRecDepth 100000
def curKC (w h x y : Int) (b : Bool) (c : Cmd) : Int × Int × Bool := (doKC w h [] x y b c).2.2.2
theorem curK_c (w h x y : Int) (b : Bool) (c : Cmd) : curK w h x y b c = curKC w h x y b c := by unfold curK curKC; rw [doK_c]
def okBeC (w h : Int) (l : List Guess) (x y : Int) (b s : Bool) : Bool := (sidesM w h && decide ((l.length : Int) = w * h) && (List.range l.length).all (gsOk w.toNat l)) && curB w h x y b s
theorem okBe_c (w h : Int) (l : List Guess) (x y : Int) (b s : Bool) : okBe w h l x y b s = okBeC w h l x y b s := by
  unfold okBe okBeC; congr 1; rw [Bool.eq_iff_iff]; simp [OkL, sidesM, and_assoc]
abbrev okBlC (b : Bel) : Bool := okBeC b.1 b.2.1 b.2.2.1 b.2.2.2.1 b.2.2.2.2.1 b.2.2.2.2.2.1 b.2.2.2.2.2.2
def doBKC (w h : Int) (l : List Guess) (x y : Int) (b : Bool) (c : Cmd) : Bel :=
  (w, h, listK w.toNat h.toNat l x.toNat y.toNat b c, (curKC w h x y b c).1, (curKC w h x y b c).2.1, (curKC w h x y b c).2.2, true)
def doBC (b : Bel) (c : Cmd) : Bel × Int :=
  if okBlC b = true ∧ isCmd c = true then
    if b.2.2.2.2.2.2 = false ∧ chg c.1 = true then newB b.1 b.2.1
    else if (b.2.2.2.2.2.2 = false ∧ c.1 ≠ 2) ∨ c.1 = 12 then (b, 0)
    else (doBKC b.1 b.2.1 b.2.2.1 b.2.2.2.1 b.2.2.2.2.1 b.2.2.2.2.2.1 c, 0)
  else (noB, 1)
theorem doBK_c (w h : Int) (l : List Guess) (x y : Int) (b : Bool) (c : Cmd) : doBK w h l x y b c = doBKC w h l x y b c := by unfold doBK doBKC; rw [curK_c]
theorem doB_c (b : Bel) (c : Cmd) : doB b c = doBC b c := by unfold doB doBC okBl okBlC; rw [okBe_c, doBK_c]
def touchBC (b : Bel) (c : Cmd) : Int × Int :=
  if ¬ (okBlC b = true ∧ isCmd c = true ∧ chg c.1 = true) then (0, 0)
  else if b.2.2.2.2.2.2 = false ∨ (goesDown b.1 b.2.2.2.1 b.2.2.2.2.2.1 c = true ∧ b.2.2.2.2.1 = b.2.1 - 1) then (0, b.1 * b.2.1)
  else if c.1 = 10 then (0, 0)
  else
    let y := if goesDown b.1 b.2.2.2.1 b.2.2.2.2.2.1 c = true then b.2.2.2.2.1 + 1 else b.2.2.2.2.1
    let x := if goesDown b.1 b.2.2.2.1 b.2.2.2.2.2.1 c = true then 0 else b.2.2.2.1
    (y * b.1 + max (x - 1) 0, if c.1 = 7 then (y + 1) * b.1 else if c.1 = 8 then b.1 * b.2.1 else y * b.1 + min b.1 (x + (cellsM c.2.2.2).length + 1))
theorem touchB_c (b : Bel) (c : Cmd) : touchB b c = touchBC b c := by unfold touchB touchBC okBl okBlC; rw [okBe_c]
def forgetBC (b : Bel) (f t : Int) (cur : Bool) : Bel :=
  if ¬ (okBlC b = true ∧ 0 ≤ f ∧ f ≤ t ∧ t ≤ b.2.2.1.length) then b
  else if cur then (b.1, b.2.1, forB b.2.2.1 f.toNat t.toNat, 0, 0, false, false)
  else (b.1, b.2.1, forB b.2.2.1 f.toNat t.toNat, b.2.2.2.1, b.2.2.2.2.1, b.2.2.2.2.2.1, b.2.2.2.2.2.2)
theorem forgetB_c (b : Bel) (f t : Int) (cur : Bool) : forgetB b f t cur = forgetBC b f t cur := by unfold forgetB forgetBC okBl okBlC; rw [okBe_c]
def ofBC (t : Tm) : Bel × Int := if okTC t.1 t.2.1 t.2.2.1 t.2.2.2.1 t.2.2.2.2.1 t.2.2.2.2.2 = true then ((t.1, t.2.1, ofL t.2.2.1, t.2.2.2.1, t.2.2.2.2.1, t.2.2.2.2.2, true), 0) else (noB, 1)
theorem ofB_c (t : Tm) : ofB t = ofBC t := by unfold ofB ofBC okTm; rw [okT_c]
def agrBC (b : Bel) (t : Tm) : Bool := okBlC b && okTC t.1 t.2.1 t.2.2.1 t.2.2.2.1 t.2.2.2.2.1 t.2.2.2.2.2 && decide (b.1 = t.1) && decide (b.2.1 = t.2.1) && (List.range b.2.2.1.length).all (fun i => !(gAt b.2.2.1 i).2 || decide ((gAt b.2.2.1 i).1 = cAt t.2.2.1 i)) && (!b.2.2.2.2.2.2 || (decide (b.2.2.2.1 = t.2.2.2.1) && decide (b.2.2.2.2.1 = t.2.2.2.2.1) && decide (b.2.2.2.2.2.1 = t.2.2.2.2.2)))
theorem agr_iff {l : List Guess} {t : List Cell} : Agr l t ↔ (List.range l.length).all (fun i => !(gAt l i).2 || decide ((gAt l i).1 = cAt t i)) = true := by
  simp only [Agr, List.all_eq_true, List.mem_range, Bool.or_eq_true, Bool.not_eq_true', decide_eq_true_eq]
  refine forall_congr' fun i => forall_congr' fun hi => ?_
  cases (gAt l i).2 <;> simp
theorem agrB_c (b : Bel) (t : Tm) : agrB b t = agrBC b t := by
  unfold agrB agrBC
  rw [Bool.eq_iff_iff, decide_eq_true_eq]
  unfold AgrP okBl okBlC okTm
  rw [okBe_c, okT_c, agr_iff]
  simp only [Bool.and_eq_true, decide_eq_true_eq, Bool.or_eq_true, Bool.not_eq_true', and_assoc]
  refine and_congr_right fun _ => and_congr_right fun _ => and_congr_right fun _ => and_congr_right fun _ => and_congr_right fun _ => ?_
  cases b.2.2.2.2.2.2 <;> simp
end Go.Proofs.YtockidoncngdbaaGreatDoor
