/- Layer 27 (belief), plainly: the same, told so that it can be reckoned. No condition. -/
import Derived.Test.YtgfmjmfphmjdkaaGreatDoorQ3H1
import Derived.Test.YtgfmjmfphmjdkaaGreatDoorQ3ZN
namespace Go.Proofs.YtgfmjmfphmjdkaaGreatDoor
set_option linter.unusedSimpArgs false
set_option linter.unusedVariables false
set_option linter.unusedSectionVars false
set_option maxHeartbeats 4000000
open Go Go.RowKit
set_option maxRecDepth 100000
def curKC (w h x y : Int) (b : Bool) (c : Cmd) : Int × Int × Bool := (doKC w h [] x y b c).2.2.2
theorem curK_c (w h x y : Int) (b : Bool) (c : Cmd) : curK w h x y b c = curKC w h x y b c := by unfold curK curKC; rw [doK_c]
def okBeC (w h : Int) (l : List Guess) (x y : Int) (b s : Bool) : Bool := (sidesM w h && decide ((l.length : Int) = w * h) && (List.range l.length).all (gsOk w.toNat l)) && curB w h x y b s
theorem okBe_c (w h : Int) (l : List Guess) (x y : Int) (b s : Bool) : okBe w h l x y b s = okBeC w h l x y b s := by
  unfold okBe okBeC; congr 1; rw [Bool.eq_iff_iff]; simp [OkL, sidesM, and_assoc]
abbrev okBlC (b : Bel) : Bool := okBeC b.1 b.2.1 b.2.2.1 b.2.2.2.1 b.2.2.2.2.1 b.2.2.2.2.2.1 b.2.2.2.2.2.2
def doBKC (w h : Int) (l : List Guess) (x y : Int) (b : Bool) (c : Cmd) : Bel :=
  (w, h, listK w.toNat h.toNat l x.toNat y.toNat b c, (curKC w h x y b c).1, (curKC w h x y b c).2.1, (curKC w h x y b c).2.2, true)
def doBC (b : Bel) (c : Cmd) : Bel × Int :=
  if okBlC b = true ∧ isCmd c = true then
    if b.2.2.2.2.2.2 = false ∧ chg c.1 = true then newB b.1 b.2.1
    else if (b.2.2.2.2.2.2 = false ∧ c.1 ≠ 2) ∨ c.1 = 12 then (b, 0)
    else (doBKC b.1 b.2.1 b.2.2.1 b.2.2.2.1 b.2.2.2.2.1 b.2.2.2.2.2.1 c, 0)
  else (noB, 1)
theorem doBK_c (w h : Int) (l : List Guess) (x y : Int) (b : Bool) (c : Cmd) : doBK w h l x y b c = doBKC w h l x y b c := by unfold doBK doBKC; rw [curK_c]
theorem doB_c (b : Bel) (c : Cmd) : doB b c = doBC b c := by unfold doB doBC okBl okBlC; rw [okBe_c, doBK_c]
def ofBC (t : Tm) : Bel × Int := if okTC t.1 t.2.1 t.2.2.1 t.2.2.2.1 t.2.2.2.2.1 t.2.2.2.2.2 = true then ((t.1, t.2.1, ofL t.2.2.1, t.2.2.2.1, t.2.2.2.2.1, t.2.2.2.2.2, true), 0) else (noB, 1)
theorem ofB_c (t : Tm) : ofB t = ofBC t := by unfold ofB ofBC okTm; rw [okT_c]
end Go.Proofs.YtgfmjmfphmjdkaaGreatDoor
