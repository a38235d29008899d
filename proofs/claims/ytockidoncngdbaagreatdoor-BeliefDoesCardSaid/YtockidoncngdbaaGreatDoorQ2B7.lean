/- Layer 27 (belief), plainly: what a command touches, what is forgotten, and the belief of a terminal. No condition. -/
import Derived.Test.YtockidoncngdbaaGreatDoorQ2B6
namespace Go.Proofs.YtockidoncngdbaaGreatDoor
set_option linter.unusedSimpArgs false
set_option linter.unusedVariables false
set_option linter.unusedSectionVars false
set_option maxHeartbeats 4000000
open Go Go.RowKit
set_option maxRecDepth 100000
/-- what a command touches -/
def goesDown (w x : Int) (b : Bool) (c : Cmd) : Bool := decide (c.1 = 10) || (decide (c.1 = 1) && (b || decide (w < x + (cellsM c.2.2.2).length)))
noncomputable def touchB (b : Bel) (c : Cmd) : Int × Int :=
  if ¬ (okBl b = true ∧ isCmd c = true ∧ chg c.1 = true) then (0, 0)
  else if b.2.2.2.2.2.2 = false ∨ (goesDown b.1 b.2.2.2.1 b.2.2.2.2.2.1 c = true ∧ b.2.2.2.2.1 = b.2.1 - 1) then (0, b.1 * b.2.1)
  else if c.1 = 10 then (0, 0)
  else
    let y := if goesDown b.1 b.2.2.2.1 b.2.2.2.2.2.1 c = true then b.2.2.2.2.1 + 1 else b.2.2.2.2.1
    let x := if goesDown b.1 b.2.2.2.1 b.2.2.2.2.2.1 c = true then 0 else b.2.2.2.1
    (y * b.1 + max (x - 1) 0, if c.1 = 7 then (y + 1) * b.1 else if c.1 = 8 then b.1 * b.2.1 else y * b.1 + min b.1 (x + (cellsM c.2.2.2).length + 1))
/-- what is forgotten -/
noncomputable def forgetB (b : Bel) (f t : Int) (cur : Bool) : Bel :=
  if ¬ (okBl b = true ∧ 0 ≤ f ∧ f ≤ t ∧ t ≤ b.2.2.1.length) then b
  else if cur then (b.1, b.2.1, forB b.2.2.1 f.toNat t.toNat, 0, 0, false, false)
  else (b.1, b.2.1, forB b.2.2.1 f.toNat t.toNat, b.2.2.2.1, b.2.2.2.2.1, b.2.2.2.2.2.1, b.2.2.2.2.2.2)
/-- the belief of a terminal -/
def ofL (l : List Cell) : List Guess := l.map fun c => (c, true)
noncomputable def ofB (t : Tm) : Bel × Int := if okTm t = true then ((t.1, t.2.1, ofL t.2.2.1, t.2.2.2.1, t.2.2.2.2.1, t.2.2.2.2.2, true), 0) else (noB, 1)
theorem ofL_len (l : List Cell) : (ofL l).length = l.length := by simp [ofL]
end Go.Proofs.YtockidoncngdbaaGreatDoor
