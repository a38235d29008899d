/-
  DERIVED. GIVEN WITH THE SEED: THE CARDS: each row of YtgfmjmfphmjdkaaDoorRows.lean that lists a variable, with what it lists TIED to the program's text (the seventh form; the later family's looks); each row that meets fmt, with fmt's text TOLD by the authors' own Lean function (tested against real Go, not proved from fmt's source: count such statements apart). THE CARD IS WHAT COUNTS. Prove the row's statement (the work); the ties are given (YtgfmjmfphmjdkaaDoorTie.lean); close each card by the builder's one call (the guide's Derived/Test/ToyasCard.lean, 'card_holds'). Laid BY PROGRAM, IN A SANDBOX (cutbox-door.mjs). By AI agents, Wed Nov 11 2026. No macro, syntax, notation, axiom, sorry.
-/
import Derived.Test.YtgfmjmfphmjdkaaDoorRows
import GoSem.ClaimSeven
namespace Go.Proofs.YtgfmjmfphmjdkaaDoor
namespace Rows

/-- THE TIED CARD OF 'typebarlaw29.PaintKeeps'. -/
def paintKeepsCard : Claim7 := { stood := { row := paintKeepsRow, standIns := [], harness := (true, "b0ebd8316c1d4cfef58cd74a24f119682d7a33266e0b8de75e8b44eb0c968ac9"), looks := true }, kinds := [], alts := [], laidByText := true, laidKinds := [.data, .data, .data, .data, .data, .pinned], laidTests := true, laidLooks := .later }
def PaintKeepsCardSaid : Prop := Claim7.holds Tryd.pinned (.plain (OpenSpec.ofChange paintKeepsSpec)) paintKeepsCard

/-- THE TIED CARD OF 'typebarlaw29.PaintEnds'. -/
def paintEndsCard : Claim7 := { stood := { row := paintEndsRow, standIns := [], harness := (true, "b0ebd8316c1d4cfef58cd74a24f119682d7a33266e0b8de75e8b44eb0c968ac9"), looks := true }, kinds := [], alts := [], laidByText := true, laidKinds := [.data, .data, .data, .data, .data, .pinned], laidTests := true, laidLooks := .later }
def PaintEndsCardSaid : Prop := Claim7.holds Tryd.pinned (.plain (OpenSpec.ofChange paintEndsSpec)) paintEndsCard

/-- THE SECOND FORM's CARD OF 'typebarlaw29.PaintKeeps'. -/
def paintKeepsUptoCard : Claim7 := { stood := { row := paintKeepsUptoRow, standIns := [], harness := (true, "b0ebd8316c1d4cfef58cd74a24f119682d7a33266e0b8de75e8b44eb0c968ac9"), looks := true }, kinds := [], alts := [], laidByText := true, laidKinds := [.data, .data, .data, .data, .data, .pinned], laidTests := true, laidLooks := .later }
def PaintKeepsUptoCardSaid : Prop := Claim7.holds Tryd.pinned (.plain (OpenSpec.upto paintKeepsSpec)) paintKeepsUptoCard

/-- THE SECOND FORM's CARD OF 'typebarlaw29.PaintEnds'. -/
def paintEndsUptoCard : Claim7 := { stood := { row := paintEndsUptoRow, standIns := [], harness := (true, "b0ebd8316c1d4cfef58cd74a24f119682d7a33266e0b8de75e8b44eb0c968ac9"), looks := true }, kinds := [], alts := [], laidByText := true, laidKinds := [.data, .data, .data, .data, .data, .pinned], laidTests := true, laidLooks := .later }
def PaintEndsUptoCardSaid : Prop := Claim7.holds Tryd.pinned (.plain (OpenSpec.upto paintEndsSpec)) paintEndsUptoCard
end Rows
end Go.Proofs.YtgfmjmfphmjdkaaDoor
