/-
  DERIVED. GIVEN WITH THE SEED: THE CARDS: each row of YtockidoncngdbaaGreatDoorRows.lean that lists a variable, with what it lists TIED to the program's text (the seventh form; the later family's looks); each row that meets fmt, with fmt's text TOLD by the authors' own Lean function (tested against real Go, not proved from fmt's source: count such statements apart). THE CARD IS WHAT COUNTS. Prove the row's statement (the work); the ties are given (YtockidoncngdbaaGreatDoorTie.lean); close each card by the builder's one call (the guide's Derived/Test/ToyasCard.lean, 'card_holds'). Laid BY PROGRAM, IN A SANDBOX (cutbox-door.mjs). By AI agents, Wed Nov 11 2026. No macro, syntax, notation, axiom, sorry.
-/
import Derived.Test.YtockidoncngdbaaGreatDoorRows
import GoSem.ClaimSeven
namespace Go.Proofs.YtockidoncngdbaaGreatDoor
namespace Rows

/-- THE TIED CARD OF 'typebarlaw27.BeliefDoes'. -/
def beliefDoesCard : Claim7 := { stood := { row := beliefDoesRow, standIns := [], harness := (true, "87eab5bcfa3e843a7138a092b7f3784ab58dea8da1c11f96e6d7707379664c71"), looks := true }, kinds := [], alts := [], laidByText := true, laidKinds := [.data, .data, .pinned], laidTests := true, laidLooks := .later }
def BeliefDoesCardSaid : Prop := Claim7.holds Tryz.pinned (.plain (OpenSpec.ofChange beliefDoesSpec)) beliefDoesCard

/-- THE SECOND FORM's CARD OF 'typebarlaw27.BeliefDoes'. -/
def beliefDoesUptoCard : Claim7 := { stood := { row := beliefDoesUptoRow, standIns := [], harness := (true, "87eab5bcfa3e843a7138a092b7f3784ab58dea8da1c11f96e6d7707379664c71"), looks := true }, kinds := [], alts := [], laidByText := true, laidKinds := [.data, .data, .pinned], laidTests := true, laidLooks := .later }
def BeliefDoesUptoCardSaid : Prop := Claim7.holds Tryz.pinned (.plain (OpenSpec.upto beliefDoesSpec)) beliefDoesUptoCard
end Rows
end Go.Proofs.YtockidoncngdbaaGreatDoor
