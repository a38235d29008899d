/-
  DERIVED. GIVEN WITH THE SEED: THE CARDS: each row of YtgfmjmfphmjdkaaGreatDoorRows.lean that lists a variable, with what it lists TIED to the program's text (the seventh form; the later family's looks); each row that meets fmt, with fmt's text TOLD by the authors' own Lean function (tested against real Go, not proved from fmt's source: count such statements apart). THE CARD IS WHAT COUNTS. Prove the row's statement (the work); the ties are given (YtgfmjmfphmjdkaaGreatDoorTie.lean); close each card by the builder's one call (the guide's Derived/Test/ToyasCard.lean, 'card_holds'). Laid BY PROGRAM, IN A SANDBOX (cutbox-door.mjs). By AI agents, Wed Nov 11 2026. No macro, syntax, notation, axiom, sorry.
-/
import Derived.Test.YtgfmjmfphmjdkaaGreatDoorRows
import GoSem.ClaimSeven
namespace Go.Proofs.YtgfmjmfphmjdkaaGreatDoor
namespace Rows

/-- THE TIED CARD OF 'typebarlaw29.PaintDoes'. -/
def paintDoesCard : Claim7 := { stood := { row := paintDoesRow, standIns := [], harness := (true, "ab3dac72ff42652d50a9f11e7afe41cf11d673446185270c629a3153b88a6f45"), looks := true }, kinds := [], alts := [], laidByText := true, laidKinds := [.data, .data, .data, .data, .data, .pinned], laidTests := true, laidLooks := .later }
def PaintDoesCardSaid : Prop := Claim7.holds Tryz.pinned (.plain (OpenSpec.ofChange paintDoesSpec)) paintDoesCard

/-- THE TIED CARD OF 'typebarlaw29.PaintDraws'. -/
def paintDrawsCard : Claim7 := { stood := { row := paintDrawsRow, standIns := [], harness := (true, "ab3dac72ff42652d50a9f11e7afe41cf11d673446185270c629a3153b88a6f45"), looks := true }, kinds := [], alts := [], laidByText := true, laidKinds := [.data, .data, .data, .data, .data, .pinned], laidTests := true, laidLooks := .later }
def PaintDrawsCardSaid : Prop := Claim7.holds Tryz.pinned (.plain (OpenSpec.ofChange paintDrawsSpec)) paintDrawsCard

/-- THE TIED CARD OF 'typebarlaw30.PumpNews'. -/
def pumpNewsCard : Claim7 := { stood := { row := pumpNewsRow, standIns := [], harness := (true, "ab3dac72ff42652d50a9f11e7afe41cf11d673446185270c629a3153b88a6f45"), looks := true }, kinds := [], alts := [], laidByText := true, laidKinds := [.data, .data, .data, .data, .data, .pinned], laidTests := true, laidLooks := .later }
def PumpNewsCardSaid : Prop := Claim7.holds Tryz.pinned (.plain (OpenSpec.ofChange pumpNewsSpec)) pumpNewsCard

/-- THE TIED CARD OF 'typebarlaw30.PumpPushes'. -/
def pumpPushesCard : Claim7 := { stood := { row := pumpPushesRow, standIns := [], harness := (true, "ab3dac72ff42652d50a9f11e7afe41cf11d673446185270c629a3153b88a6f45"), looks := true }, kinds := [], alts := [], laidByText := true, laidKinds := [.data, .data, .data, .data, .data, .pinned], laidTests := true, laidLooks := .later }
def PumpPushesCardSaid : Prop := Claim7.holds Tryz.pinned (.plain (OpenSpec.ofChange pumpPushesSpec)) pumpPushesCard

/-- THE TIED CARD OF 'typebarlaw30.PumpGrants'. -/
def pumpGrantsCard : Claim7 := { stood := { row := pumpGrantsRow, standIns := [], harness := (true, "ab3dac72ff42652d50a9f11e7afe41cf11d673446185270c629a3153b88a6f45"), looks := true }, kinds := [], alts := [], laidByText := true, laidKinds := [.data, .data, .data, .data, .data, .pinned], laidTests := true, laidLooks := .later }
def PumpGrantsCardSaid : Prop := Claim7.holds Tryz.pinned (.plain (OpenSpec.ofChange pumpGrantsSpec)) pumpGrantsCard

/-- THE TIED CARD OF 'typebarlaw30.PumpTurns'. -/
def pumpTurnsCard : Claim7 := { stood := { row := pumpTurnsRow, standIns := [], harness := (true, "ab3dac72ff42652d50a9f11e7afe41cf11d673446185270c629a3153b88a6f45"), looks := true }, kinds := [], alts := [], laidByText := true, laidKinds := [.data, .data, .data, .data, .data, .pinned], laidTests := true, laidLooks := .later }
def PumpTurnsCardSaid : Prop := Claim7.holds Tryz.pinned (.plain (OpenSpec.ofChange pumpTurnsSpec)) pumpTurnsCard

/-- THE TIED CARD OF 'typebarlaw30.PumpEnds'. -/
def pumpEndsCard : Claim7 := { stood := { row := pumpEndsRow, standIns := [], harness := (true, "ab3dac72ff42652d50a9f11e7afe41cf11d673446185270c629a3153b88a6f45"), looks := true }, kinds := [], alts := [], laidByText := true, laidKinds := [.data, .data, .data, .data, .data, .pinned], laidTests := true, laidLooks := .later }
def PumpEndsCardSaid : Prop := Claim7.holds Tryz.pinned (.plain (OpenSpec.ofChange pumpEndsSpec)) pumpEndsCard

/-- THE TIED CARD OF 'typebarlaw30.PumpSound'. -/
def pumpSoundCard : Claim7 := { stood := { row := pumpSoundRow, standIns := [], harness := (true, "ab3dac72ff42652d50a9f11e7afe41cf11d673446185270c629a3153b88a6f45"), looks := true }, kinds := [], alts := [], laidByText := true, laidKinds := [.data, .data, .data, .data, .data, .pinned], laidTests := true, laidLooks := .later }
def PumpSoundCardSaid : Prop := Claim7.holds Tryz.pinned (.plain (OpenSpec.ofChange pumpSoundSpec)) pumpSoundCard

/-- THE SECOND FORM's CARD OF 'typebarlaw29.PaintDoes'. -/
def paintDoesUptoCard : Claim7 := { stood := { row := paintDoesUptoRow, standIns := [], harness := (true, "ab3dac72ff42652d50a9f11e7afe41cf11d673446185270c629a3153b88a6f45"), looks := true }, kinds := [], alts := [], laidByText := true, laidKinds := [.data, .data, .data, .data, .data, .pinned], laidTests := true, laidLooks := .later }
def PaintDoesUptoCardSaid : Prop := Claim7.holds Tryz.pinned (.plain (OpenSpec.upto paintDoesSpec)) paintDoesUptoCard

/-- THE SECOND FORM's CARD OF 'typebarlaw29.PaintDraws'. -/
def paintDrawsUptoCard : Claim7 := { stood := { row := paintDrawsUptoRow, standIns := [], harness := (true, "ab3dac72ff42652d50a9f11e7afe41cf11d673446185270c629a3153b88a6f45"), looks := true }, kinds := [], alts := [], laidByText := true, laidKinds := [.data, .data, .data, .data, .data, .pinned], laidTests := true, laidLooks := .later }
def PaintDrawsUptoCardSaid : Prop := Claim7.holds Tryz.pinned (.plain (OpenSpec.upto paintDrawsSpec)) paintDrawsUptoCard

/-- THE SECOND FORM's CARD OF 'typebarlaw30.PumpNews'. -/
def pumpNewsUptoCard : Claim7 := { stood := { row := pumpNewsUptoRow, standIns := [], harness := (true, "ab3dac72ff42652d50a9f11e7afe41cf11d673446185270c629a3153b88a6f45"), looks := true }, kinds := [], alts := [], laidByText := true, laidKinds := [.data, .data, .data, .data, .data, .pinned], laidTests := true, laidLooks := .later }
def PumpNewsUptoCardSaid : Prop := Claim7.holds Tryz.pinned (.plain (OpenSpec.upto pumpNewsSpec)) pumpNewsUptoCard

/-- THE SECOND FORM's CARD OF 'typebarlaw30.PumpPushes'. -/
def pumpPushesUptoCard : Claim7 := { stood := { row := pumpPushesUptoRow, standIns := [], harness := (true, "ab3dac72ff42652d50a9f11e7afe41cf11d673446185270c629a3153b88a6f45"), looks := true }, kinds := [], alts := [], laidByText := true, laidKinds := [.data, .data, .data, .data, .data, .pinned], laidTests := true, laidLooks := .later }
def PumpPushesUptoCardSaid : Prop := Claim7.holds Tryz.pinned (.plain (OpenSpec.upto pumpPushesSpec)) pumpPushesUptoCard

/-- THE SECOND FORM's CARD OF 'typebarlaw30.PumpGrants'. -/
def pumpGrantsUptoCard : Claim7 := { stood := { row := pumpGrantsUptoRow, standIns := [], harness := (true, "ab3dac72ff42652d50a9f11e7afe41cf11d673446185270c629a3153b88a6f45"), looks := true }, kinds := [], alts := [], laidByText := true, laidKinds := [.data, .data, .data, .data, .data, .pinned], laidTests := true, laidLooks := .later }
def PumpGrantsUptoCardSaid : Prop := Claim7.holds Tryz.pinned (.plain (OpenSpec.upto pumpGrantsSpec)) pumpGrantsUptoCard

/-- THE SECOND FORM's CARD OF 'typebarlaw30.PumpTurns'. -/
def pumpTurnsUptoCard : Claim7 := { stood := { row := pumpTurnsUptoRow, standIns := [], harness := (true, "ab3dac72ff42652d50a9f11e7afe41cf11d673446185270c629a3153b88a6f45"), looks := true }, kinds := [], alts := [], laidByText := true, laidKinds := [.data, .data, .data, .data, .data, .pinned], laidTests := true, laidLooks := .later }
def PumpTurnsUptoCardSaid : Prop := Claim7.holds Tryz.pinned (.plain (OpenSpec.upto pumpTurnsSpec)) pumpTurnsUptoCard

/-- THE SECOND FORM's CARD OF 'typebarlaw30.PumpEnds'. -/
def pumpEndsUptoCard : Claim7 := { stood := { row := pumpEndsUptoRow, standIns := [], harness := (true, "ab3dac72ff42652d50a9f11e7afe41cf11d673446185270c629a3153b88a6f45"), looks := true }, kinds := [], alts := [], laidByText := true, laidKinds := [.data, .data, .data, .data, .data, .pinned], laidTests := true, laidLooks := .later }
def PumpEndsUptoCardSaid : Prop := Claim7.holds Tryz.pinned (.plain (OpenSpec.upto pumpEndsSpec)) pumpEndsUptoCard

/-- THE SECOND FORM's CARD OF 'typebarlaw30.PumpSound'. -/
def pumpSoundUptoCard : Claim7 := { stood := { row := pumpSoundUptoRow, standIns := [], harness := (true, "ab3dac72ff42652d50a9f11e7afe41cf11d673446185270c629a3153b88a6f45"), looks := true }, kinds := [], alts := [], laidByText := true, laidKinds := [.data, .data, .data, .data, .data, .pinned], laidTests := true, laidLooks := .later }
def PumpSoundUptoCardSaid : Prop := Claim7.holds Tryz.pinned (.plain (OpenSpec.upto pumpSoundSpec)) pumpSoundUptoCard
end Rows
end Go.Proofs.YtgfmjmfphmjdkaaGreatDoor
