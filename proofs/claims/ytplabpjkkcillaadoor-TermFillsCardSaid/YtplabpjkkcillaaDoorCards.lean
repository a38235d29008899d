/-
  DERIVED. GIVEN WITH THE SEED: THE CARDS: each row of YtplabpjkkcillaaDoorRows.lean that lists a variable, with what it lists TIED to the program's text (the seventh form; the later family's looks); each row that meets fmt, with fmt's text TOLD by the authors' own Lean function (tested against real Go, not proved from fmt's source: count such statements apart). THE CARD IS WHAT COUNTS. Prove the row's statement (the work); the ties are given (YtplabpjkkcillaaDoorTie.lean); close each card by the builder's one call (the guide's Derived/Test/ToyasCard.lean, 'card_holds'). Laid BY PROGRAM, IN A SANDBOX (cutbox-door.mjs). By AI agents, Wed Nov 11 2026. No macro, syntax, notation, axiom, sorry.
-/
import Derived.Test.YtplabpjkkcillaaDoorRows
import GoSem.ClaimSeven
namespace Go.Proofs.YtplabpjkkcillaaDoor
namespace Rows

/-- THE TIED CARD OF 'typebarlaw06.ScanNext'. -/
def scanNextCard : Claim7 := { stood := { row := scanNextRow, standIns := [], harness := (true, "17694acea35e14b3c4b8fed48a141b0935c6e94cde2cffccde0ba36bdaab6e33"), looks := true }, kinds := [], alts := [], laidByText := true, laidKinds := [.data, .pinned], laidTests := true, laidLooks := .later }
def ScanNextCardSaid : Prop := Claim7.holds Tryd.pinned (.plain (OpenSpec.ofChange scanNextSpec)) scanNextCard

/-- THE TIED CARD OF 'typebarlaw06.ScanAll'. -/
def scanAllCard : Claim7 := { stood := { row := scanAllRow, standIns := [], harness := (true, "17694acea35e14b3c4b8fed48a141b0935c6e94cde2cffccde0ba36bdaab6e33"), looks := true }, kinds := [], alts := [], laidByText := true, laidKinds := [.data, .pinned], laidTests := true, laidLooks := .later }
def ScanAllCardSaid : Prop := Claim7.holds Tryd.pinned (.plain (OpenSpec.ofChange scanAllSpec)) scanAllCard

/-- THE TIED CARD OF 'typebarlaw06.ScanBack'. -/
def scanBackCard : Claim7 := { stood := { row := scanBackRow, standIns := [], harness := (true, "17694acea35e14b3c4b8fed48a141b0935c6e94cde2cffccde0ba36bdaab6e33"), looks := true }, kinds := [], alts := [], laidByText := true, laidKinds := [.data, .data, .data, .data, .pinned], laidTests := true, laidLooks := .later }
def ScanBackCardSaid : Prop := Claim7.holds Tryd.pinned (.plain (OpenSpec.ofChange scanBackSpec)) scanBackCard

/-- THE TIED CARD OF 'typebarlaw06.ScanGoes'. -/
def scanGoesCard : Claim7 := { stood := { row := scanGoesRow, standIns := [], harness := (true, "17694acea35e14b3c4b8fed48a141b0935c6e94cde2cffccde0ba36bdaab6e33"), looks := true }, kinds := [], alts := [], laidByText := true, laidKinds := [.data, .data, .data, .data, .pinned], laidTests := true, laidLooks := .later }
def ScanGoesCardSaid : Prop := Claim7.holds Tryd.pinned (.plain (OpenSpec.ofChange scanGoesSpec)) scanGoesCard

/-- THE TIED CARD OF 'typebarlaw06.ScanCuts'. -/
def scanCutsCard : Claim7 := { stood := { row := scanCutsRow, standIns := [], harness := (true, "17694acea35e14b3c4b8fed48a141b0935c6e94cde2cffccde0ba36bdaab6e33"), looks := true }, kinds := [], alts := [], laidByText := true, laidKinds := [.data, .data, .data, .data, .pinned], laidTests := true, laidLooks := .later }
def ScanCutsCardSaid : Prop := Claim7.holds Tryd.pinned (.plain (OpenSpec.ofChange scanCutsSpec)) scanCutsCard

/-- THE TIED CARD OF 'typebarlaw07.TermNews'. -/
def termNewsCard : Claim7 := { stood := { row := termNewsRow, standIns := [], harness := (true, "17694acea35e14b3c4b8fed48a141b0935c6e94cde2cffccde0ba36bdaab6e33"), looks := true }, kinds := [], alts := [], laidByText := true, laidKinds := [.data, .data, .pinned], laidTests := true, laidLooks := .later }
def TermNewsCardSaid : Prop := Claim7.holds Tryd.pinned (.plain (OpenSpec.ofChange termNewsSpec)) termNewsCard

/-- THE TIED CARD OF 'typebarlaw07.TermDoes'. -/
def termDoesCard : Claim7 := { stood := { row := termDoesRow, standIns := [], harness := (true, "17694acea35e14b3c4b8fed48a141b0935c6e94cde2cffccde0ba36bdaab6e33"), looks := true }, kinds := [], alts := [], laidByText := true, laidKinds := [.data, .data, .pinned], laidTests := true, laidLooks := .later }
def TermDoesCardSaid : Prop := Claim7.holds Tryd.pinned (.plain (OpenSpec.ofChange termDoesSpec)) termDoesCard

/-- THE TIED CARD OF 'typebarlaw07.TermFeeds'. -/
def termFeedsCard : Claim7 := { stood := { row := termFeedsRow, standIns := [], harness := (true, "17694acea35e14b3c4b8fed48a141b0935c6e94cde2cffccde0ba36bdaab6e33"), looks := true }, kinds := [], alts := [], laidByText := true, laidKinds := [.data, .data, .pinned], laidTests := true, laidLooks := .later }
def TermFeedsCardSaid : Prop := Claim7.holds Tryd.pinned (.plain (OpenSpec.ofChange termFeedsSpec)) termFeedsCard

/-- THE TIED CARD OF 'typebarlaw07.TermSizes'. -/
def termSizesCard : Claim7 := { stood := { row := termSizesRow, standIns := [], harness := (true, "17694acea35e14b3c4b8fed48a141b0935c6e94cde2cffccde0ba36bdaab6e33"), looks := true }, kinds := [], alts := [], laidByText := true, laidKinds := [.data, .data, .pinned], laidTests := true, laidLooks := .later }
def TermSizesCardSaid : Prop := Claim7.holds Tryd.pinned (.plain (OpenSpec.ofChange termSizesSpec)) termSizesCard

/-- THE TIED CARD OF 'typebarlaw07.TermStays'. -/
def termStaysCard : Claim7 := { stood := { row := termStaysRow, standIns := [], harness := (true, "17694acea35e14b3c4b8fed48a141b0935c6e94cde2cffccde0ba36bdaab6e33"), looks := true }, kinds := [], alts := [], laidByText := true, laidKinds := [.data, .data, .pinned], laidTests := true, laidLooks := .later }
def TermStaysCardSaid : Prop := Claim7.holds Tryd.pinned (.plain (OpenSpec.ofChange termStaysSpec)) termStaysCard

/-- THE TIED CARD OF 'typebarlaw07.TermParts'. -/
def termPartsCard : Claim7 := { stood := { row := termPartsRow, standIns := [], harness := (true, "17694acea35e14b3c4b8fed48a141b0935c6e94cde2cffccde0ba36bdaab6e33"), looks := true }, kinds := [], alts := [], laidByText := true, laidKinds := [.data, .data, .pinned], laidTests := true, laidLooks := .later }
def TermPartsCardSaid : Prop := Claim7.holds Tryd.pinned (.plain (OpenSpec.ofChange termPartsSpec)) termPartsCard

/-- THE TIED CARD OF 'typebarlaw07.TermMoves'. -/
def termMovesCard : Claim7 := { stood := { row := termMovesRow, standIns := [], harness := (true, "17694acea35e14b3c4b8fed48a141b0935c6e94cde2cffccde0ba36bdaab6e33"), looks := true }, kinds := [], alts := [], laidByText := true, laidKinds := [.data, .data, .pinned], laidTests := true, laidLooks := .later }
def TermMovesCardSaid : Prop := Claim7.holds Tryd.pinned (.plain (OpenSpec.ofChange termMovesSpec)) termMovesCard

/-- THE TIED CARD OF 'typebarlaw07.TermFills'. -/
def termFillsCard : Claim7 := { stood := { row := termFillsRow, standIns := [], harness := (true, "17694acea35e14b3c4b8fed48a141b0935c6e94cde2cffccde0ba36bdaab6e33"), looks := true }, kinds := [], alts := [], laidByText := true, laidKinds := [.data, .data, .pinned], laidTests := true, laidLooks := .later }
def TermFillsCardSaid : Prop := Claim7.holds Tryd.pinned (.plain (OpenSpec.ofChange termFillsSpec)) termFillsCard

/-- THE SECOND FORM's CARD OF 'typebarlaw06.ScanNext'. -/
def scanNextUptoCard : Claim7 := { stood := { row := scanNextUptoRow, standIns := [], harness := (true, "17694acea35e14b3c4b8fed48a141b0935c6e94cde2cffccde0ba36bdaab6e33"), looks := true }, kinds := [], alts := [], laidByText := true, laidKinds := [.data, .pinned], laidTests := true, laidLooks := .later }
def ScanNextUptoCardSaid : Prop := Claim7.holds Tryd.pinned (.plain (OpenSpec.upto scanNextSpec)) scanNextUptoCard

/-- THE SECOND FORM's CARD OF 'typebarlaw06.ScanAll'. -/
def scanAllUptoCard : Claim7 := { stood := { row := scanAllUptoRow, standIns := [], harness := (true, "17694acea35e14b3c4b8fed48a141b0935c6e94cde2cffccde0ba36bdaab6e33"), looks := true }, kinds := [], alts := [], laidByText := true, laidKinds := [.data, .pinned], laidTests := true, laidLooks := .later }
def ScanAllUptoCardSaid : Prop := Claim7.holds Tryd.pinned (.plain (OpenSpec.upto scanAllSpec)) scanAllUptoCard

/-- THE SECOND FORM's CARD OF 'typebarlaw06.ScanBack'. -/
def scanBackUptoCard : Claim7 := { stood := { row := scanBackUptoRow, standIns := [], harness := (true, "17694acea35e14b3c4b8fed48a141b0935c6e94cde2cffccde0ba36bdaab6e33"), looks := true }, kinds := [], alts := [], laidByText := true, laidKinds := [.data, .data, .data, .data, .pinned], laidTests := true, laidLooks := .later }
def ScanBackUptoCardSaid : Prop := Claim7.holds Tryd.pinned (.plain (OpenSpec.upto scanBackSpec)) scanBackUptoCard

/-- THE SECOND FORM's CARD OF 'typebarlaw06.ScanGoes'. -/
def scanGoesUptoCard : Claim7 := { stood := { row := scanGoesUptoRow, standIns := [], harness := (true, "17694acea35e14b3c4b8fed48a141b0935c6e94cde2cffccde0ba36bdaab6e33"), looks := true }, kinds := [], alts := [], laidByText := true, laidKinds := [.data, .data, .data, .data, .pinned], laidTests := true, laidLooks := .later }
def ScanGoesUptoCardSaid : Prop := Claim7.holds Tryd.pinned (.plain (OpenSpec.upto scanGoesSpec)) scanGoesUptoCard

/-- THE SECOND FORM's CARD OF 'typebarlaw06.ScanCuts'. -/
def scanCutsUptoCard : Claim7 := { stood := { row := scanCutsUptoRow, standIns := [], harness := (true, "17694acea35e14b3c4b8fed48a141b0935c6e94cde2cffccde0ba36bdaab6e33"), looks := true }, kinds := [], alts := [], laidByText := true, laidKinds := [.data, .data, .data, .data, .pinned], laidTests := true, laidLooks := .later }
def ScanCutsUptoCardSaid : Prop := Claim7.holds Tryd.pinned (.plain (OpenSpec.upto scanCutsSpec)) scanCutsUptoCard

/-- THE SECOND FORM's CARD OF 'typebarlaw07.TermNews'. -/
def termNewsUptoCard : Claim7 := { stood := { row := termNewsUptoRow, standIns := [], harness := (true, "17694acea35e14b3c4b8fed48a141b0935c6e94cde2cffccde0ba36bdaab6e33"), looks := true }, kinds := [], alts := [], laidByText := true, laidKinds := [.data, .data, .pinned], laidTests := true, laidLooks := .later }
def TermNewsUptoCardSaid : Prop := Claim7.holds Tryd.pinned (.plain (OpenSpec.upto termNewsSpec)) termNewsUptoCard

/-- THE SECOND FORM's CARD OF 'typebarlaw07.TermDoes'. -/
def termDoesUptoCard : Claim7 := { stood := { row := termDoesUptoRow, standIns := [], harness := (true, "17694acea35e14b3c4b8fed48a141b0935c6e94cde2cffccde0ba36bdaab6e33"), looks := true }, kinds := [], alts := [], laidByText := true, laidKinds := [.data, .data, .pinned], laidTests := true, laidLooks := .later }
def TermDoesUptoCardSaid : Prop := Claim7.holds Tryd.pinned (.plain (OpenSpec.upto termDoesSpec)) termDoesUptoCard

/-- THE SECOND FORM's CARD OF 'typebarlaw07.TermFeeds'. -/
def termFeedsUptoCard : Claim7 := { stood := { row := termFeedsUptoRow, standIns := [], harness := (true, "17694acea35e14b3c4b8fed48a141b0935c6e94cde2cffccde0ba36bdaab6e33"), looks := true }, kinds := [], alts := [], laidByText := true, laidKinds := [.data, .data, .pinned], laidTests := true, laidLooks := .later }
def TermFeedsUptoCardSaid : Prop := Claim7.holds Tryd.pinned (.plain (OpenSpec.upto termFeedsSpec)) termFeedsUptoCard

/-- THE SECOND FORM's CARD OF 'typebarlaw07.TermSizes'. -/
def termSizesUptoCard : Claim7 := { stood := { row := termSizesUptoRow, standIns := [], harness := (true, "17694acea35e14b3c4b8fed48a141b0935c6e94cde2cffccde0ba36bdaab6e33"), looks := true }, kinds := [], alts := [], laidByText := true, laidKinds := [.data, .data, .pinned], laidTests := true, laidLooks := .later }
def TermSizesUptoCardSaid : Prop := Claim7.holds Tryd.pinned (.plain (OpenSpec.upto termSizesSpec)) termSizesUptoCard

/-- THE SECOND FORM's CARD OF 'typebarlaw07.TermStays'. -/
def termStaysUptoCard : Claim7 := { stood := { row := termStaysUptoRow, standIns := [], harness := (true, "17694acea35e14b3c4b8fed48a141b0935c6e94cde2cffccde0ba36bdaab6e33"), looks := true }, kinds := [], alts := [], laidByText := true, laidKinds := [.data, .data, .pinned], laidTests := true, laidLooks := .later }
def TermStaysUptoCardSaid : Prop := Claim7.holds Tryd.pinned (.plain (OpenSpec.upto termStaysSpec)) termStaysUptoCard

/-- THE SECOND FORM's CARD OF 'typebarlaw07.TermParts'. -/
def termPartsUptoCard : Claim7 := { stood := { row := termPartsUptoRow, standIns := [], harness := (true, "17694acea35e14b3c4b8fed48a141b0935c6e94cde2cffccde0ba36bdaab6e33"), looks := true }, kinds := [], alts := [], laidByText := true, laidKinds := [.data, .data, .pinned], laidTests := true, laidLooks := .later }
def TermPartsUptoCardSaid : Prop := Claim7.holds Tryd.pinned (.plain (OpenSpec.upto termPartsSpec)) termPartsUptoCard

/-- THE SECOND FORM's CARD OF 'typebarlaw07.TermMoves'. -/
def termMovesUptoCard : Claim7 := { stood := { row := termMovesUptoRow, standIns := [], harness := (true, "17694acea35e14b3c4b8fed48a141b0935c6e94cde2cffccde0ba36bdaab6e33"), looks := true }, kinds := [], alts := [], laidByText := true, laidKinds := [.data, .data, .pinned], laidTests := true, laidLooks := .later }
def TermMovesUptoCardSaid : Prop := Claim7.holds Tryd.pinned (.plain (OpenSpec.upto termMovesSpec)) termMovesUptoCard

/-- THE SECOND FORM's CARD OF 'typebarlaw07.TermFills'. -/
def termFillsUptoCard : Claim7 := { stood := { row := termFillsUptoRow, standIns := [], harness := (true, "17694acea35e14b3c4b8fed48a141b0935c6e94cde2cffccde0ba36bdaab6e33"), looks := true }, kinds := [], alts := [], laidByText := true, laidKinds := [.data, .data, .pinned], laidTests := true, laidLooks := .later }
def TermFillsUptoCardSaid : Prop := Claim7.holds Tryd.pinned (.plain (OpenSpec.upto termFillsSpec)) termFillsUptoCard
end Rows
end Go.Proofs.YtplabpjkkcillaaDoor
