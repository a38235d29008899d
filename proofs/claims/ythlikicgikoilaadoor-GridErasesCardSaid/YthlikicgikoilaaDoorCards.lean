/-
  DERIVED. GIVEN WITH THE SEED: THE CARDS: each row of YthlikicgikoilaaDoorRows.lean that lists a variable, with what it lists TIED to the program's text (the seventh form; the later family's looks); each row that meets fmt, with fmt's text TOLD by the authors' own Lean function (tested against real Go, not proved from fmt's source: count such statements apart). THE CARD IS WHAT COUNTS. Prove the row's statement (the work); the ties are given (YthlikicgikoilaaDoorTie.lean); close each card by the builder's one call (the guide's Derived/Test/ToyasCard.lean, 'card_holds'). Laid BY PROGRAM, IN A SANDBOX (cutbox-door.mjs). By AI agents, Wed Nov 11 2026. No macro, syntax, notation, axiom, sorry.
-/
import Derived.Test.YthlikicgikoilaaDoorRows
import GoSem.ClaimSeven
namespace Go.Proofs.YthlikicgikoilaaDoor
namespace Rows

/-- THE TIED CARD OF 'typebarlaw03.GridNews'. -/
def gridNewsCard : Claim7 := { stood := { row := gridNewsRow, standIns := [], harness := (true, "d7d8f0b04fd7f37bb43d2ff5233cc4b1316b5d7270fc9a4db6a20689d52556db"), looks := false }, kinds := [], alts := [], laidByText := true, laidKinds := [.data], laidTests := true, laidLooks := .later }
def GridNewsCardSaid : Prop := Claim7.holds Tryd.pinned (.plain (OpenSpec.ofChange gridNewsSpec)) gridNewsCard

/-- THE TIED CARD OF 'typebarlaw03.GridPuts'. -/
def gridPutsCard : Claim7 := { stood := { row := gridPutsRow, standIns := [], harness := (true, "d7d8f0b04fd7f37bb43d2ff5233cc4b1316b5d7270fc9a4db6a20689d52556db"), looks := false }, kinds := [], alts := [], laidByText := true, laidKinds := [.data], laidTests := true, laidLooks := .later }
def GridPutsCardSaid : Prop := Claim7.holds Tryd.pinned (.plain (OpenSpec.ofChange gridPutsSpec)) gridPutsCard

/-- THE TIED CARD OF 'typebarlaw03.GridBlanks'. -/
def gridBlanksCard : Claim7 := { stood := { row := gridBlanksRow, standIns := [], harness := (true, "d7d8f0b04fd7f37bb43d2ff5233cc4b1316b5d7270fc9a4db6a20689d52556db"), looks := false }, kinds := [], alts := [], laidByText := true, laidKinds := [.data], laidTests := true, laidLooks := .later }
def GridBlanksCardSaid : Prop := Claim7.holds Tryd.pinned (.plain (OpenSpec.ofChange gridBlanksSpec)) gridBlanksCard

/-- THE TIED CARD OF 'typebarlaw03.GridFits'. -/
def gridFitsCard : Claim7 := { stood := { row := gridFitsRow, standIns := [], harness := (true, "d7d8f0b04fd7f37bb43d2ff5233cc4b1316b5d7270fc9a4db6a20689d52556db"), looks := false }, kinds := [], alts := [], laidByText := true, laidKinds := [.data], laidTests := true, laidLooks := .later }
def GridFitsCardSaid : Prop := Claim7.holds Tryd.pinned (.plain (OpenSpec.ofChange gridFitsSpec)) gridFitsCard

/-- THE TIED CARD OF 'typebarlaw03.GridStays'. -/
def gridStaysCard : Claim7 := { stood := { row := gridStaysRow, standIns := [], harness := (true, "d7d8f0b04fd7f37bb43d2ff5233cc4b1316b5d7270fc9a4db6a20689d52556db"), looks := false }, kinds := [], alts := [], laidByText := true, laidKinds := [.data], laidTests := true, laidLooks := .later }
def GridStaysCardSaid : Prop := Claim7.holds Tryd.pinned (.plain (OpenSpec.ofChange gridStaysSpec)) gridStaysCard

/-- THE TIED CARD OF 'typebarlaw03.GridOnly'. -/
def gridOnlyCard : Claim7 := { stood := { row := gridOnlyRow, standIns := [], harness := (true, "d7d8f0b04fd7f37bb43d2ff5233cc4b1316b5d7270fc9a4db6a20689d52556db"), looks := false }, kinds := [], alts := [], laidByText := true, laidKinds := [.data], laidTests := true, laidLooks := .later }
def GridOnlyCardSaid : Prop := Claim7.holds Tryd.pinned (.plain (OpenSpec.ofChange gridOnlySpec)) gridOnlyCard

/-- THE TIED CARD OF 'typebarlaw03.GridErases'. -/
def gridErasesCard : Claim7 := { stood := { row := gridErasesRow, standIns := [], harness := (true, "d7d8f0b04fd7f37bb43d2ff5233cc4b1316b5d7270fc9a4db6a20689d52556db"), looks := false }, kinds := [], alts := [], laidByText := true, laidKinds := [.data], laidTests := true, laidLooks := .later }
def GridErasesCardSaid : Prop := Claim7.holds Tryd.pinned (.plain (OpenSpec.ofChange gridErasesSpec)) gridErasesCard

/-- THE SECOND FORM's CARD OF 'typebarlaw03.GridNews'. -/
def gridNewsUptoCard : Claim7 := { stood := { row := gridNewsUptoRow, standIns := [], harness := (true, "d7d8f0b04fd7f37bb43d2ff5233cc4b1316b5d7270fc9a4db6a20689d52556db"), looks := false }, kinds := [], alts := [], laidByText := true, laidKinds := [.data], laidTests := true, laidLooks := .later }
def GridNewsUptoCardSaid : Prop := Claim7.holds Tryd.pinned (.plain (OpenSpec.upto gridNewsSpec)) gridNewsUptoCard

/-- THE SECOND FORM's CARD OF 'typebarlaw03.GridPuts'. -/
def gridPutsUptoCard : Claim7 := { stood := { row := gridPutsUptoRow, standIns := [], harness := (true, "d7d8f0b04fd7f37bb43d2ff5233cc4b1316b5d7270fc9a4db6a20689d52556db"), looks := false }, kinds := [], alts := [], laidByText := true, laidKinds := [.data], laidTests := true, laidLooks := .later }
def GridPutsUptoCardSaid : Prop := Claim7.holds Tryd.pinned (.plain (OpenSpec.upto gridPutsSpec)) gridPutsUptoCard

/-- THE SECOND FORM's CARD OF 'typebarlaw03.GridBlanks'. -/
def gridBlanksUptoCard : Claim7 := { stood := { row := gridBlanksUptoRow, standIns := [], harness := (true, "d7d8f0b04fd7f37bb43d2ff5233cc4b1316b5d7270fc9a4db6a20689d52556db"), looks := false }, kinds := [], alts := [], laidByText := true, laidKinds := [.data], laidTests := true, laidLooks := .later }
def GridBlanksUptoCardSaid : Prop := Claim7.holds Tryd.pinned (.plain (OpenSpec.upto gridBlanksSpec)) gridBlanksUptoCard

/-- THE SECOND FORM's CARD OF 'typebarlaw03.GridFits'. -/
def gridFitsUptoCard : Claim7 := { stood := { row := gridFitsUptoRow, standIns := [], harness := (true, "d7d8f0b04fd7f37bb43d2ff5233cc4b1316b5d7270fc9a4db6a20689d52556db"), looks := false }, kinds := [], alts := [], laidByText := true, laidKinds := [.data], laidTests := true, laidLooks := .later }
def GridFitsUptoCardSaid : Prop := Claim7.holds Tryd.pinned (.plain (OpenSpec.upto gridFitsSpec)) gridFitsUptoCard

/-- THE SECOND FORM's CARD OF 'typebarlaw03.GridStays'. -/
def gridStaysUptoCard : Claim7 := { stood := { row := gridStaysUptoRow, standIns := [], harness := (true, "d7d8f0b04fd7f37bb43d2ff5233cc4b1316b5d7270fc9a4db6a20689d52556db"), looks := false }, kinds := [], alts := [], laidByText := true, laidKinds := [.data], laidTests := true, laidLooks := .later }
def GridStaysUptoCardSaid : Prop := Claim7.holds Tryd.pinned (.plain (OpenSpec.upto gridStaysSpec)) gridStaysUptoCard

/-- THE SECOND FORM's CARD OF 'typebarlaw03.GridOnly'. -/
def gridOnlyUptoCard : Claim7 := { stood := { row := gridOnlyUptoRow, standIns := [], harness := (true, "d7d8f0b04fd7f37bb43d2ff5233cc4b1316b5d7270fc9a4db6a20689d52556db"), looks := false }, kinds := [], alts := [], laidByText := true, laidKinds := [.data], laidTests := true, laidLooks := .later }
def GridOnlyUptoCardSaid : Prop := Claim7.holds Tryd.pinned (.plain (OpenSpec.upto gridOnlySpec)) gridOnlyUptoCard

/-- THE SECOND FORM's CARD OF 'typebarlaw03.GridErases'. -/
def gridErasesUptoCard : Claim7 := { stood := { row := gridErasesUptoRow, standIns := [], harness := (true, "d7d8f0b04fd7f37bb43d2ff5233cc4b1316b5d7270fc9a4db6a20689d52556db"), looks := false }, kinds := [], alts := [], laidByText := true, laidKinds := [.data], laidTests := true, laidLooks := .later }
def GridErasesUptoCardSaid : Prop := Claim7.holds Tryd.pinned (.plain (OpenSpec.upto gridErasesSpec)) gridErasesUptoCard
end Rows
end Go.Proofs.YthlikicgikoilaaDoor
