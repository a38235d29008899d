/-
  DERIVED. GIVEN WITH THE SEED: THE CARDS: each row of YtdnoealpchehlaaDoorRows.lean that lists a variable, with what it lists TIED to the program's text (the seventh form; the later family's looks); each row that meets fmt, with fmt's text TOLD by the authors' own Lean function (tested against real Go, not proved from fmt's source: count such statements apart). THE CARD IS WHAT COUNTS. Prove the row's statement (the work); the ties are given (YtdnoealpchehlaaDoorTie.lean); close each card by the builder's one call (the guide's Derived/Test/ToyasCard.lean, 'card_holds'). Laid BY PROGRAM, IN A SANDBOX (cutbox-door.mjs). By AI agents, Wed Nov 11 2026. No macro, syntax, notation, axiom, sorry.
-/
import Derived.Test.YtdnoealpchehlaaDoorRows
import GoSem.ClaimSeven
namespace Go.Proofs.YtdnoealpchehlaaDoor
namespace Rows

/-- THE TIED CARD OF 'typebarlaw02.WideCells'. -/
def wideCellsCard : Claim7 := { stood := { row := wideCellsRow, standIns := [], harness := (true, "cdc9134b8e3b8f7ec1938447ba71e892715bc05d75f8dd6379528a6ab8393fad"), looks := false }, kinds := [], alts := [], laidByText := true, laidKinds := [.data], laidTests := true, laidLooks := .later }
def WideCellsCardSaid : Prop := Claim7.holds Tryd.pinned (.plain (OpenSpec.ofChange wideCellsSpec)) wideCellsCard

/-- THE TIED CARD OF 'typebarlaw02.WideIs'. -/
def wideIsCard : Claim7 := { stood := { row := wideIsRow, standIns := [], harness := (true, "cdc9134b8e3b8f7ec1938447ba71e892715bc05d75f8dd6379528a6ab8393fad"), looks := false }, kinds := [], alts := [], laidByText := true, laidKinds := [.data], laidTests := true, laidLooks := .later }
def WideIsCardSaid : Prop := Claim7.holds Tryd.pinned (.plain (OpenSpec.ofChange wideIsSpec)) wideIsCard

/-- THE TIED CARD OF 'typebarlaw02.WideRows'. -/
def wideRowsCard : Claim7 := { stood := { row := wideRowsRow, standIns := [], harness := (true, "cdc9134b8e3b8f7ec1938447ba71e892715bc05d75f8dd6379528a6ab8393fad"), looks := false }, kinds := [], alts := [], laidByText := true, laidKinds := [.data], laidTests := true, laidLooks := .later }
def WideRowsCardSaid : Prop := Claim7.holds Tryd.pinned (.plain (OpenSpec.ofChange wideRowsSpec)) wideRowsCard

/-- THE TIED CARD OF 'typebarlaw02.WideJoins'. -/
def wideJoinsCard : Claim7 := { stood := { row := wideJoinsRow, standIns := [], harness := (true, "cdc9134b8e3b8f7ec1938447ba71e892715bc05d75f8dd6379528a6ab8393fad"), looks := false }, kinds := [], alts := [], laidByText := true, laidKinds := [.data], laidTests := true, laidLooks := .later }
def WideJoinsCardSaid : Prop := Claim7.holds Tryd.pinned (.plain (OpenSpec.ofChange wideJoinsSpec)) wideJoinsCard

/-- THE TIED CARD OF 'typebarlaw02.WideHalves'. -/
def wideHalvesCard : Claim7 := { stood := { row := wideHalvesRow, standIns := [], harness := (true, "cdc9134b8e3b8f7ec1938447ba71e892715bc05d75f8dd6379528a6ab8393fad"), looks := false }, kinds := [], alts := [], laidByText := true, laidKinds := [.data], laidTests := true, laidLooks := .later }
def WideHalvesCardSaid : Prop := Claim7.holds Tryd.pinned (.plain (OpenSpec.ofChange wideHalvesSpec)) wideHalvesCard

/-- THE TIED CARD OF 'typebarlaw04.FlowDoes'. -/
def flowDoesCard : Claim7 := { stood := { row := flowDoesRow, standIns := [], harness := (true, "cdc9134b8e3b8f7ec1938447ba71e892715bc05d75f8dd6379528a6ab8393fad"), looks := false }, kinds := [], alts := [], laidByText := true, laidKinds := [.data], laidTests := true, laidLooks := .later }
def FlowDoesCardSaid : Prop := Claim7.holds Tryd.pinned (.plain (OpenSpec.ofChange flowDoesSpec)) flowDoesCard

/-- THE TIED CARD OF 'typebarlaw04.FlowLays'. -/
def flowLaysCard : Claim7 := { stood := { row := flowLaysRow, standIns := [], harness := (true, "cdc9134b8e3b8f7ec1938447ba71e892715bc05d75f8dd6379528a6ab8393fad"), looks := false }, kinds := [], alts := [], laidByText := true, laidKinds := [.data], laidTests := true, laidLooks := .later }
def FlowLaysCardSaid : Prop := Claim7.holds Tryd.pinned (.plain (OpenSpec.ofChange flowLaysSpec)) flowLaysCard

/-- THE TIED CARD OF 'typebarlaw04.FlowCells'. -/
def flowCellsCard : Claim7 := { stood := { row := flowCellsRow, standIns := [], harness := (true, "cdc9134b8e3b8f7ec1938447ba71e892715bc05d75f8dd6379528a6ab8393fad"), looks := false }, kinds := [], alts := [], laidByText := true, laidKinds := [.data], laidTests := true, laidLooks := .later }
def FlowCellsCardSaid : Prop := Claim7.holds Tryd.pinned (.plain (OpenSpec.ofChange flowCellsSpec)) flowCellsCard

/-- THE TIED CARD OF 'typebarlaw04.FlowWhole'. -/
def flowWholeCard : Claim7 := { stood := { row := flowWholeRow, standIns := [], harness := (true, "cdc9134b8e3b8f7ec1938447ba71e892715bc05d75f8dd6379528a6ab8393fad"), looks := false }, kinds := [], alts := [], laidByText := true, laidKinds := [.data], laidTests := true, laidLooks := .later }
def FlowWholeCardSaid : Prop := Claim7.holds Tryd.pinned (.plain (OpenSpec.ofChange flowWholeSpec)) flowWholeCard

/-- THE TIED CARD OF 'typebarlaw04.FlowJoins'. -/
def flowJoinsCard : Claim7 := { stood := { row := flowJoinsRow, standIns := [], harness := (true, "cdc9134b8e3b8f7ec1938447ba71e892715bc05d75f8dd6379528a6ab8393fad"), looks := false }, kinds := [], alts := [], laidByText := true, laidKinds := [.data], laidTests := true, laidLooks := .later }
def FlowJoinsCardSaid : Prop := Claim7.holds Tryd.pinned (.plain (OpenSpec.ofChange flowJoinsSpec)) flowJoinsCard

/-- THE TIED CARD OF 'typebarlaw04.FlowShows'. -/
def flowShowsCard : Claim7 := { stood := { row := flowShowsRow, standIns := [], harness := (true, "cdc9134b8e3b8f7ec1938447ba71e892715bc05d75f8dd6379528a6ab8393fad"), looks := false }, kinds := [], alts := [], laidByText := true, laidKinds := [.data], laidTests := true, laidLooks := .later }
def FlowShowsCardSaid : Prop := Claim7.holds Tryd.pinned (.plain (OpenSpec.ofChange flowShowsSpec)) flowShowsCard

/-- THE SECOND FORM's CARD OF 'typebarlaw02.WideCells'. -/
def wideCellsUptoCard : Claim7 := { stood := { row := wideCellsUptoRow, standIns := [], harness := (true, "cdc9134b8e3b8f7ec1938447ba71e892715bc05d75f8dd6379528a6ab8393fad"), looks := false }, kinds := [], alts := [], laidByText := true, laidKinds := [.data], laidTests := true, laidLooks := .later }
def WideCellsUptoCardSaid : Prop := Claim7.holds Tryd.pinned (.plain (OpenSpec.upto wideCellsSpec)) wideCellsUptoCard

/-- THE SECOND FORM's CARD OF 'typebarlaw02.WideIs'. -/
def wideIsUptoCard : Claim7 := { stood := { row := wideIsUptoRow, standIns := [], harness := (true, "cdc9134b8e3b8f7ec1938447ba71e892715bc05d75f8dd6379528a6ab8393fad"), looks := false }, kinds := [], alts := [], laidByText := true, laidKinds := [.data], laidTests := true, laidLooks := .later }
def WideIsUptoCardSaid : Prop := Claim7.holds Tryd.pinned (.plain (OpenSpec.upto wideIsSpec)) wideIsUptoCard

/-- THE SECOND FORM's CARD OF 'typebarlaw02.WideRows'. -/
def wideRowsUptoCard : Claim7 := { stood := { row := wideRowsUptoRow, standIns := [], harness := (true, "cdc9134b8e3b8f7ec1938447ba71e892715bc05d75f8dd6379528a6ab8393fad"), looks := false }, kinds := [], alts := [], laidByText := true, laidKinds := [.data], laidTests := true, laidLooks := .later }
def WideRowsUptoCardSaid : Prop := Claim7.holds Tryd.pinned (.plain (OpenSpec.upto wideRowsSpec)) wideRowsUptoCard

/-- THE SECOND FORM's CARD OF 'typebarlaw02.WideJoins'. -/
def wideJoinsUptoCard : Claim7 := { stood := { row := wideJoinsUptoRow, standIns := [], harness := (true, "cdc9134b8e3b8f7ec1938447ba71e892715bc05d75f8dd6379528a6ab8393fad"), looks := false }, kinds := [], alts := [], laidByText := true, laidKinds := [.data], laidTests := true, laidLooks := .later }
def WideJoinsUptoCardSaid : Prop := Claim7.holds Tryd.pinned (.plain (OpenSpec.upto wideJoinsSpec)) wideJoinsUptoCard

/-- THE SECOND FORM's CARD OF 'typebarlaw02.WideHalves'. -/
def wideHalvesUptoCard : Claim7 := { stood := { row := wideHalvesUptoRow, standIns := [], harness := (true, "cdc9134b8e3b8f7ec1938447ba71e892715bc05d75f8dd6379528a6ab8393fad"), looks := false }, kinds := [], alts := [], laidByText := true, laidKinds := [.data], laidTests := true, laidLooks := .later }
def WideHalvesUptoCardSaid : Prop := Claim7.holds Tryd.pinned (.plain (OpenSpec.upto wideHalvesSpec)) wideHalvesUptoCard

/-- THE SECOND FORM's CARD OF 'typebarlaw04.FlowDoes'. -/
def flowDoesUptoCard : Claim7 := { stood := { row := flowDoesUptoRow, standIns := [], harness := (true, "cdc9134b8e3b8f7ec1938447ba71e892715bc05d75f8dd6379528a6ab8393fad"), looks := false }, kinds := [], alts := [], laidByText := true, laidKinds := [.data], laidTests := true, laidLooks := .later }
def FlowDoesUptoCardSaid : Prop := Claim7.holds Tryd.pinned (.plain (OpenSpec.upto flowDoesSpec)) flowDoesUptoCard

/-- THE SECOND FORM's CARD OF 'typebarlaw04.FlowLays'. -/
def flowLaysUptoCard : Claim7 := { stood := { row := flowLaysUptoRow, standIns := [], harness := (true, "cdc9134b8e3b8f7ec1938447ba71e892715bc05d75f8dd6379528a6ab8393fad"), looks := false }, kinds := [], alts := [], laidByText := true, laidKinds := [.data], laidTests := true, laidLooks := .later }
def FlowLaysUptoCardSaid : Prop := Claim7.holds Tryd.pinned (.plain (OpenSpec.upto flowLaysSpec)) flowLaysUptoCard

/-- THE SECOND FORM's CARD OF 'typebarlaw04.FlowCells'. -/
def flowCellsUptoCard : Claim7 := { stood := { row := flowCellsUptoRow, standIns := [], harness := (true, "cdc9134b8e3b8f7ec1938447ba71e892715bc05d75f8dd6379528a6ab8393fad"), looks := false }, kinds := [], alts := [], laidByText := true, laidKinds := [.data], laidTests := true, laidLooks := .later }
def FlowCellsUptoCardSaid : Prop := Claim7.holds Tryd.pinned (.plain (OpenSpec.upto flowCellsSpec)) flowCellsUptoCard

/-- THE SECOND FORM's CARD OF 'typebarlaw04.FlowWhole'. -/
def flowWholeUptoCard : Claim7 := { stood := { row := flowWholeUptoRow, standIns := [], harness := (true, "cdc9134b8e3b8f7ec1938447ba71e892715bc05d75f8dd6379528a6ab8393fad"), looks := false }, kinds := [], alts := [], laidByText := true, laidKinds := [.data], laidTests := true, laidLooks := .later }
def FlowWholeUptoCardSaid : Prop := Claim7.holds Tryd.pinned (.plain (OpenSpec.upto flowWholeSpec)) flowWholeUptoCard

/-- THE SECOND FORM's CARD OF 'typebarlaw04.FlowJoins'. -/
def flowJoinsUptoCard : Claim7 := { stood := { row := flowJoinsUptoRow, standIns := [], harness := (true, "cdc9134b8e3b8f7ec1938447ba71e892715bc05d75f8dd6379528a6ab8393fad"), looks := false }, kinds := [], alts := [], laidByText := true, laidKinds := [.data], laidTests := true, laidLooks := .later }
def FlowJoinsUptoCardSaid : Prop := Claim7.holds Tryd.pinned (.plain (OpenSpec.upto flowJoinsSpec)) flowJoinsUptoCard

/-- THE SECOND FORM's CARD OF 'typebarlaw04.FlowShows'. -/
def flowShowsUptoCard : Claim7 := { stood := { row := flowShowsUptoRow, standIns := [], harness := (true, "cdc9134b8e3b8f7ec1938447ba71e892715bc05d75f8dd6379528a6ab8393fad"), looks := false }, kinds := [], alts := [], laidByText := true, laidKinds := [.data], laidTests := true, laidLooks := .later }
def FlowShowsUptoCardSaid : Prop := Claim7.holds Tryd.pinned (.plain (OpenSpec.upto flowShowsSpec)) flowShowsUptoCard
end Rows
end Go.Proofs.YtdnoealpchehlaaDoor
