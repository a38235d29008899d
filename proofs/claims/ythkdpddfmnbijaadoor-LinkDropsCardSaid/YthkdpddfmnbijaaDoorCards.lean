/-
  DERIVED. GIVEN WITH THE SEED: THE CARDS: each row of YthkdpddfmnbijaaDoorRows.lean that lists a variable, with what it lists TIED to the program's text (the seventh form; the later family's looks); each row that meets fmt, with fmt's text TOLD by the authors' own Lean function (tested against real Go, not proved from fmt's source: count such statements apart). THE CARD IS WHAT COUNTS. Prove the row's statement (the work); the ties are given (YthkdpddfmnbijaaDoorTie.lean); close each card by the builder's one call (the guide's Derived/Test/ToyasCard.lean, 'card_holds'). Laid BY PROGRAM, IN A SANDBOX (cutbox-door.mjs). By AI agents, Wed Nov 11 2026. No macro, syntax, notation, axiom, sorry.
-/
import Derived.Test.YthkdpddfmnbijaaDoorRows
import GoSem.ClaimSeven
namespace Go.Proofs.YthkdpddfmnbijaaDoor
namespace Rows

/-- THE TIED CARD OF 'typebarlaw05.VtPuts'. -/
def vtPutsCard : Claim7 := { stood := { row := vtPutsRow, standIns := [], harness := (true, "3ee5a3bf9e184ae0d7cd41b2e7320394c8baa6041424d69980be7d2bd7bb0984"), looks := false }, kinds := [], alts := [], laidByText := true, laidKinds := [.data, .data, .data], laidTests := true, laidLooks := .later }
def VtPutsCardSaid : Prop := Claim7.holds Tryd.pinned (.plain (OpenSpec.ofChange vtPutsSpec)) vtPutsCard

/-- THE TIED CARD OF 'typebarlaw05.VtCosts'. -/
def vtCostsCard : Claim7 := { stood := { row := vtCostsRow, standIns := [], harness := (true, "3ee5a3bf9e184ae0d7cd41b2e7320394c8baa6041424d69980be7d2bd7bb0984"), looks := false }, kinds := [], alts := [], laidByText := true, laidKinds := [.data, .data, .data], laidTests := true, laidLooks := .later }
def VtCostsCardSaid : Prop := Claim7.holds Tryd.pinned (.plain (OpenSpec.ofChange vtCostsSpec)) vtCostsCard

/-- THE TIED CARD OF 'typebarlaw05.VtUnlike'. -/
def vtUnlikeCard : Claim7 := { stood := { row := vtUnlikeRow, standIns := [], harness := (true, "3ee5a3bf9e184ae0d7cd41b2e7320394c8baa6041424d69980be7d2bd7bb0984"), looks := false }, kinds := [], alts := [], laidByText := true, laidKinds := [.data, .data, .data], laidTests := true, laidLooks := .later }
def VtUnlikeCardSaid : Prop := Claim7.holds Tryd.pinned (.plain (OpenSpec.ofChange vtUnlikeSpec)) vtUnlikeCard

/-- THE TIED CARD OF 'typebarlaw05.VtShort'. -/
def vtShortCard : Claim7 := { stood := { row := vtShortRow, standIns := [], harness := (true, "3ee5a3bf9e184ae0d7cd41b2e7320394c8baa6041424d69980be7d2bd7bb0984"), looks := false }, kinds := [], alts := [], laidByText := true, laidKinds := [.data, .data, .data], laidTests := true, laidLooks := .later }
def VtShortCardSaid : Prop := Claim7.holds Tryd.pinned (.plain (OpenSpec.ofChange vtShortSpec)) vtShortCard

/-- THE TIED CARD OF 'typebarlaw05.VtSums'. -/
def vtSumsCard : Claim7 := { stood := { row := vtSumsRow, standIns := [], harness := (true, "3ee5a3bf9e184ae0d7cd41b2e7320394c8baa6041424d69980be7d2bd7bb0984"), looks := false }, kinds := [], alts := [], laidByText := true, laidKinds := [.data, .data, .data], laidTests := true, laidLooks := .later }
def VtSumsCardSaid : Prop := Claim7.holds Tryd.pinned (.plain (OpenSpec.ofChange vtSumsSpec)) vtSumsCard

/-- THE TIED CARD OF 'typebarlaw09.LinkOffers'. -/
def linkOffersCard : Claim7 := { stood := { row := linkOffersRow, standIns := [], harness := (true, "3ee5a3bf9e184ae0d7cd41b2e7320394c8baa6041424d69980be7d2bd7bb0984"), looks := false }, kinds := [], alts := [], laidByText := true, laidKinds := [.data, .data, .data], laidTests := true, laidLooks := .later }
def LinkOffersCardSaid : Prop := Claim7.holds Tryd.pinned (.plain (OpenSpec.ofChange linkOffersSpec)) linkOffersCard

/-- THE TIED CARD OF 'typebarlaw09.LinkSends'. -/
def linkSendsCard : Claim7 := { stood := { row := linkSendsRow, standIns := [], harness := (true, "3ee5a3bf9e184ae0d7cd41b2e7320394c8baa6041424d69980be7d2bd7bb0984"), looks := false }, kinds := [], alts := [], laidByText := true, laidKinds := [.data, .data, .data], laidTests := true, laidLooks := .later }
def LinkSendsCardSaid : Prop := Claim7.holds Tryd.pinned (.plain (OpenSpec.ofChange linkSendsSpec)) linkSendsCard

/-- THE TIED CARD OF 'typebarlaw09.LinkTurns'. -/
def linkTurnsCard : Claim7 := { stood := { row := linkTurnsRow, standIns := [], harness := (true, "3ee5a3bf9e184ae0d7cd41b2e7320394c8baa6041424d69980be7d2bd7bb0984"), looks := false }, kinds := [], alts := [], laidByText := true, laidKinds := [.data, .data, .data], laidTests := true, laidLooks := .later }
def LinkTurnsCardSaid : Prop := Claim7.holds Tryd.pinned (.plain (OpenSpec.ofChange linkTurnsSpec)) linkTurnsCard

/-- THE TIED CARD OF 'typebarlaw09.LinkStays'. -/
def linkStaysCard : Claim7 := { stood := { row := linkStaysRow, standIns := [], harness := (true, "3ee5a3bf9e184ae0d7cd41b2e7320394c8baa6041424d69980be7d2bd7bb0984"), looks := false }, kinds := [], alts := [], laidByText := true, laidKinds := [.data, .data, .data], laidTests := true, laidLooks := .later }
def LinkStaysCardSaid : Prop := Claim7.holds Tryd.pinned (.plain (OpenSpec.ofChange linkStaysSpec)) linkStaysCard

/-- THE TIED CARD OF 'typebarlaw09.LinkGrants'. -/
def linkGrantsCard : Claim7 := { stood := { row := linkGrantsRow, standIns := [], harness := (true, "3ee5a3bf9e184ae0d7cd41b2e7320394c8baa6041424d69980be7d2bd7bb0984"), looks := false }, kinds := [], alts := [], laidByText := true, laidKinds := [.data, .data, .data], laidTests := true, laidLooks := .later }
def LinkGrantsCardSaid : Prop := Claim7.holds Tryd.pinned (.plain (OpenSpec.ofChange linkGrantsSpec)) linkGrantsCard

/-- THE TIED CARD OF 'typebarlaw09.LinkParts'. -/
def linkPartsCard : Claim7 := { stood := { row := linkPartsRow, standIns := [], harness := (true, "3ee5a3bf9e184ae0d7cd41b2e7320394c8baa6041424d69980be7d2bd7bb0984"), looks := false }, kinds := [], alts := [], laidByText := true, laidKinds := [.data, .data, .data], laidTests := true, laidLooks := .later }
def LinkPartsCardSaid : Prop := Claim7.holds Tryd.pinned (.plain (OpenSpec.ofChange linkPartsSpec)) linkPartsCard

/-- THE TIED CARD OF 'typebarlaw09.LinkDrops'. -/
def linkDropsCard : Claim7 := { stood := { row := linkDropsRow, standIns := [], harness := (true, "3ee5a3bf9e184ae0d7cd41b2e7320394c8baa6041424d69980be7d2bd7bb0984"), looks := false }, kinds := [], alts := [], laidByText := true, laidKinds := [.data, .data, .data], laidTests := true, laidLooks := .later }
def LinkDropsCardSaid : Prop := Claim7.holds Tryd.pinned (.plain (OpenSpec.ofChange linkDropsSpec)) linkDropsCard

/-- THE SECOND FORM's CARD OF 'typebarlaw05.VtPuts'. -/
def vtPutsUptoCard : Claim7 := { stood := { row := vtPutsUptoRow, standIns := [], harness := (true, "3ee5a3bf9e184ae0d7cd41b2e7320394c8baa6041424d69980be7d2bd7bb0984"), looks := false }, kinds := [], alts := [], laidByText := true, laidKinds := [.data, .data, .data], laidTests := true, laidLooks := .later }
def VtPutsUptoCardSaid : Prop := Claim7.holds Tryd.pinned (.plain (OpenSpec.upto vtPutsSpec)) vtPutsUptoCard

/-- THE SECOND FORM's CARD OF 'typebarlaw05.VtCosts'. -/
def vtCostsUptoCard : Claim7 := { stood := { row := vtCostsUptoRow, standIns := [], harness := (true, "3ee5a3bf9e184ae0d7cd41b2e7320394c8baa6041424d69980be7d2bd7bb0984"), looks := false }, kinds := [], alts := [], laidByText := true, laidKinds := [.data, .data, .data], laidTests := true, laidLooks := .later }
def VtCostsUptoCardSaid : Prop := Claim7.holds Tryd.pinned (.plain (OpenSpec.upto vtCostsSpec)) vtCostsUptoCard

/-- THE SECOND FORM's CARD OF 'typebarlaw05.VtUnlike'. -/
def vtUnlikeUptoCard : Claim7 := { stood := { row := vtUnlikeUptoRow, standIns := [], harness := (true, "3ee5a3bf9e184ae0d7cd41b2e7320394c8baa6041424d69980be7d2bd7bb0984"), looks := false }, kinds := [], alts := [], laidByText := true, laidKinds := [.data, .data, .data], laidTests := true, laidLooks := .later }
def VtUnlikeUptoCardSaid : Prop := Claim7.holds Tryd.pinned (.plain (OpenSpec.upto vtUnlikeSpec)) vtUnlikeUptoCard

/-- THE SECOND FORM's CARD OF 'typebarlaw05.VtShort'. -/
def vtShortUptoCard : Claim7 := { stood := { row := vtShortUptoRow, standIns := [], harness := (true, "3ee5a3bf9e184ae0d7cd41b2e7320394c8baa6041424d69980be7d2bd7bb0984"), looks := false }, kinds := [], alts := [], laidByText := true, laidKinds := [.data, .data, .data], laidTests := true, laidLooks := .later }
def VtShortUptoCardSaid : Prop := Claim7.holds Tryd.pinned (.plain (OpenSpec.upto vtShortSpec)) vtShortUptoCard

/-- THE SECOND FORM's CARD OF 'typebarlaw05.VtSums'. -/
def vtSumsUptoCard : Claim7 := { stood := { row := vtSumsUptoRow, standIns := [], harness := (true, "3ee5a3bf9e184ae0d7cd41b2e7320394c8baa6041424d69980be7d2bd7bb0984"), looks := false }, kinds := [], alts := [], laidByText := true, laidKinds := [.data, .data, .data], laidTests := true, laidLooks := .later }
def VtSumsUptoCardSaid : Prop := Claim7.holds Tryd.pinned (.plain (OpenSpec.upto vtSumsSpec)) vtSumsUptoCard

/-- THE SECOND FORM's CARD OF 'typebarlaw09.LinkOffers'. -/
def linkOffersUptoCard : Claim7 := { stood := { row := linkOffersUptoRow, standIns := [], harness := (true, "3ee5a3bf9e184ae0d7cd41b2e7320394c8baa6041424d69980be7d2bd7bb0984"), looks := false }, kinds := [], alts := [], laidByText := true, laidKinds := [.data, .data, .data], laidTests := true, laidLooks := .later }
def LinkOffersUptoCardSaid : Prop := Claim7.holds Tryd.pinned (.plain (OpenSpec.upto linkOffersSpec)) linkOffersUptoCard

/-- THE SECOND FORM's CARD OF 'typebarlaw09.LinkSends'. -/
def linkSendsUptoCard : Claim7 := { stood := { row := linkSendsUptoRow, standIns := [], harness := (true, "3ee5a3bf9e184ae0d7cd41b2e7320394c8baa6041424d69980be7d2bd7bb0984"), looks := false }, kinds := [], alts := [], laidByText := true, laidKinds := [.data, .data, .data], laidTests := true, laidLooks := .later }
def LinkSendsUptoCardSaid : Prop := Claim7.holds Tryd.pinned (.plain (OpenSpec.upto linkSendsSpec)) linkSendsUptoCard

/-- THE SECOND FORM's CARD OF 'typebarlaw09.LinkTurns'. -/
def linkTurnsUptoCard : Claim7 := { stood := { row := linkTurnsUptoRow, standIns := [], harness := (true, "3ee5a3bf9e184ae0d7cd41b2e7320394c8baa6041424d69980be7d2bd7bb0984"), looks := false }, kinds := [], alts := [], laidByText := true, laidKinds := [.data, .data, .data], laidTests := true, laidLooks := .later }
def LinkTurnsUptoCardSaid : Prop := Claim7.holds Tryd.pinned (.plain (OpenSpec.upto linkTurnsSpec)) linkTurnsUptoCard

/-- THE SECOND FORM's CARD OF 'typebarlaw09.LinkStays'. -/
def linkStaysUptoCard : Claim7 := { stood := { row := linkStaysUptoRow, standIns := [], harness := (true, "3ee5a3bf9e184ae0d7cd41b2e7320394c8baa6041424d69980be7d2bd7bb0984"), looks := false }, kinds := [], alts := [], laidByText := true, laidKinds := [.data, .data, .data], laidTests := true, laidLooks := .later }
def LinkStaysUptoCardSaid : Prop := Claim7.holds Tryd.pinned (.plain (OpenSpec.upto linkStaysSpec)) linkStaysUptoCard

/-- THE SECOND FORM's CARD OF 'typebarlaw09.LinkGrants'. -/
def linkGrantsUptoCard : Claim7 := { stood := { row := linkGrantsUptoRow, standIns := [], harness := (true, "3ee5a3bf9e184ae0d7cd41b2e7320394c8baa6041424d69980be7d2bd7bb0984"), looks := false }, kinds := [], alts := [], laidByText := true, laidKinds := [.data, .data, .data], laidTests := true, laidLooks := .later }
def LinkGrantsUptoCardSaid : Prop := Claim7.holds Tryd.pinned (.plain (OpenSpec.upto linkGrantsSpec)) linkGrantsUptoCard

/-- THE SECOND FORM's CARD OF 'typebarlaw09.LinkParts'. -/
def linkPartsUptoCard : Claim7 := { stood := { row := linkPartsUptoRow, standIns := [], harness := (true, "3ee5a3bf9e184ae0d7cd41b2e7320394c8baa6041424d69980be7d2bd7bb0984"), looks := false }, kinds := [], alts := [], laidByText := true, laidKinds := [.data, .data, .data], laidTests := true, laidLooks := .later }
def LinkPartsUptoCardSaid : Prop := Claim7.holds Tryd.pinned (.plain (OpenSpec.upto linkPartsSpec)) linkPartsUptoCard

/-- THE SECOND FORM's CARD OF 'typebarlaw09.LinkDrops'. -/
def linkDropsUptoCard : Claim7 := { stood := { row := linkDropsUptoRow, standIns := [], harness := (true, "3ee5a3bf9e184ae0d7cd41b2e7320394c8baa6041424d69980be7d2bd7bb0984"), looks := false }, kinds := [], alts := [], laidByText := true, laidKinds := [.data, .data, .data], laidTests := true, laidLooks := .later }
def LinkDropsUptoCardSaid : Prop := Claim7.holds Tryd.pinned (.plain (OpenSpec.upto linkDropsSpec)) linkDropsUptoCard
end Rows
end Go.Proofs.YthkdpddfmnbijaaDoor
