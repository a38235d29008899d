/-
  DERIVED. GIVEN WITH THE SEED: THE CARDS: each row of YtockidoncngdbaaDoorRows.lean that lists a variable, with what it lists TIED to the program's text (the seventh form; the later family's looks); each row that meets fmt, with fmt's text TOLD by the authors' own Lean function (tested against real Go, not proved from fmt's source: count such statements apart). THE CARD IS WHAT COUNTS. Prove the row's statement (the work); the ties are given (YtockidoncngdbaaDoorTie.lean); close each card by the builder's one call (the guide's Derived/Test/ToyasCard.lean, 'card_holds'). Laid BY PROGRAM, IN A SANDBOX (cutbox-door.mjs). By AI agents, Wed Nov 11 2026. No macro, syntax, notation, axiom, sorry.
-/
import Derived.Test.YtockidoncngdbaaDoorRows
import GoSem.ClaimSeven
namespace Go.Proofs.YtockidoncngdbaaDoor
namespace Rows

/-- THE TIED CARD OF 'typebarlaw28.MotionDoes'. -/
def motionDoesCard : Claim7 := { stood := { row := motionDoesRow, standIns := [], harness := (true, "b9de4fda796d9fc6b308a323e0ba728acc3e7547ee6540235ceedaa6c5a4acad"), looks := true }, kinds := [], alts := [], laidByText := true, laidKinds := [.data, .data, .data, .data], laidTests := true, laidLooks := .later }
def MotionDoesCardSaid : Prop := Claim7.holds Tryd.pinned (.plain (OpenSpec.ofChange motionDoesSpec)) motionDoesCard

/-- THE TIED CARD OF 'typebarlaw28.MotionLeast'. -/
def motionLeastCard : Claim7 := { stood := { row := motionLeastRow, standIns := [], harness := (true, "b9de4fda796d9fc6b308a323e0ba728acc3e7547ee6540235ceedaa6c5a4acad"), looks := true }, kinds := [], alts := [], laidByText := true, laidKinds := [.data, .data, .data, .data], laidTests := true, laidLooks := .later }
def MotionLeastCardSaid : Prop := Claim7.holds Tryd.pinned (.plain (OpenSpec.ofChange motionLeastSpec)) motionLeastCard

/-- THE TIED CARD OF 'typebarlaw28.MotionLeads'. -/
def motionLeadsCard : Claim7 := { stood := { row := motionLeadsRow, standIns := [], harness := (true, "b9de4fda796d9fc6b308a323e0ba728acc3e7547ee6540235ceedaa6c5a4acad"), looks := true }, kinds := [], alts := [], laidByText := true, laidKinds := [.data, .data, .data, .data], laidTests := true, laidLooks := .later }
def MotionLeadsCardSaid : Prop := Claim7.holds Tryd.pinned (.plain (OpenSpec.ofChange motionLeadsSpec)) motionLeadsCard

/-- THE TIED CARD OF 'typebarlaw27.BeliefNews'. -/
def beliefNewsCard : Claim7 := { stood := { row := beliefNewsRow, standIns := [], harness := (true, "b9de4fda796d9fc6b308a323e0ba728acc3e7547ee6540235ceedaa6c5a4acad"), looks := true }, kinds := [], alts := [], laidByText := true, laidKinds := [.data, .data, .pinned], laidTests := true, laidLooks := .later }
def BeliefNewsCardSaid : Prop := Claim7.holds Tryd.pinned (.plain (OpenSpec.ofChange beliefNewsSpec)) beliefNewsCard

/-- THE TIED CARD OF 'typebarlaw27.BeliefMarks'. -/
def beliefMarksCard : Claim7 := { stood := { row := beliefMarksRow, standIns := [], harness := (true, "b9de4fda796d9fc6b308a323e0ba728acc3e7547ee6540235ceedaa6c5a4acad"), looks := true }, kinds := [], alts := [], laidByText := true, laidKinds := [.data, .data, .pinned], laidTests := true, laidLooks := .later }
def BeliefMarksCardSaid : Prop := Claim7.holds Tryd.pinned (.plain (OpenSpec.ofChange beliefMarksSpec)) beliefMarksCard

/-- THE TIED CARD OF 'typebarlaw27.BeliefSound'. -/
def beliefSoundCard : Claim7 := { stood := { row := beliefSoundRow, standIns := [], harness := (true, "b9de4fda796d9fc6b308a323e0ba728acc3e7547ee6540235ceedaa6c5a4acad"), looks := true }, kinds := [], alts := [], laidByText := true, laidKinds := [.data, .data, .pinned], laidTests := true, laidLooks := .later }
def BeliefSoundCardSaid : Prop := Claim7.holds Tryd.pinned (.plain (OpenSpec.ofChange beliefSoundSpec)) beliefSoundCard

/-- THE TIED CARD OF 'typebarlaw27.BeliefRuns'. -/
def beliefRunsCard : Claim7 := { stood := { row := beliefRunsRow, standIns := [], harness := (true, "b9de4fda796d9fc6b308a323e0ba728acc3e7547ee6540235ceedaa6c5a4acad"), looks := true }, kinds := [], alts := [], laidByText := true, laidKinds := [.data, .data, .pinned], laidTests := true, laidLooks := .later }
def BeliefRunsCardSaid : Prop := Claim7.holds Tryd.pinned (.plain (OpenSpec.ofChange beliefRunsSpec)) beliefRunsCard

/-- THE TIED CARD OF 'typebarlaw27.BeliefTouched'. -/
def beliefTouchedCard : Claim7 := { stood := { row := beliefTouchedRow, standIns := [], harness := (true, "b9de4fda796d9fc6b308a323e0ba728acc3e7547ee6540235ceedaa6c5a4acad"), looks := true }, kinds := [], alts := [], laidByText := true, laidKinds := [.data, .data, .pinned], laidTests := true, laidLooks := .later }
def BeliefTouchedCardSaid : Prop := Claim7.holds Tryd.pinned (.plain (OpenSpec.ofChange beliefTouchedSpec)) beliefTouchedCard

/-- THE TIED CARD OF 'typebarlaw27.BeliefForgets'. -/
def beliefForgetsCard : Claim7 := { stood := { row := beliefForgetsRow, standIns := [], harness := (true, "b9de4fda796d9fc6b308a323e0ba728acc3e7547ee6540235ceedaa6c5a4acad"), looks := true }, kinds := [], alts := [], laidByText := true, laidKinds := [.data, .data, .pinned], laidTests := true, laidLooks := .later }
def BeliefForgetsCardSaid : Prop := Claim7.holds Tryd.pinned (.plain (OpenSpec.ofChange beliefForgetsSpec)) beliefForgetsCard

/-- THE SECOND FORM's CARD OF 'typebarlaw28.MotionDoes'. -/
def motionDoesUptoCard : Claim7 := { stood := { row := motionDoesUptoRow, standIns := [], harness := (true, "b9de4fda796d9fc6b308a323e0ba728acc3e7547ee6540235ceedaa6c5a4acad"), looks := true }, kinds := [], alts := [], laidByText := true, laidKinds := [.data, .data, .data, .data], laidTests := true, laidLooks := .later }
def MotionDoesUptoCardSaid : Prop := Claim7.holds Tryd.pinned (.plain (OpenSpec.upto motionDoesSpec)) motionDoesUptoCard

/-- THE SECOND FORM's CARD OF 'typebarlaw28.MotionLeast'. -/
def motionLeastUptoCard : Claim7 := { stood := { row := motionLeastUptoRow, standIns := [], harness := (true, "b9de4fda796d9fc6b308a323e0ba728acc3e7547ee6540235ceedaa6c5a4acad"), looks := true }, kinds := [], alts := [], laidByText := true, laidKinds := [.data, .data, .data, .data], laidTests := true, laidLooks := .later }
def MotionLeastUptoCardSaid : Prop := Claim7.holds Tryd.pinned (.plain (OpenSpec.upto motionLeastSpec)) motionLeastUptoCard

/-- THE SECOND FORM's CARD OF 'typebarlaw28.MotionLeads'. -/
def motionLeadsUptoCard : Claim7 := { stood := { row := motionLeadsUptoRow, standIns := [], harness := (true, "b9de4fda796d9fc6b308a323e0ba728acc3e7547ee6540235ceedaa6c5a4acad"), looks := true }, kinds := [], alts := [], laidByText := true, laidKinds := [.data, .data, .data, .data], laidTests := true, laidLooks := .later }
def MotionLeadsUptoCardSaid : Prop := Claim7.holds Tryd.pinned (.plain (OpenSpec.upto motionLeadsSpec)) motionLeadsUptoCard

/-- THE SECOND FORM's CARD OF 'typebarlaw27.BeliefNews'. -/
def beliefNewsUptoCard : Claim7 := { stood := { row := beliefNewsUptoRow, standIns := [], harness := (true, "b9de4fda796d9fc6b308a323e0ba728acc3e7547ee6540235ceedaa6c5a4acad"), looks := true }, kinds := [], alts := [], laidByText := true, laidKinds := [.data, .data, .pinned], laidTests := true, laidLooks := .later }
def BeliefNewsUptoCardSaid : Prop := Claim7.holds Tryd.pinned (.plain (OpenSpec.upto beliefNewsSpec)) beliefNewsUptoCard

/-- THE SECOND FORM's CARD OF 'typebarlaw27.BeliefMarks'. -/
def beliefMarksUptoCard : Claim7 := { stood := { row := beliefMarksUptoRow, standIns := [], harness := (true, "b9de4fda796d9fc6b308a323e0ba728acc3e7547ee6540235ceedaa6c5a4acad"), looks := true }, kinds := [], alts := [], laidByText := true, laidKinds := [.data, .data, .pinned], laidTests := true, laidLooks := .later }
def BeliefMarksUptoCardSaid : Prop := Claim7.holds Tryd.pinned (.plain (OpenSpec.upto beliefMarksSpec)) beliefMarksUptoCard

/-- THE SECOND FORM's CARD OF 'typebarlaw27.BeliefSound'. -/
def beliefSoundUptoCard : Claim7 := { stood := { row := beliefSoundUptoRow, standIns := [], harness := (true, "b9de4fda796d9fc6b308a323e0ba728acc3e7547ee6540235ceedaa6c5a4acad"), looks := true }, kinds := [], alts := [], laidByText := true, laidKinds := [.data, .data, .pinned], laidTests := true, laidLooks := .later }
def BeliefSoundUptoCardSaid : Prop := Claim7.holds Tryd.pinned (.plain (OpenSpec.upto beliefSoundSpec)) beliefSoundUptoCard

/-- THE SECOND FORM's CARD OF 'typebarlaw27.BeliefRuns'. -/
def beliefRunsUptoCard : Claim7 := { stood := { row := beliefRunsUptoRow, standIns := [], harness := (true, "b9de4fda796d9fc6b308a323e0ba728acc3e7547ee6540235ceedaa6c5a4acad"), looks := true }, kinds := [], alts := [], laidByText := true, laidKinds := [.data, .data, .pinned], laidTests := true, laidLooks := .later }
def BeliefRunsUptoCardSaid : Prop := Claim7.holds Tryd.pinned (.plain (OpenSpec.upto beliefRunsSpec)) beliefRunsUptoCard

/-- THE SECOND FORM's CARD OF 'typebarlaw27.BeliefTouched'. -/
def beliefTouchedUptoCard : Claim7 := { stood := { row := beliefTouchedUptoRow, standIns := [], harness := (true, "b9de4fda796d9fc6b308a323e0ba728acc3e7547ee6540235ceedaa6c5a4acad"), looks := true }, kinds := [], alts := [], laidByText := true, laidKinds := [.data, .data, .pinned], laidTests := true, laidLooks := .later }
def BeliefTouchedUptoCardSaid : Prop := Claim7.holds Tryd.pinned (.plain (OpenSpec.upto beliefTouchedSpec)) beliefTouchedUptoCard

/-- THE SECOND FORM's CARD OF 'typebarlaw27.BeliefForgets'. -/
def beliefForgetsUptoCard : Claim7 := { stood := { row := beliefForgetsUptoRow, standIns := [], harness := (true, "b9de4fda796d9fc6b308a323e0ba728acc3e7547ee6540235ceedaa6c5a4acad"), looks := true }, kinds := [], alts := [], laidByText := true, laidKinds := [.data, .data, .pinned], laidTests := true, laidLooks := .later }
def BeliefForgetsUptoCardSaid : Prop := Claim7.holds Tryd.pinned (.plain (OpenSpec.upto beliefForgetsSpec)) beliefForgetsUptoCard
end Rows
end Go.Proofs.YtockidoncngdbaaDoor
