/-
  NARROWER THAN 'FOR EVERY INPUT', by the rows' own cells (each row's printed sentence says how): WideCells: laid · WideIs: laid · WideRows: laid · WideJoins: laid · WideHalves: laid · FlowDoes: laid · FlowLays: laid · FlowCells: laid · FlowWhole: laid · FlowJoins: laid · FlowShows: laid.
  DERIVED. THE GIVEN ROWS OF THIS SEAT. 11 by the template 'for every input the law returns true; each argument reads behind the call as it read before'; 0 by the template 'total and deterministic' (their statements: YtdnoealpchehlaaDoorTotals.lean).
  GIVEN WITH THE SEED: the statements are not yours to turn. If you find one false, say at which input.
  Laid BY PROGRAM, IN A SANDBOX (cutbox-rows.mjs): the forced cells as the released guide's own fill.sh prints them over the translation 4b941fb3134bb9a7… (all of the seat's roots in one cut). By AI agents, Wed Nov 11 2026. No macro, syntax, notation, axiom, sorry.
-/
import Derived.Test.YtdnoealpchehlaaDoorChecked
import GoSem.Claim
import GoSem.ClaimJoined
import GoSem.ClaimMapViews
import Derived.JoinedTies
import Derived.KernelRfl
namespace Go.Proofs.YtdnoealpchehlaaDoor
/- THE CELL 'sum', in the pinned program and in every row, IS THE sha256 OF THE DUMP (.gsa) THAT YtdnoealpchehlaaDoorProg.lean LOADS. Nothing in Lean hashes anything: it is a label: what it is worth is what the hold of that sum in a sandbox is worth. -/
noncomputable def Tryd.pinned : Pinned := { name := "ytdnoealpchehlaadoor", sum := "4b941fb3134bb9a7a7f65683b9229b6a54518193be63509f43a41fc28ec6c0ea", checked := Tryd.checked }
namespace Rows
def none {H : Type} : Left H := { results := [], args := [] }

/- WHAT THE LISTED PACKAGE-LEVEL VARIABLES READ AS WHEN THE CALL BEGINS. Each datum BY PROGRAM (the guide's laid-datum.mjs) off the statement by which the dump's own 'gosem.cut.vars' lays the variable. In a bare row this is a premise. The card (YtdnoealpchehlaaDoorCards.lean) ties it to the program's text. -/
def laid_typebar_wide_spans {H : Type} : DataW H := .agg [.agg [.lit (.int .i32 4352), .lit (.int .i32 4447)], .agg [.lit (.int .i32 11904), .lit (.int .i32 12350)], .agg [.lit (.int .i32 12353), .lit (.int .i32 42191)], .agg [.lit (.int .i32 44032), .lit (.int .i32 55203)], .agg [.lit (.int .i32 63744), .lit (.int .i32 64255)], .agg [.lit (.int .i32 65072), .lit (.int .i32 65135)], .agg [.lit (.int .i32 65281), .lit (.int .i32 65376)], .agg [.lit (.int .i32 65504), .lit (.int .i32 65510)], .agg [.lit (.int .i32 127744), .lit (.int .i32 128591)], .agg [.lit (.int .i32 129280), .lit (.int .i32 129535)], .agg [.lit (.int .i32 131072), .lit (.int .i32 262141)]]

/-- 'typebarlaw02.WideCells': WHATEVER THE INPUT: true; the input reads as it did. -/
def wideCellsSpec : ChangeSpec := { name := "wideCells", fn := fun _ => fun
  | [d] => { results := [.lit (.bool true)], args := [d] }
  | _ => none }
def wideCellsRow : OpenClaim := { program := "ytdnoealpchehlaadoor", sum := "4b941fb3134bb9a7a7f65683b9229b6a54518193be63509f43a41fc28ec6c0ea", func := "typebar/typebarlaw02.WideCells", spec := "wideCells", named := ["typebar/wide.spans"], apart := false, laid := [("typebar/wide.spans", laid_typebar_wide_spans)] }
def WideCellsSaid : Prop := wideCellsRow.holds Tryd.pinned (OpenSpec.ofChange wideCellsSpec)

/-- ITS FALSE NEIGHBOUR: 'it returns false'. Refute it at one input. -/
def wideCellsWrong : ChangeSpec := { name := "wideCells", fn := fun _ => fun
  | [d] => { results := [.lit (.bool false)], args := [d] }
  | _ => none }
def WideCellsWrongFalsely : Prop := wideCellsRow.holds Tryd.pinned (OpenSpec.ofChange wideCellsWrong)

/-- 'typebarlaw02.WideIs': WHATEVER THE INPUT: true; the input reads as it did. -/
def wideIsSpec : ChangeSpec := { name := "wideIs", fn := fun _ => fun
  | [d] => { results := [.lit (.bool true)], args := [d] }
  | _ => none }
def wideIsRow : OpenClaim := { program := "ytdnoealpchehlaadoor", sum := "4b941fb3134bb9a7a7f65683b9229b6a54518193be63509f43a41fc28ec6c0ea", func := "typebar/typebarlaw02.WideIs", spec := "wideIs", named := ["typebar/wide.spans"], apart := false, laid := [("typebar/wide.spans", laid_typebar_wide_spans)] }
def WideIsSaid : Prop := wideIsRow.holds Tryd.pinned (OpenSpec.ofChange wideIsSpec)

/-- ITS FALSE NEIGHBOUR: 'it returns false'. Refute it at one input. -/
def wideIsWrong : ChangeSpec := { name := "wideIs", fn := fun _ => fun
  | [d] => { results := [.lit (.bool false)], args := [d] }
  | _ => none }
def WideIsWrongFalsely : Prop := wideIsRow.holds Tryd.pinned (OpenSpec.ofChange wideIsWrong)

/-- 'typebarlaw02.WideRows': WHATEVER THE INPUT: true; the input reads as it did. -/
def wideRowsSpec : ChangeSpec := { name := "wideRows", fn := fun _ => fun
  | [d] => { results := [.lit (.bool true)], args := [d] }
  | _ => none }
def wideRowsRow : OpenClaim := { program := "ytdnoealpchehlaadoor", sum := "4b941fb3134bb9a7a7f65683b9229b6a54518193be63509f43a41fc28ec6c0ea", func := "typebar/typebarlaw02.WideRows", spec := "wideRows", named := ["typebar/wide.spans"], apart := false, laid := [("typebar/wide.spans", laid_typebar_wide_spans)] }
def WideRowsSaid : Prop := wideRowsRow.holds Tryd.pinned (OpenSpec.ofChange wideRowsSpec)

/-- ITS FALSE NEIGHBOUR: 'it returns false'. Refute it at one input. -/
def wideRowsWrong : ChangeSpec := { name := "wideRows", fn := fun _ => fun
  | [d] => { results := [.lit (.bool false)], args := [d] }
  | _ => none }
def WideRowsWrongFalsely : Prop := wideRowsRow.holds Tryd.pinned (OpenSpec.ofChange wideRowsWrong)

/-- 'typebarlaw02.WideJoins': WHATEVER THE INPUT: true; the input reads as it did. -/
def wideJoinsSpec : ChangeSpec := { name := "wideJoins", fn := fun _ => fun
  | [d1, d2] => { results := [.lit (.bool true)], args := [d1, d2] }
  | _ => none }
def wideJoinsRow : OpenClaim := { program := "ytdnoealpchehlaadoor", sum := "4b941fb3134bb9a7a7f65683b9229b6a54518193be63509f43a41fc28ec6c0ea", func := "typebar/typebarlaw02.WideJoins", spec := "wideJoins", named := ["typebar/wide.spans"], apart := false, laid := [("typebar/wide.spans", laid_typebar_wide_spans)] }
def WideJoinsSaid : Prop := wideJoinsRow.holds Tryd.pinned (OpenSpec.ofChange wideJoinsSpec)

/-- ITS FALSE NEIGHBOUR: 'it returns false'. Refute it at one input. -/
def wideJoinsWrong : ChangeSpec := { name := "wideJoins", fn := fun _ => fun
  | [d1, d2] => { results := [.lit (.bool false)], args := [d1, d2] }
  | _ => none }
def WideJoinsWrongFalsely : Prop := wideJoinsRow.holds Tryd.pinned (OpenSpec.ofChange wideJoinsWrong)

/-- 'typebarlaw02.WideHalves': WHATEVER THE INPUT: true; the input reads as it did. -/
def wideHalvesSpec : ChangeSpec := { name := "wideHalves", fn := fun _ => fun
  | [d] => { results := [.lit (.bool true)], args := [d] }
  | _ => none }
def wideHalvesRow : OpenClaim := { program := "ytdnoealpchehlaadoor", sum := "4b941fb3134bb9a7a7f65683b9229b6a54518193be63509f43a41fc28ec6c0ea", func := "typebar/typebarlaw02.WideHalves", spec := "wideHalves", named := ["typebar/wide.spans"], apart := false, laid := [("typebar/wide.spans", laid_typebar_wide_spans)] }
def WideHalvesSaid : Prop := wideHalvesRow.holds Tryd.pinned (OpenSpec.ofChange wideHalvesSpec)

/-- ITS FALSE NEIGHBOUR: 'it returns false'. Refute it at one input. -/
def wideHalvesWrong : ChangeSpec := { name := "wideHalves", fn := fun _ => fun
  | [d] => { results := [.lit (.bool false)], args := [d] }
  | _ => none }
def WideHalvesWrongFalsely : Prop := wideHalvesRow.holds Tryd.pinned (OpenSpec.ofChange wideHalvesWrong)

/-- 'typebarlaw04.FlowDoes': WHATEVER THE INPUT: true; the input reads as it did. -/
def flowDoesSpec : ChangeSpec := { name := "flowDoes", fn := fun _ => fun
  | [d1, d2, d3] => { results := [.lit (.bool true)], args := [d1, d2, d3] }
  | _ => none }
def flowDoesRow : OpenClaim := { program := "ytdnoealpchehlaadoor", sum := "4b941fb3134bb9a7a7f65683b9229b6a54518193be63509f43a41fc28ec6c0ea", func := "typebar/typebarlaw04.FlowDoes", spec := "flowDoes", unfollowed := true, recurses := true, named := ["typebar/wide.spans"], apart := false, laid := [("typebar/wide.spans", laid_typebar_wide_spans)] }
def FlowDoesSaid : Prop := flowDoesRow.holds Tryd.pinned (OpenSpec.ofChange flowDoesSpec)

/-- ITS FALSE NEIGHBOUR: 'it returns false'. Refute it at one input. -/
def flowDoesWrong : ChangeSpec := { name := "flowDoes", fn := fun _ => fun
  | [d1, d2, d3] => { results := [.lit (.bool false)], args := [d1, d2, d3] }
  | _ => none }
def FlowDoesWrongFalsely : Prop := flowDoesRow.holds Tryd.pinned (OpenSpec.ofChange flowDoesWrong)

/-- 'typebarlaw04.FlowLays': WHATEVER THE INPUT: true; the input reads as it did. -/
def flowLaysSpec : ChangeSpec := { name := "flowLays", fn := fun _ => fun
  | [d1, d2, d3] => { results := [.lit (.bool true)], args := [d1, d2, d3] }
  | _ => none }
def flowLaysRow : OpenClaim := { program := "ytdnoealpchehlaadoor", sum := "4b941fb3134bb9a7a7f65683b9229b6a54518193be63509f43a41fc28ec6c0ea", func := "typebar/typebarlaw04.FlowLays", spec := "flowLays", unfollowed := true, recurses := true, named := ["typebar/wide.spans"], apart := false, laid := [("typebar/wide.spans", laid_typebar_wide_spans)] }
def FlowLaysSaid : Prop := flowLaysRow.holds Tryd.pinned (OpenSpec.ofChange flowLaysSpec)

/-- ITS FALSE NEIGHBOUR: 'it returns false'. Refute it at one input. -/
def flowLaysWrong : ChangeSpec := { name := "flowLays", fn := fun _ => fun
  | [d1, d2, d3] => { results := [.lit (.bool false)], args := [d1, d2, d3] }
  | _ => none }
def FlowLaysWrongFalsely : Prop := flowLaysRow.holds Tryd.pinned (OpenSpec.ofChange flowLaysWrong)

/-- 'typebarlaw04.FlowCells': WHATEVER THE INPUT: true; the input reads as it did. -/
def flowCellsSpec : ChangeSpec := { name := "flowCells", fn := fun _ => fun
  | [d1, d2, d3] => { results := [.lit (.bool true)], args := [d1, d2, d3] }
  | _ => none }
def flowCellsRow : OpenClaim := { program := "ytdnoealpchehlaadoor", sum := "4b941fb3134bb9a7a7f65683b9229b6a54518193be63509f43a41fc28ec6c0ea", func := "typebar/typebarlaw04.FlowCells", spec := "flowCells", unfollowed := true, recurses := true, named := ["typebar/wide.spans"], apart := false, laid := [("typebar/wide.spans", laid_typebar_wide_spans)] }
def FlowCellsSaid : Prop := flowCellsRow.holds Tryd.pinned (OpenSpec.ofChange flowCellsSpec)

/-- ITS FALSE NEIGHBOUR: 'it returns false'. Refute it at one input. -/
def flowCellsWrong : ChangeSpec := { name := "flowCells", fn := fun _ => fun
  | [d1, d2, d3] => { results := [.lit (.bool false)], args := [d1, d2, d3] }
  | _ => none }
def FlowCellsWrongFalsely : Prop := flowCellsRow.holds Tryd.pinned (OpenSpec.ofChange flowCellsWrong)

/-- 'typebarlaw04.FlowWhole': WHATEVER THE INPUT: true; the input reads as it did. -/
def flowWholeSpec : ChangeSpec := { name := "flowWhole", fn := fun _ => fun
  | [d1, d2, d3] => { results := [.lit (.bool true)], args := [d1, d2, d3] }
  | _ => none }
def flowWholeRow : OpenClaim := { program := "ytdnoealpchehlaadoor", sum := "4b941fb3134bb9a7a7f65683b9229b6a54518193be63509f43a41fc28ec6c0ea", func := "typebar/typebarlaw04.FlowWhole", spec := "flowWhole", unfollowed := true, recurses := true, named := ["typebar/wide.spans"], apart := false, laid := [("typebar/wide.spans", laid_typebar_wide_spans)] }
def FlowWholeSaid : Prop := flowWholeRow.holds Tryd.pinned (OpenSpec.ofChange flowWholeSpec)

/-- ITS FALSE NEIGHBOUR: 'it returns false'. Refute it at one input. -/
def flowWholeWrong : ChangeSpec := { name := "flowWhole", fn := fun _ => fun
  | [d1, d2, d3] => { results := [.lit (.bool false)], args := [d1, d2, d3] }
  | _ => none }
def FlowWholeWrongFalsely : Prop := flowWholeRow.holds Tryd.pinned (OpenSpec.ofChange flowWholeWrong)

/-- 'typebarlaw04.FlowJoins': WHATEVER THE INPUT: true; the input reads as it did. -/
def flowJoinsSpec : ChangeSpec := { name := "flowJoins", fn := fun _ => fun
  | [d1, d2, d3, d4] => { results := [.lit (.bool true)], args := [d1, d2, d3, d4] }
  | _ => none }
def flowJoinsRow : OpenClaim := { program := "ytdnoealpchehlaadoor", sum := "4b941fb3134bb9a7a7f65683b9229b6a54518193be63509f43a41fc28ec6c0ea", func := "typebar/typebarlaw04.FlowJoins", spec := "flowJoins", unfollowed := true, recurses := true, named := ["typebar/wide.spans"], apart := false, laid := [("typebar/wide.spans", laid_typebar_wide_spans)] }
def FlowJoinsSaid : Prop := flowJoinsRow.holds Tryd.pinned (OpenSpec.ofChange flowJoinsSpec)

/-- ITS FALSE NEIGHBOUR: 'it returns false'. Refute it at one input. -/
def flowJoinsWrong : ChangeSpec := { name := "flowJoins", fn := fun _ => fun
  | [d1, d2, d3, d4] => { results := [.lit (.bool false)], args := [d1, d2, d3, d4] }
  | _ => none }
def FlowJoinsWrongFalsely : Prop := flowJoinsRow.holds Tryd.pinned (OpenSpec.ofChange flowJoinsWrong)

/-- 'typebarlaw04.FlowShows': WHATEVER THE INPUT: true; the input reads as it did. -/
def flowShowsSpec : ChangeSpec := { name := "flowShows", fn := fun _ => fun
  | [d1, d2, d3] => { results := [.lit (.bool true)], args := [d1, d2, d3] }
  | _ => none }
def flowShowsRow : OpenClaim := { program := "ytdnoealpchehlaadoor", sum := "4b941fb3134bb9a7a7f65683b9229b6a54518193be63509f43a41fc28ec6c0ea", func := "typebar/typebarlaw04.FlowShows", spec := "flowShows", unfollowed := true, recurses := true, named := ["typebar/wide.spans"], apart := false, laid := [("typebar/wide.spans", laid_typebar_wide_spans)] }
def FlowShowsSaid : Prop := flowShowsRow.holds Tryd.pinned (OpenSpec.ofChange flowShowsSpec)

/-- ITS FALSE NEIGHBOUR: 'it returns false'. Refute it at one input. -/
def flowShowsWrong : ChangeSpec := { name := "flowShows", fn := fun _ => fun
  | [d1, d2, d3] => { results := [.lit (.bool false)], args := [d1, d2, d3] }
  | _ => none }
def FlowShowsWrongFalsely : Prop := flowShowsRow.holds Tryd.pinned (OpenSpec.ofChange flowShowsWrong)

/- THE SECOND FORM. 'bulk': how many values and letters a reading holds, each counted each time it is reached (what is shared counts as often as it is met; a slice's spare places count too). A statement '..UptoSaid' is the law's where the arguments, and the package variables that the reading takes, are together of bulk at most 1048576: NARROWER than '..Said'. Prove '..Said' where nothing that the law and all that it calls make is longer than what came in: it says more and counts as full. Else prove '..UptoSaid'. A law counts once. -/
mutual
def uptoBulk {H : Type} : DataW H → Nat
  | .lit (.string bytes) => bytes.length + 1
  | .lit _ => 1
  | .nil => 1
  | .ptr d => uptoBulk d + 1
  | .slice elems spare => uptoBulkAll elems + uptoBulkAll spare + 1
  | .agg parts => uptoBulkAll parts + 1
  | .iface _ d => uptoBulk d + 1
  | .map entries => uptoBulkEntries entries + 1
  | .held _ => 1
def uptoBulkAll {H : Type} : List (DataW H) → Nat
  | [] => 0
  | d :: r => uptoBulk d + uptoBulkAll r
def uptoBulkEntries {H : Type} : List (Lit × DataW H) → Nat
  | [] => 0
  | x :: r => uptoBulkEntry x + uptoBulkEntries r
def uptoBulkEntry {H : Type} : Lit × DataW H → Nat
  | (.string bytes, d) => bytes.length + uptoBulk d + 1
  | (_, d) => uptoBulk d + 1
 end
def uptoSmall : (H : Type) → List (DataW H) → Bool := fun _ ds => decide (uptoBulkAll ds ≤ 1048576)
def OpenSpec.upto (s : _root_.Go.ChangeSpec) : _root_.Go.OpenSpec := { _root_.Go.OpenSpec.ofChange s with cond := some uptoSmall }

/-- 'typebarlaw02.WideCells', WHERE WHAT IT READS IS OF BULK AT MOST 1048576: true; the input reads as it did. -/
def wideCellsUptoRow : OpenClaim := { program := "ytdnoealpchehlaadoor", sum := "4b941fb3134bb9a7a7f65683b9229b6a54518193be63509f43a41fc28ec6c0ea", func := "typebar/typebarlaw02.WideCells", spec := "wideCells", named := ["typebar/wide.spans"], apart := false, laid := [("typebar/wide.spans", laid_typebar_wide_spans)], narrowed := true }
def WideCellsUptoSaid : Prop := wideCellsUptoRow.holds Tryd.pinned (OpenSpec.upto wideCellsSpec)

/-- 'typebarlaw02.WideIs', WHERE WHAT IT READS IS OF BULK AT MOST 1048576: true; the input reads as it did. -/
def wideIsUptoRow : OpenClaim := { program := "ytdnoealpchehlaadoor", sum := "4b941fb3134bb9a7a7f65683b9229b6a54518193be63509f43a41fc28ec6c0ea", func := "typebar/typebarlaw02.WideIs", spec := "wideIs", named := ["typebar/wide.spans"], apart := false, laid := [("typebar/wide.spans", laid_typebar_wide_spans)], narrowed := true }
def WideIsUptoSaid : Prop := wideIsUptoRow.holds Tryd.pinned (OpenSpec.upto wideIsSpec)

/-- 'typebarlaw02.WideRows', WHERE WHAT IT READS IS OF BULK AT MOST 1048576: true; the input reads as it did. -/
def wideRowsUptoRow : OpenClaim := { program := "ytdnoealpchehlaadoor", sum := "4b941fb3134bb9a7a7f65683b9229b6a54518193be63509f43a41fc28ec6c0ea", func := "typebar/typebarlaw02.WideRows", spec := "wideRows", named := ["typebar/wide.spans"], apart := false, laid := [("typebar/wide.spans", laid_typebar_wide_spans)], narrowed := true }
def WideRowsUptoSaid : Prop := wideRowsUptoRow.holds Tryd.pinned (OpenSpec.upto wideRowsSpec)

/-- 'typebarlaw02.WideJoins', WHERE WHAT IT READS IS OF BULK AT MOST 1048576: true; the input reads as it did. -/
def wideJoinsUptoRow : OpenClaim := { program := "ytdnoealpchehlaadoor", sum := "4b941fb3134bb9a7a7f65683b9229b6a54518193be63509f43a41fc28ec6c0ea", func := "typebar/typebarlaw02.WideJoins", spec := "wideJoins", named := ["typebar/wide.spans"], apart := false, laid := [("typebar/wide.spans", laid_typebar_wide_spans)], narrowed := true }
def WideJoinsUptoSaid : Prop := wideJoinsUptoRow.holds Tryd.pinned (OpenSpec.upto wideJoinsSpec)

/-- 'typebarlaw02.WideHalves', WHERE WHAT IT READS IS OF BULK AT MOST 1048576: true; the input reads as it did. -/
def wideHalvesUptoRow : OpenClaim := { program := "ytdnoealpchehlaadoor", sum := "4b941fb3134bb9a7a7f65683b9229b6a54518193be63509f43a41fc28ec6c0ea", func := "typebar/typebarlaw02.WideHalves", spec := "wideHalves", named := ["typebar/wide.spans"], apart := false, laid := [("typebar/wide.spans", laid_typebar_wide_spans)], narrowed := true }
def WideHalvesUptoSaid : Prop := wideHalvesUptoRow.holds Tryd.pinned (OpenSpec.upto wideHalvesSpec)

/-- 'typebarlaw04.FlowDoes', WHERE WHAT IT READS IS OF BULK AT MOST 1048576: true; the input reads as it did. -/
def flowDoesUptoRow : OpenClaim := { program := "ytdnoealpchehlaadoor", sum := "4b941fb3134bb9a7a7f65683b9229b6a54518193be63509f43a41fc28ec6c0ea", func := "typebar/typebarlaw04.FlowDoes", spec := "flowDoes", unfollowed := true, recurses := true, named := ["typebar/wide.spans"], apart := false, laid := [("typebar/wide.spans", laid_typebar_wide_spans)], narrowed := true }
def FlowDoesUptoSaid : Prop := flowDoesUptoRow.holds Tryd.pinned (OpenSpec.upto flowDoesSpec)

/-- 'typebarlaw04.FlowLays', WHERE WHAT IT READS IS OF BULK AT MOST 1048576: true; the input reads as it did. -/
def flowLaysUptoRow : OpenClaim := { program := "ytdnoealpchehlaadoor", sum := "4b941fb3134bb9a7a7f65683b9229b6a54518193be63509f43a41fc28ec6c0ea", func := "typebar/typebarlaw04.FlowLays", spec := "flowLays", unfollowed := true, recurses := true, named := ["typebar/wide.spans"], apart := false, laid := [("typebar/wide.spans", laid_typebar_wide_spans)], narrowed := true }
def FlowLaysUptoSaid : Prop := flowLaysUptoRow.holds Tryd.pinned (OpenSpec.upto flowLaysSpec)

/-- 'typebarlaw04.FlowCells', WHERE WHAT IT READS IS OF BULK AT MOST 1048576: true; the input reads as it did. -/
def flowCellsUptoRow : OpenClaim := { program := "ytdnoealpchehlaadoor", sum := "4b941fb3134bb9a7a7f65683b9229b6a54518193be63509f43a41fc28ec6c0ea", func := "typebar/typebarlaw04.FlowCells", spec := "flowCells", unfollowed := true, recurses := true, named := ["typebar/wide.spans"], apart := false, laid := [("typebar/wide.spans", laid_typebar_wide_spans)], narrowed := true }
def FlowCellsUptoSaid : Prop := flowCellsUptoRow.holds Tryd.pinned (OpenSpec.upto flowCellsSpec)

/-- 'typebarlaw04.FlowWhole', WHERE WHAT IT READS IS OF BULK AT MOST 1048576: true; the input reads as it did. -/
def flowWholeUptoRow : OpenClaim := { program := "ytdnoealpchehlaadoor", sum := "4b941fb3134bb9a7a7f65683b9229b6a54518193be63509f43a41fc28ec6c0ea", func := "typebar/typebarlaw04.FlowWhole", spec := "flowWhole", unfollowed := true, recurses := true, named := ["typebar/wide.spans"], apart := false, laid := [("typebar/wide.spans", laid_typebar_wide_spans)], narrowed := true }
def FlowWholeUptoSaid : Prop := flowWholeUptoRow.holds Tryd.pinned (OpenSpec.upto flowWholeSpec)

/-- 'typebarlaw04.FlowJoins', WHERE WHAT IT READS IS OF BULK AT MOST 1048576: true; the input reads as it did. -/
def flowJoinsUptoRow : OpenClaim := { program := "ytdnoealpchehlaadoor", sum := "4b941fb3134bb9a7a7f65683b9229b6a54518193be63509f43a41fc28ec6c0ea", func := "typebar/typebarlaw04.FlowJoins", spec := "flowJoins", unfollowed := true, recurses := true, named := ["typebar/wide.spans"], apart := false, laid := [("typebar/wide.spans", laid_typebar_wide_spans)], narrowed := true }
def FlowJoinsUptoSaid : Prop := flowJoinsUptoRow.holds Tryd.pinned (OpenSpec.upto flowJoinsSpec)

/-- 'typebarlaw04.FlowShows', WHERE WHAT IT READS IS OF BULK AT MOST 1048576: true; the input reads as it did. -/
def flowShowsUptoRow : OpenClaim := { program := "ytdnoealpchehlaadoor", sum := "4b941fb3134bb9a7a7f65683b9229b6a54518193be63509f43a41fc28ec6c0ea", func := "typebar/typebarlaw04.FlowShows", spec := "flowShows", unfollowed := true, recurses := true, named := ["typebar/wide.spans"], apart := false, laid := [("typebar/wide.spans", laid_typebar_wide_spans)], narrowed := true }
def FlowShowsUptoSaid : Prop := flowShowsUptoRow.holds Tryd.pinned (OpenSpec.upto flowShowsSpec)

end Rows
end Go.Proofs.YtdnoealpchehlaaDoor
