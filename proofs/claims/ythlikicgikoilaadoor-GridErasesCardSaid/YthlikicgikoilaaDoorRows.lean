/-
  NARROWER THAN 'FOR EVERY INPUT', by the rows' own cells (each row's printed sentence says how): GridNews: laid · GridPuts: laid · GridBlanks: laid · GridFits: laid · GridStays: laid · GridOnly: laid · GridErases: laid.
  DERIVED. THE GIVEN ROWS OF THIS SEAT. 7 by the template 'for every input the law returns true; each argument reads behind the call as it read before'; 0 by the template 'total and deterministic' (their statements: YthlikicgikoilaaDoorTotals.lean).
  GIVEN WITH THE SEED: the statements are not yours to turn. If you find one false, say at which input.
  Laid BY PROGRAM, IN A SANDBOX (cutbox-rows.mjs): the forced cells as the released guide's own fill.sh prints them over the translation f24a805fc1a8c974… (all of the seat's roots in one cut). By AI agents, Wed Nov 11 2026. No macro, syntax, notation, axiom, sorry.
-/
import Derived.Test.YthlikicgikoilaaDoorChecked
import GoSem.Claim
import GoSem.ClaimJoined
import GoSem.ClaimMapViews
import Derived.JoinedTies
import Derived.KernelRfl
namespace Go.Proofs.YthlikicgikoilaaDoor
/- THE CELL 'sum', in the pinned program and in every row, IS THE sha256 OF THE DUMP (.gsa) THAT YthlikicgikoilaaDoorProg.lean LOADS. Nothing in Lean hashes anything: it is a label: what it is worth is what the hold of that sum in a sandbox is worth. -/
noncomputable def Tryd.pinned : Pinned := { name := "ythlikicgikoilaadoor", sum := "f24a805fc1a8c97497eef018d456a22c10e1347334d243bb811046d62c224d4a", checked := Tryd.checked }
namespace Rows
def none {H : Type} : Left H := { results := [], args := [] }

/- WHAT THE LISTED PACKAGE-LEVEL VARIABLES READ AS WHEN THE CALL BEGINS. Each datum BY PROGRAM (the guide's laid-datum.mjs) off the statement by which the dump's own 'gosem.cut.vars' lays the variable. In a bare row this is a premise. The card (YthlikicgikoilaaDoorCards.lean) ties it to the program's text. -/
def laid_typebar_wide_spans {H : Type} : DataW H := .agg [.agg [.lit (.int .i32 4352), .lit (.int .i32 4447)], .agg [.lit (.int .i32 11904), .lit (.int .i32 12350)], .agg [.lit (.int .i32 12353), .lit (.int .i32 42191)], .agg [.lit (.int .i32 44032), .lit (.int .i32 55203)], .agg [.lit (.int .i32 63744), .lit (.int .i32 64255)], .agg [.lit (.int .i32 65072), .lit (.int .i32 65135)], .agg [.lit (.int .i32 65281), .lit (.int .i32 65376)], .agg [.lit (.int .i32 65504), .lit (.int .i32 65510)], .agg [.lit (.int .i32 127744), .lit (.int .i32 128591)], .agg [.lit (.int .i32 129280), .lit (.int .i32 129535)], .agg [.lit (.int .i32 131072), .lit (.int .i32 262141)]]

/-- 'typebarlaw03.GridNews': WHATEVER THE INPUT: true; the input reads as it did. -/
def gridNewsSpec : ChangeSpec := { name := "gridNews", fn := fun _ => fun
  | [d1, d2, d3] => { results := [.lit (.bool true)], args := [d1, d2, d3] }
  | _ => none }
def gridNewsRow : OpenClaim := { program := "ythlikicgikoilaadoor", sum := "f24a805fc1a8c97497eef018d456a22c10e1347334d243bb811046d62c224d4a", func := "typebar/typebarlaw03.GridNews", spec := "gridNews", named := ["typebar/wide.spans"], apart := false, laid := [("typebar/wide.spans", laid_typebar_wide_spans)] }
def GridNewsSaid : Prop := gridNewsRow.holds Tryd.pinned (OpenSpec.ofChange gridNewsSpec)

/-- ITS FALSE NEIGHBOUR: 'it returns false'. Refute it at one input. -/
def gridNewsWrong : ChangeSpec := { name := "gridNews", fn := fun _ => fun
  | [d1, d2, d3] => { results := [.lit (.bool false)], args := [d1, d2, d3] }
  | _ => none }
def GridNewsWrongFalsely : Prop := gridNewsRow.holds Tryd.pinned (OpenSpec.ofChange gridNewsWrong)

/-- 'typebarlaw03.GridPuts': WHATEVER THE INPUT: true; the input reads as it did. -/
def gridPutsSpec : ChangeSpec := { name := "gridPuts", fn := fun _ => fun
  | [d1, d2, d3, d4] => { results := [.lit (.bool true)], args := [d1, d2, d3, d4] }
  | _ => none }
def gridPutsRow : OpenClaim := { program := "ythlikicgikoilaadoor", sum := "f24a805fc1a8c97497eef018d456a22c10e1347334d243bb811046d62c224d4a", func := "typebar/typebarlaw03.GridPuts", spec := "gridPuts", named := ["typebar/wide.spans"], apart := false, laid := [("typebar/wide.spans", laid_typebar_wide_spans)] }
def GridPutsSaid : Prop := gridPutsRow.holds Tryd.pinned (OpenSpec.ofChange gridPutsSpec)

/-- ITS FALSE NEIGHBOUR: 'it returns false'. Refute it at one input. -/
def gridPutsWrong : ChangeSpec := { name := "gridPuts", fn := fun _ => fun
  | [d1, d2, d3, d4] => { results := [.lit (.bool false)], args := [d1, d2, d3, d4] }
  | _ => none }
def GridPutsWrongFalsely : Prop := gridPutsRow.holds Tryd.pinned (OpenSpec.ofChange gridPutsWrong)

/-- 'typebarlaw03.GridBlanks': WHATEVER THE INPUT: true; the input reads as it did. -/
def gridBlanksSpec : ChangeSpec := { name := "gridBlanks", fn := fun _ => fun
  | [d1, d2, d3] => { results := [.lit (.bool true)], args := [d1, d2, d3] }
  | _ => none }
def gridBlanksRow : OpenClaim := { program := "ythlikicgikoilaadoor", sum := "f24a805fc1a8c97497eef018d456a22c10e1347334d243bb811046d62c224d4a", func := "typebar/typebarlaw03.GridBlanks", spec := "gridBlanks", named := ["typebar/wide.spans"], apart := false, laid := [("typebar/wide.spans", laid_typebar_wide_spans)] }
def GridBlanksSaid : Prop := gridBlanksRow.holds Tryd.pinned (OpenSpec.ofChange gridBlanksSpec)

/-- ITS FALSE NEIGHBOUR: 'it returns false'. Refute it at one input. -/
def gridBlanksWrong : ChangeSpec := { name := "gridBlanks", fn := fun _ => fun
  | [d1, d2, d3] => { results := [.lit (.bool false)], args := [d1, d2, d3] }
  | _ => none }
def GridBlanksWrongFalsely : Prop := gridBlanksRow.holds Tryd.pinned (OpenSpec.ofChange gridBlanksWrong)

/-- 'typebarlaw03.GridFits': WHATEVER THE INPUT: true; the input reads as it did. -/
def gridFitsSpec : ChangeSpec := { name := "gridFits", fn := fun _ => fun
  | [d1, d2, d3] => { results := [.lit (.bool true)], args := [d1, d2, d3] }
  | _ => none }
def gridFitsRow : OpenClaim := { program := "ythlikicgikoilaadoor", sum := "f24a805fc1a8c97497eef018d456a22c10e1347334d243bb811046d62c224d4a", func := "typebar/typebarlaw03.GridFits", spec := "gridFits", named := ["typebar/wide.spans"], apart := false, laid := [("typebar/wide.spans", laid_typebar_wide_spans)] }
def GridFitsSaid : Prop := gridFitsRow.holds Tryd.pinned (OpenSpec.ofChange gridFitsSpec)

/-- ITS FALSE NEIGHBOUR: 'it returns false'. Refute it at one input. -/
def gridFitsWrong : ChangeSpec := { name := "gridFits", fn := fun _ => fun
  | [d1, d2, d3] => { results := [.lit (.bool false)], args := [d1, d2, d3] }
  | _ => none }
def GridFitsWrongFalsely : Prop := gridFitsRow.holds Tryd.pinned (OpenSpec.ofChange gridFitsWrong)

/-- 'typebarlaw03.GridStays': WHATEVER THE INPUT: true; the input reads as it did. -/
def gridStaysSpec : ChangeSpec := { name := "gridStays", fn := fun _ => fun
  | [d1, d2, d3, d4] => { results := [.lit (.bool true)], args := [d1, d2, d3, d4] }
  | _ => none }
def gridStaysRow : OpenClaim := { program := "ythlikicgikoilaadoor", sum := "f24a805fc1a8c97497eef018d456a22c10e1347334d243bb811046d62c224d4a", func := "typebar/typebarlaw03.GridStays", spec := "gridStays", named := ["typebar/wide.spans"], apart := false, laid := [("typebar/wide.spans", laid_typebar_wide_spans)] }
def GridStaysSaid : Prop := gridStaysRow.holds Tryd.pinned (OpenSpec.ofChange gridStaysSpec)

/-- ITS FALSE NEIGHBOUR: 'it returns false'. Refute it at one input. -/
def gridStaysWrong : ChangeSpec := { name := "gridStays", fn := fun _ => fun
  | [d1, d2, d3, d4] => { results := [.lit (.bool false)], args := [d1, d2, d3, d4] }
  | _ => none }
def GridStaysWrongFalsely : Prop := gridStaysRow.holds Tryd.pinned (OpenSpec.ofChange gridStaysWrong)

/-- 'typebarlaw03.GridOnly': WHATEVER THE INPUT: true; the input reads as it did. -/
def gridOnlySpec : ChangeSpec := { name := "gridOnly", fn := fun _ => fun
  | [d1, d2, d3, d4] => { results := [.lit (.bool true)], args := [d1, d2, d3, d4] }
  | _ => none }
def gridOnlyRow : OpenClaim := { program := "ythlikicgikoilaadoor", sum := "f24a805fc1a8c97497eef018d456a22c10e1347334d243bb811046d62c224d4a", func := "typebar/typebarlaw03.GridOnly", spec := "gridOnly", named := ["typebar/wide.spans"], apart := false, laid := [("typebar/wide.spans", laid_typebar_wide_spans)] }
def GridOnlySaid : Prop := gridOnlyRow.holds Tryd.pinned (OpenSpec.ofChange gridOnlySpec)

/-- ITS FALSE NEIGHBOUR: 'it returns false'. Refute it at one input. -/
def gridOnlyWrong : ChangeSpec := { name := "gridOnly", fn := fun _ => fun
  | [d1, d2, d3, d4] => { results := [.lit (.bool false)], args := [d1, d2, d3, d4] }
  | _ => none }
def GridOnlyWrongFalsely : Prop := gridOnlyRow.holds Tryd.pinned (OpenSpec.ofChange gridOnlyWrong)

/-- 'typebarlaw03.GridErases': WHATEVER THE INPUT: true; the input reads as it did. -/
def gridErasesSpec : ChangeSpec := { name := "gridErases", fn := fun _ => fun
  | [d1, d2, d3] => { results := [.lit (.bool true)], args := [d1, d2, d3] }
  | _ => none }
def gridErasesRow : OpenClaim := { program := "ythlikicgikoilaadoor", sum := "f24a805fc1a8c97497eef018d456a22c10e1347334d243bb811046d62c224d4a", func := "typebar/typebarlaw03.GridErases", spec := "gridErases", named := ["typebar/wide.spans"], apart := false, laid := [("typebar/wide.spans", laid_typebar_wide_spans)] }
def GridErasesSaid : Prop := gridErasesRow.holds Tryd.pinned (OpenSpec.ofChange gridErasesSpec)

/-- ITS FALSE NEIGHBOUR: 'it returns false'. Refute it at one input. -/
def gridErasesWrong : ChangeSpec := { name := "gridErases", fn := fun _ => fun
  | [d1, d2, d3] => { results := [.lit (.bool false)], args := [d1, d2, d3] }
  | _ => none }
def GridErasesWrongFalsely : Prop := gridErasesRow.holds Tryd.pinned (OpenSpec.ofChange gridErasesWrong)

/- THE SECOND FORM. 'bulk': how many values and letters a reading holds, each counted each time it is reached (what is shared counts as often as it is met; a slice's spare places count too). A statement '..UptoSaid' is the law's where the arguments, and the package variables that the reading takes, are together of bulk at most 1048576: NARROWER than '..Said'. Prove '..Said' where nothing that the law and all that it calls make is longer than what came in: it says more and counts as full. Else prove '..UptoSaid'. A law counts once. -/
mutual
def uptoBulk {H : Type} : DataW H → Nat
  | .lit (.string bytes) => bytes.length + 1
  | .lit _ => 1
  | .nil => 1
  | .ptr d => uptoBulk d + 1
  | .slice elems spare => uptoBulkAll elems + uptoBulkAll spare + 1
  | .agg parts => uptoBulkAll parts + 1
  | .iface _ d => uptoBulk d + 1
  | .map entries => uptoBulkEntries entries + 1
  | .held _ => 1
def uptoBulkAll {H : Type} : List (DataW H) → Nat
  | [] => 0
  | d :: r => uptoBulk d + uptoBulkAll r
def uptoBulkEntries {H : Type} : List (Lit × DataW H) → Nat
  | [] => 0
  | x :: r => uptoBulkEntry x + uptoBulkEntries r
def uptoBulkEntry {H : Type} : Lit × DataW H → Nat
  | (.string bytes, d) => bytes.length + uptoBulk d + 1
  | (_, d) => uptoBulk d + 1
 end
def uptoSmall : (H : Type) → List (DataW H) → Bool := fun _ ds => decide (uptoBulkAll ds ≤ 1048576)
def OpenSpec.upto (s : _root_.Go.ChangeSpec) : _root_.Go.OpenSpec := { _root_.Go.OpenSpec.ofChange s with cond := some uptoSmall }

/-- 'typebarlaw03.GridNews', WHERE WHAT IT READS IS OF BULK AT MOST 1048576: true; the input reads as it did. -/
def gridNewsUptoRow : OpenClaim := { program := "ythlikicgikoilaadoor", sum := "f24a805fc1a8c97497eef018d456a22c10e1347334d243bb811046d62c224d4a", func := "typebar/typebarlaw03.GridNews", spec := "gridNews", named := ["typebar/wide.spans"], apart := false, laid := [("typebar/wide.spans", laid_typebar_wide_spans)], narrowed := true }
def GridNewsUptoSaid : Prop := gridNewsUptoRow.holds Tryd.pinned (OpenSpec.upto gridNewsSpec)

/-- 'typebarlaw03.GridPuts', WHERE WHAT IT READS IS OF BULK AT MOST 1048576: true; the input reads as it did. -/
def gridPutsUptoRow : OpenClaim := { program := "ythlikicgikoilaadoor", sum := "f24a805fc1a8c97497eef018d456a22c10e1347334d243bb811046d62c224d4a", func := "typebar/typebarlaw03.GridPuts", spec := "gridPuts", named := ["typebar/wide.spans"], apart := false, laid := [("typebar/wide.spans", laid_typebar_wide_spans)], narrowed := true }
def GridPutsUptoSaid : Prop := gridPutsUptoRow.holds Tryd.pinned (OpenSpec.upto gridPutsSpec)

/-- 'typebarlaw03.GridBlanks', WHERE WHAT IT READS IS OF BULK AT MOST 1048576: true; the input reads as it did. -/
def gridBlanksUptoRow : OpenClaim := { program := "ythlikicgikoilaadoor", sum := "f24a805fc1a8c97497eef018d456a22c10e1347334d243bb811046d62c224d4a", func := "typebar/typebarlaw03.GridBlanks", spec := "gridBlanks", named := ["typebar/wide.spans"], apart := false, laid := [("typebar/wide.spans", laid_typebar_wide_spans)], narrowed := true }
def GridBlanksUptoSaid : Prop := gridBlanksUptoRow.holds Tryd.pinned (OpenSpec.upto gridBlanksSpec)

/-- 'typebarlaw03.GridFits', WHERE WHAT IT READS IS OF BULK AT MOST 1048576: true; the input reads as it did. -/
def gridFitsUptoRow : OpenClaim := { program := "ythlikicgikoilaadoor", sum := "f24a805fc1a8c97497eef018d456a22c10e1347334d243bb811046d62c224d4a", func := "typebar/typebarlaw03.GridFits", spec := "gridFits", named := ["typebar/wide.spans"], apart := false, laid := [("typebar/wide.spans", laid_typebar_wide_spans)], narrowed := true }
def GridFitsUptoSaid : Prop := gridFitsUptoRow.holds Tryd.pinned (OpenSpec.upto gridFitsSpec)

/-- 'typebarlaw03.GridStays', WHERE WHAT IT READS IS OF BULK AT MOST 1048576: true; the input reads as it did. -/
def gridStaysUptoRow : OpenClaim := { program := "ythlikicgikoilaadoor", sum := "f24a805fc1a8c97497eef018d456a22c10e1347334d243bb811046d62c224d4a", func := "typebar/typebarlaw03.GridStays", spec := "gridStays", named := ["typebar/wide.spans"], apart := false, laid := [("typebar/wide.spans", laid_typebar_wide_spans)], narrowed := true }
def GridStaysUptoSaid : Prop := gridStaysUptoRow.holds Tryd.pinned (OpenSpec.upto gridStaysSpec)

/-- 'typebarlaw03.GridOnly', WHERE WHAT IT READS IS OF BULK AT MOST 1048576: true; the input reads as it did. -/
def gridOnlyUptoRow : OpenClaim := { program := "ythlikicgikoilaadoor", sum := "f24a805fc1a8c97497eef018d456a22c10e1347334d243bb811046d62c224d4a", func := "typebar/typebarlaw03.GridOnly", spec := "gridOnly", named := ["typebar/wide.spans"], apart := false, laid := [("typebar/wide.spans", laid_typebar_wide_spans)], narrowed := true }
def GridOnlyUptoSaid : Prop := gridOnlyUptoRow.holds Tryd.pinned (OpenSpec.upto gridOnlySpec)

/-- 'typebarlaw03.GridErases', WHERE WHAT IT READS IS OF BULK AT MOST 1048576: true; the input reads as it did. -/
def gridErasesUptoRow : OpenClaim := { program := "ythlikicgikoilaadoor", sum := "f24a805fc1a8c97497eef018d456a22c10e1347334d243bb811046d62c224d4a", func := "typebar/typebarlaw03.GridErases", spec := "gridErases", named := ["typebar/wide.spans"], apart := false, laid := [("typebar/wide.spans", laid_typebar_wide_spans)], narrowed := true }
def GridErasesUptoSaid : Prop := gridErasesUptoRow.holds Tryd.pinned (OpenSpec.upto gridErasesSpec)

end Rows
end Go.Proofs.YthlikicgikoilaaDoor
