/-
  NARROWER THAN 'FOR EVERY INPUT', by the rows' own cells (each row's printed sentence says how): MotionDoes: laid · MotionLeast: laid · MotionLeads: laid · BeliefNews: laid · BeliefMarks: laid · BeliefSound: laid · BeliefRuns: laid · BeliefTouched: laid · BeliefForgets: laid.
  DERIVED. THE GIVEN ROWS OF THIS SEAT. 9 by the template 'for every input the law returns true; each argument reads behind the call as it read before'; 0 by the template 'total and deterministic' (their statements: YtockidoncngdbaaDoorTotals.lean).
  GIVEN WITH THE SEED: the statements are not yours to turn. If you find one false, say at which input.
  Laid BY PROGRAM, IN A SANDBOX (cutbox-rows.mjs): the forced cells as the released guide's own fill.sh prints them over the translation 7b863d728173b153… (all of the seat's roots in one cut). By AI agents, Wed Nov 11 2026. No macro, syntax, notation, axiom, sorry.
-/
import Derived.Test.YtockidoncngdbaaDoorChecked
import GoSem.PinnedTables
import GoSem.Claim
import GoSem.ClaimJoined
import GoSem.ClaimMapViews
import Derived.JoinedTies
import Derived.KernelRfl
namespace Go.Proofs.YtockidoncngdbaaDoor
/- THE CELL 'sum', in the pinned program and in every row, IS THE sha256 OF THE DUMP (.gsa) THAT YtockidoncngdbaaDoorProg.lean LOADS. Nothing in Lean hashes anything: it is a label: what it is worth is what the hold of that sum in a sandbox is worth. -/
noncomputable def Tryd.pinned : Pinned := { name := "ytockidoncngdbaadoor", sum := "7b863d728173b1530e098ba26cb50db911cc47e551a12df88c50036181f71598", checked := Tryd.checked }
namespace Rows
def none {H : Type} : Left H := { results := [], args := [] }

/- WHAT THE LISTED PACKAGE-LEVEL VARIABLES READ AS WHEN THE CALL BEGINS. Each datum BY PROGRAM (the guide's laid-datum.mjs) off the statement by which the dump's own 'gosem.cut.vars' lays the variable. In a bare row this is a premise. The card (YtockidoncngdbaaDoorCards.lean) ties it to the program's text. -/
def laid_math_bits_deBruijn32tab {H : Type} : DataW H := .agg [.lit (.int .u8 0), .lit (.int .u8 1), .lit (.int .u8 28), .lit (.int .u8 2), .lit (.int .u8 29), .lit (.int .u8 14), .lit (.int .u8 24), .lit (.int .u8 3), .lit (.int .u8 30), .lit (.int .u8 22), .lit (.int .u8 20), .lit (.int .u8 15), .lit (.int .u8 25), .lit (.int .u8 17), .lit (.int .u8 4), .lit (.int .u8 8), .lit (.int .u8 31), .lit (.int .u8 27), .lit (.int .u8 13), .lit (.int .u8 23), .lit (.int .u8 21), .lit (.int .u8 19), .lit (.int .u8 16), .lit (.int .u8 7), .lit (.int .u8 26), .lit (.int .u8 12), .lit (.int .u8 18), .lit (.int .u8 6), .lit (.int .u8 11), .lit (.int .u8 5), .lit (.int .u8 10), .lit (.int .u8 9)]
def laid_math_bits_deBruijn64tab {H : Type} : DataW H := .agg [.lit (.int .u8 0), .lit (.int .u8 1), .lit (.int .u8 56), .lit (.int .u8 2), .lit (.int .u8 57), .lit (.int .u8 49), .lit (.int .u8 28), .lit (.int .u8 3), .lit (.int .u8 61), .lit (.int .u8 58), .lit (.int .u8 42), .lit (.int .u8 50), .lit (.int .u8 38), .lit (.int .u8 29), .lit (.int .u8 17), .lit (.int .u8 4), .lit (.int .u8 62), .lit (.int .u8 47), .lit (.int .u8 59), .lit (.int .u8 36), .lit (.int .u8 45), .lit (.int .u8 43), .lit (.int .u8 51), .lit (.int .u8 22), .lit (.int .u8 53), .lit (.int .u8 39), .lit (.int .u8 33), .lit (.int .u8 30), .lit (.int .u8 24), .lit (.int .u8 18), .lit (.int .u8 12), .lit (.int .u8 5), .lit (.int .u8 63), .lit (.int .u8 55), .lit (.int .u8 48), .lit (.int .u8 27), .lit (.int .u8 60), .lit (.int .u8 41), .lit (.int .u8 37), .lit (.int .u8 16), .lit (.int .u8 46), .lit (.int .u8 35), .lit (.int .u8 44), .lit (.int .u8 21), .lit (.int .u8 52), .lit (.int .u8 32), .lit (.int .u8 23), .lit (.int .u8 11), .lit (.int .u8 54), .lit (.int .u8 26), .lit (.int .u8 40), .lit (.int .u8 15), .lit (.int .u8 34), .lit (.int .u8 20), .lit (.int .u8 31), .lit (.int .u8 10), .lit (.int .u8 25), .lit (.int .u8 14), .lit (.int .u8 19), .lit (.int .u8 9), .lit (.int .u8 13), .lit (.int .u8 8), .lit (.int .u8 7), .lit (.int .u8 6)]
def laid_internal_strconv_uint64pow10 {H : Type} : DataW H := .agg [.lit (.int .u64 1), .lit (.int .u64 10), .lit (.int .u64 100), .lit (.int .u64 1000), .lit (.int .u64 10000), .lit (.int .u64 100000), .lit (.int .u64 1000000), .lit (.int .u64 10000000), .lit (.int .u64 100000000), .lit (.int .u64 1000000000), .lit (.int .u64 10000000000), .lit (.int .u64 100000000000), .lit (.int .u64 1000000000000), .lit (.int .u64 10000000000000), .lit (.int .u64 100000000000000), .lit (.int .u64 1000000000000000), .lit (.int .u64 10000000000000000), .lit (.int .u64 100000000000000000), .lit (.int .u64 1000000000000000000), .lit (.int .u64 10000000000000000000)]
def laid_typebar_wide_spans {H : Type} : DataW H := .agg [.agg [.lit (.int .i32 4352), .lit (.int .i32 4447)], .agg [.lit (.int .i32 11904), .lit (.int .i32 12350)], .agg [.lit (.int .i32 12353), .lit (.int .i32 42191)], .agg [.lit (.int .i32 44032), .lit (.int .i32 55203)], .agg [.lit (.int .i32 63744), .lit (.int .i32 64255)], .agg [.lit (.int .i32 65072), .lit (.int .i32 65135)], .agg [.lit (.int .i32 65281), .lit (.int .i32 65376)], .agg [.lit (.int .i32 65504), .lit (.int .i32 65510)], .agg [.lit (.int .i32 127744), .lit (.int .i32 128591)], .agg [.lit (.int .i32 129280), .lit (.int .i32 129535)], .agg [.lit (.int .i32 131072), .lit (.int .i32 262141)]]
def laid_unicode_utf8_acceptRanges {H : Type} : DataW H := .agg [.agg [.lit (.int .u8 128), .lit (.int .u8 191)], .agg [.lit (.int .u8 160), .lit (.int .u8 191)], .agg [.lit (.int .u8 128), .lit (.int .u8 159)], .agg [.lit (.int .u8 144), .lit (.int .u8 191)], .agg [.lit (.int .u8 128), .lit (.int .u8 143)], .agg [.lit (.int .u8 0), .lit (.int .u8 0)], .agg [.lit (.int .u8 0), .lit (.int .u8 0)], .agg [.lit (.int .u8 0), .lit (.int .u8 0)], .agg [.lit (.int .u8 0), .lit (.int .u8 0)], .agg [.lit (.int .u8 0), .lit (.int .u8 0)], .agg [.lit (.int .u8 0), .lit (.int .u8 0)], .agg [.lit (.int .u8 0), .lit (.int .u8 0)], .agg [.lit (.int .u8 0), .lit (.int .u8 0)], .agg [.lit (.int .u8 0), .lit (.int .u8 0)], .agg [.lit (.int .u8 0), .lit (.int .u8 0)], .agg [.lit (.int .u8 0), .lit (.int .u8 0)]]
/-- One of Go's own tables, pinned by name: the form's constant. -/
def laid_unicode_utf8_first : DataW Unit := Go.Pinned.utf8First

/-- 'typebarlaw28.MotionDoes': WHATEVER THE INPUT: true; the input reads as it did. -/
def motionDoesSpec : ChangeSpec := { name := "motionDoes", fn := fun _ => fun
  | [d1, d2, d3] => { results := [.lit (.bool true)], args := [d1, d2, d3] }
  | _ => none }
def motionDoesRow : OpenClaim := { program := "ytockidoncngdbaadoor", sum := "7b863d728173b1530e098ba26cb50db911cc47e551a12df88c50036181f71598", func := "typebar/typebarlaw28.MotionDoes", spec := "motionDoes", unfollowed := true, recurses := true, named := ["typebar/wide.spans", "internal/strconv.uint64pow10", "math/bits.deBruijn32tab", "math/bits.deBruijn64tab"], apart := false, laid := [("math/bits.deBruijn32tab", laid_math_bits_deBruijn32tab), ("math/bits.deBruijn64tab", laid_math_bits_deBruijn64tab), ("internal/strconv.uint64pow10", laid_internal_strconv_uint64pow10), ("typebar/wide.spans", laid_typebar_wide_spans)] }
def MotionDoesSaid : Prop := motionDoesRow.holds Tryd.pinned (OpenSpec.ofChange motionDoesSpec)

/-- ITS FALSE NEIGHBOUR: 'it returns false'. Refute it at one input. -/
def motionDoesWrong : ChangeSpec := { name := "motionDoes", fn := fun _ => fun
  | [d1, d2, d3] => { results := [.lit (.bool false)], args := [d1, d2, d3] }
  | _ => none }
def MotionDoesWrongFalsely : Prop := motionDoesRow.holds Tryd.pinned (OpenSpec.ofChange motionDoesWrong)

/-- 'typebarlaw28.MotionLeast': WHATEVER THE INPUT: true; the input reads as it did. -/
def motionLeastSpec : ChangeSpec := { name := "motionLeast", fn := fun _ => fun
  | [d1, d2, d3, d4] => { results := [.lit (.bool true)], args := [d1, d2, d3, d4] }
  | _ => none }
def motionLeastRow : OpenClaim := { program := "ytockidoncngdbaadoor", sum := "7b863d728173b1530e098ba26cb50db911cc47e551a12df88c50036181f71598", func := "typebar/typebarlaw28.MotionLeast", spec := "motionLeast", unfollowed := true, recurses := true, named := ["typebar/wide.spans", "internal/strconv.uint64pow10", "math/bits.deBruijn32tab", "math/bits.deBruijn64tab"], apart := false, laid := [("math/bits.deBruijn32tab", laid_math_bits_deBruijn32tab), ("math/bits.deBruijn64tab", laid_math_bits_deBruijn64tab), ("internal/strconv.uint64pow10", laid_internal_strconv_uint64pow10), ("typebar/wide.spans", laid_typebar_wide_spans)] }
def MotionLeastSaid : Prop := motionLeastRow.holds Tryd.pinned (OpenSpec.ofChange motionLeastSpec)

/-- ITS FALSE NEIGHBOUR: 'it returns false'. Refute it at one input. -/
def motionLeastWrong : ChangeSpec := { name := "motionLeast", fn := fun _ => fun
  | [d1, d2, d3, d4] => { results := [.lit (.bool false)], args := [d1, d2, d3, d4] }
  | _ => none }
def MotionLeastWrongFalsely : Prop := motionLeastRow.holds Tryd.pinned (OpenSpec.ofChange motionLeastWrong)

/-- 'typebarlaw28.MotionLeads': WHATEVER THE INPUT: true; the input reads as it did. -/
def motionLeadsSpec : ChangeSpec := { name := "motionLeads", fn := fun _ => fun
  | [d1, d2, d3] => { results := [.lit (.bool true)], args := [d1, d2, d3] }
  | _ => none }
def motionLeadsRow : OpenClaim := { program := "ytockidoncngdbaadoor", sum := "7b863d728173b1530e098ba26cb50db911cc47e551a12df88c50036181f71598", func := "typebar/typebarlaw28.MotionLeads", spec := "motionLeads", unfollowed := true, recurses := true, named := ["typebar/wide.spans", "internal/strconv.uint64pow10", "math/bits.deBruijn32tab", "math/bits.deBruijn64tab"], apart := false, laid := [("math/bits.deBruijn32tab", laid_math_bits_deBruijn32tab), ("math/bits.deBruijn64tab", laid_math_bits_deBruijn64tab), ("internal/strconv.uint64pow10", laid_internal_strconv_uint64pow10), ("typebar/wide.spans", laid_typebar_wide_spans)] }
def MotionLeadsSaid : Prop := motionLeadsRow.holds Tryd.pinned (OpenSpec.ofChange motionLeadsSpec)

/-- ITS FALSE NEIGHBOUR: 'it returns false'. Refute it at one input. -/
def motionLeadsWrong : ChangeSpec := { name := "motionLeads", fn := fun _ => fun
  | [d1, d2, d3] => { results := [.lit (.bool false)], args := [d1, d2, d3] }
  | _ => none }
def MotionLeadsWrongFalsely : Prop := motionLeadsRow.holds Tryd.pinned (OpenSpec.ofChange motionLeadsWrong)

/-- 'typebarlaw27.BeliefNews': WHATEVER THE INPUT: true; the input reads as it did. -/
def beliefNewsSpec : ChangeSpec := { name := "beliefNews", fn := fun _ => fun
  | [d1, d2, d3, d4] => { results := [.lit (.bool true)], args := [d1, d2, d3, d4] }
  | _ => none }
def beliefNewsRow : OpenClaim := { program := "ytockidoncngdbaadoor", sum := "7b863d728173b1530e098ba26cb50db911cc47e551a12df88c50036181f71598", func := "typebar/typebarlaw27.BeliefNews", spec := "beliefNews", unfollowed := true, recurses := true, named := ["typebar/wide.spans", "unicode/utf8.first", "unicode/utf8.acceptRanges"], apart := false, laid := [("unicode/utf8.acceptRanges", laid_unicode_utf8_acceptRanges), ("typebar/wide.spans", laid_typebar_wide_spans), ("unicode/utf8.first", laid_unicode_utf8_first)] }
def BeliefNewsSaid : Prop := beliefNewsRow.holds Tryd.pinned (OpenSpec.ofChange beliefNewsSpec)

/-- ITS FALSE NEIGHBOUR: 'it returns false'. Refute it at one input. -/
def beliefNewsWrong : ChangeSpec := { name := "beliefNews", fn := fun _ => fun
  | [d1, d2, d3, d4] => { results := [.lit (.bool false)], args := [d1, d2, d3, d4] }
  | _ => none }
def BeliefNewsWrongFalsely : Prop := beliefNewsRow.holds Tryd.pinned (OpenSpec.ofChange beliefNewsWrong)

/-- 'typebarlaw27.BeliefMarks': WHATEVER THE INPUT: true; the input reads as it did. -/
def beliefMarksSpec : ChangeSpec := { name := "beliefMarks", fn := fun _ => fun
  | [d1, d2, d3, d4, d5] => { results := [.lit (.bool true)], args := [d1, d2, d3, d4, d5] }
  | _ => none }
def beliefMarksRow : OpenClaim := { program := "ytockidoncngdbaadoor", sum := "7b863d728173b1530e098ba26cb50db911cc47e551a12df88c50036181f71598", func := "typebar/typebarlaw27.BeliefMarks", spec := "beliefMarks", unfollowed := true, recurses := true, named := ["typebar/wide.spans", "unicode/utf8.first", "unicode/utf8.acceptRanges"], apart := false, laid := [("unicode/utf8.acceptRanges", laid_unicode_utf8_acceptRanges), ("typebar/wide.spans", laid_typebar_wide_spans), ("unicode/utf8.first", laid_unicode_utf8_first)] }
def BeliefMarksSaid : Prop := beliefMarksRow.holds Tryd.pinned (OpenSpec.ofChange beliefMarksSpec)

/-- ITS FALSE NEIGHBOUR: 'it returns false'. Refute it at one input. -/
def beliefMarksWrong : ChangeSpec := { name := "beliefMarks", fn := fun _ => fun
  | [d1, d2, d3, d4, d5] => { results := [.lit (.bool false)], args := [d1, d2, d3, d4, d5] }
  | _ => none }
def BeliefMarksWrongFalsely : Prop := beliefMarksRow.holds Tryd.pinned (OpenSpec.ofChange beliefMarksWrong)

/-- 'typebarlaw27.BeliefSound': WHATEVER THE INPUT: true; the input reads as it did. -/
def beliefSoundSpec : ChangeSpec := { name := "beliefSound", fn := fun _ => fun
  | [d1, d2, d3] => { results := [.lit (.bool true)], args := [d1, d2, d3] }
  | _ => none }
def beliefSoundRow : OpenClaim := { program := "ytockidoncngdbaadoor", sum := "7b863d728173b1530e098ba26cb50db911cc47e551a12df88c50036181f71598", func := "typebar/typebarlaw27.BeliefSound", spec := "beliefSound", unfollowed := true, recurses := true, named := ["typebar/wide.spans", "unicode/utf8.first", "unicode/utf8.acceptRanges"], apart := false, laid := [("unicode/utf8.acceptRanges", laid_unicode_utf8_acceptRanges), ("typebar/wide.spans", laid_typebar_wide_spans), ("unicode/utf8.first", laid_unicode_utf8_first)] }
def BeliefSoundSaid : Prop := beliefSoundRow.holds Tryd.pinned (OpenSpec.ofChange beliefSoundSpec)

/-- ITS FALSE NEIGHBOUR: 'it returns false'. Refute it at one input. -/
def beliefSoundWrong : ChangeSpec := { name := "beliefSound", fn := fun _ => fun
  | [d1, d2, d3] => { results := [.lit (.bool false)], args := [d1, d2, d3] }
  | _ => none }
def BeliefSoundWrongFalsely : Prop := beliefSoundRow.holds Tryd.pinned (OpenSpec.ofChange beliefSoundWrong)

/-- 'typebarlaw27.BeliefRuns': WHATEVER THE INPUT: true; the input reads as it did. -/
def beliefRunsSpec : ChangeSpec := { name := "beliefRuns", fn := fun _ => fun
  | [d1, d2] => { results := [.lit (.bool true)], args := [d1, d2] }
  | _ => none }
def beliefRunsRow : OpenClaim := { program := "ytockidoncngdbaadoor", sum := "7b863d728173b1530e098ba26cb50db911cc47e551a12df88c50036181f71598", func := "typebar/typebarlaw27.BeliefRuns", spec := "beliefRuns", unfollowed := true, recurses := true, named := ["typebar/wide.spans", "unicode/utf8.first", "unicode/utf8.acceptRanges"], apart := false, laid := [("unicode/utf8.acceptRanges", laid_unicode_utf8_acceptRanges), ("typebar/wide.spans", laid_typebar_wide_spans), ("unicode/utf8.first", laid_unicode_utf8_first)] }
def BeliefRunsSaid : Prop := beliefRunsRow.holds Tryd.pinned (OpenSpec.ofChange beliefRunsSpec)

/-- ITS FALSE NEIGHBOUR: 'it returns false'. Refute it at one input. -/
def beliefRunsWrong : ChangeSpec := { name := "beliefRuns", fn := fun _ => fun
  | [d1, d2] => { results := [.lit (.bool false)], args := [d1, d2] }
  | _ => none }
def BeliefRunsWrongFalsely : Prop := beliefRunsRow.holds Tryd.pinned (OpenSpec.ofChange beliefRunsWrong)

/-- 'typebarlaw27.BeliefTouched': WHATEVER THE INPUT: true; the input reads as it did. -/
def beliefTouchedSpec : ChangeSpec := { name := "beliefTouched", fn := fun _ => fun
  | [d1, d2, d3] => { results := [.lit (.bool true)], args := [d1, d2, d3] }
  | _ => none }
def beliefTouchedRow : OpenClaim := { program := "ytockidoncngdbaadoor", sum := "7b863d728173b1530e098ba26cb50db911cc47e551a12df88c50036181f71598", func := "typebar/typebarlaw27.BeliefTouched", spec := "beliefTouched", unfollowed := true, recurses := true, named := ["typebar/wide.spans", "unicode/utf8.first", "unicode/utf8.acceptRanges"], apart := false, laid := [("unicode/utf8.acceptRanges", laid_unicode_utf8_acceptRanges), ("typebar/wide.spans", laid_typebar_wide_spans), ("unicode/utf8.first", laid_unicode_utf8_first)] }
def BeliefTouchedSaid : Prop := beliefTouchedRow.holds Tryd.pinned (OpenSpec.ofChange beliefTouchedSpec)

/-- ITS FALSE NEIGHBOUR: 'it returns false'. Refute it at one input. -/
def beliefTouchedWrong : ChangeSpec := { name := "beliefTouched", fn := fun _ => fun
  | [d1, d2, d3] => { results := [.lit (.bool false)], args := [d1, d2, d3] }
  | _ => none }
def BeliefTouchedWrongFalsely : Prop := beliefTouchedRow.holds Tryd.pinned (OpenSpec.ofChange beliefTouchedWrong)

/-- 'typebarlaw27.BeliefForgets': WHATEVER THE INPUT: true; the input reads as it did. -/
def beliefForgetsSpec : ChangeSpec := { name := "beliefForgets", fn := fun _ => fun
  | [d1, d2, d3, d4, d5, d6] => { results := [.lit (.bool true)], args := [d1, d2, d3, d4, d5, d6] }
  | _ => none }
def beliefForgetsRow : OpenClaim := { program := "ytockidoncngdbaadoor", sum := "7b863d728173b1530e098ba26cb50db911cc47e551a12df88c50036181f71598", func := "typebar/typebarlaw27.BeliefForgets", spec := "beliefForgets", unfollowed := true, recurses := true, named := ["typebar/wide.spans", "unicode/utf8.first", "unicode/utf8.acceptRanges"], apart := false, laid := [("unicode/utf8.acceptRanges", laid_unicode_utf8_acceptRanges), ("typebar/wide.spans", laid_typebar_wide_spans), ("unicode/utf8.first", laid_unicode_utf8_first)] }
def BeliefForgetsSaid : Prop := beliefForgetsRow.holds Tryd.pinned (OpenSpec.ofChange beliefForgetsSpec)

/-- ITS FALSE NEIGHBOUR: 'it returns false'. Refute it at one input. -/
def beliefForgetsWrong : ChangeSpec := { name := "beliefForgets", fn := fun _ => fun
  | [d1, d2, d3, d4, d5, d6] => { results := [.lit (.bool false)], args := [d1, d2, d3, d4, d5, d6] }
  | _ => none }
def BeliefForgetsWrongFalsely : Prop := beliefForgetsRow.holds Tryd.pinned (OpenSpec.ofChange beliefForgetsWrong)

/- THE SECOND FORM. 'bulk': how many values and letters a reading holds, each counted each time it is reached (what is shared counts as often as it is met; a slice's spare places count too). A statement '..UptoSaid' is the law's where the arguments, and the package variables that the reading takes, are together of bulk at most 1048576: NARROWER than '..Said'. Prove '..Said' where nothing that the law and all that it calls make is longer than what came in: it says more and counts as full. Else prove '..UptoSaid'. A law counts once. -/
mutual
def uptoBulk {H : Type} : DataW H → Nat
  | .lit (.string bytes) => bytes.length + 1
  | .lit _ => 1
  | .nil => 1
  | .ptr d => uptoBulk d + 1
  | .slice elems spare => uptoBulkAll elems + uptoBulkAll spare + 1
  | .agg parts => uptoBulkAll parts + 1
  | .iface _ d => uptoBulk d + 1
  | .map entries => uptoBulkEntries entries + 1
  | .held _ => 1
def uptoBulkAll {H : Type} : List (DataW H) → Nat
  | [] => 0
  | d :: r => uptoBulk d + uptoBulkAll r
def uptoBulkEntries {H : Type} : List (Lit × DataW H) → Nat
  | [] => 0
  | x :: r => uptoBulkEntry x + uptoBulkEntries r
def uptoBulkEntry {H : Type} : Lit × DataW H → Nat
  | (.string bytes, d) => bytes.length + uptoBulk d + 1
  | (_, d) => uptoBulk d + 1
 end
def uptoSmall : (H : Type) → List (DataW H) → Bool := fun _ ds => decide (uptoBulkAll ds ≤ 1048576)
def OpenSpec.upto (s : _root_.Go.ChangeSpec) : _root_.Go.OpenSpec := { _root_.Go.OpenSpec.ofChange s with cond := some uptoSmall }

/-- 'typebarlaw28.MotionDoes', WHERE WHAT IT READS IS OF BULK AT MOST 1048576: true; the input reads as it did. -/
def motionDoesUptoRow : OpenClaim := { program := "ytockidoncngdbaadoor", sum := "7b863d728173b1530e098ba26cb50db911cc47e551a12df88c50036181f71598", func := "typebar/typebarlaw28.MotionDoes", spec := "motionDoes", unfollowed := true, recurses := true, named := ["typebar/wide.spans", "internal/strconv.uint64pow10", "math/bits.deBruijn32tab", "math/bits.deBruijn64tab"], apart := false, laid := [("math/bits.deBruijn32tab", laid_math_bits_deBruijn32tab), ("math/bits.deBruijn64tab", laid_math_bits_deBruijn64tab), ("internal/strconv.uint64pow10", laid_internal_strconv_uint64pow10), ("typebar/wide.spans", laid_typebar_wide_spans)], narrowed := true }
def MotionDoesUptoSaid : Prop := motionDoesUptoRow.holds Tryd.pinned (OpenSpec.upto motionDoesSpec)

/-- 'typebarlaw28.MotionLeast', WHERE WHAT IT READS IS OF BULK AT MOST 1048576: true; the input reads as it did. -/
def motionLeastUptoRow : OpenClaim := { program := "ytockidoncngdbaadoor", sum := "7b863d728173b1530e098ba26cb50db911cc47e551a12df88c50036181f71598", func := "typebar/typebarlaw28.MotionLeast", spec := "motionLeast", unfollowed := true, recurses := true, named := ["typebar/wide.spans", "internal/strconv.uint64pow10", "math/bits.deBruijn32tab", "math/bits.deBruijn64tab"], apart := false, laid := [("math/bits.deBruijn32tab", laid_math_bits_deBruijn32tab), ("math/bits.deBruijn64tab", laid_math_bits_deBruijn64tab), ("internal/strconv.uint64pow10", laid_internal_strconv_uint64pow10), ("typebar/wide.spans", laid_typebar_wide_spans)], narrowed := true }
def MotionLeastUptoSaid : Prop := motionLeastUptoRow.holds Tryd.pinned (OpenSpec.upto motionLeastSpec)

/-- 'typebarlaw28.MotionLeads', WHERE WHAT IT READS IS OF BULK AT MOST 1048576: true; the input reads as it did. -/
def motionLeadsUptoRow : OpenClaim := { program := "ytockidoncngdbaadoor", sum := "7b863d728173b1530e098ba26cb50db911cc47e551a12df88c50036181f71598", func := "typebar/typebarlaw28.MotionLeads", spec := "motionLeads", unfollowed := true, recurses := true, named := ["typebar/wide.spans", "internal/strconv.uint64pow10", "math/bits.deBruijn32tab", "math/bits.deBruijn64tab"], apart := false, laid := [("math/bits.deBruijn32tab", laid_math_bits_deBruijn32tab), ("math/bits.deBruijn64tab", laid_math_bits_deBruijn64tab), ("internal/strconv.uint64pow10", laid_internal_strconv_uint64pow10), ("typebar/wide.spans", laid_typebar_wide_spans)], narrowed := true }
def MotionLeadsUptoSaid : Prop := motionLeadsUptoRow.holds Tryd.pinned (OpenSpec.upto motionLeadsSpec)

/-- 'typebarlaw27.BeliefNews', WHERE WHAT IT READS IS OF BULK AT MOST 1048576: true; the input reads as it did. -/
def beliefNewsUptoRow : OpenClaim := { program := "ytockidoncngdbaadoor", sum := "7b863d728173b1530e098ba26cb50db911cc47e551a12df88c50036181f71598", func := "typebar/typebarlaw27.BeliefNews", spec := "beliefNews", unfollowed := true, recurses := true, named := ["typebar/wide.spans", "unicode/utf8.first", "unicode/utf8.acceptRanges"], apart := false, laid := [("unicode/utf8.acceptRanges", laid_unicode_utf8_acceptRanges), ("typebar/wide.spans", laid_typebar_wide_spans), ("unicode/utf8.first", laid_unicode_utf8_first)], narrowed := true }
def BeliefNewsUptoSaid : Prop := beliefNewsUptoRow.holds Tryd.pinned (OpenSpec.upto beliefNewsSpec)

/-- 'typebarlaw27.BeliefMarks', WHERE WHAT IT READS IS OF BULK AT MOST 1048576: true; the input reads as it did. -/
def beliefMarksUptoRow : OpenClaim := { program := "ytockidoncngdbaadoor", sum := "7b863d728173b1530e098ba26cb50db911cc47e551a12df88c50036181f71598", func := "typebar/typebarlaw27.BeliefMarks", spec := "beliefMarks", unfollowed := true, recurses := true, named := ["typebar/wide.spans", "unicode/utf8.first", "unicode/utf8.acceptRanges"], apart := false, laid := [("unicode/utf8.acceptRanges", laid_unicode_utf8_acceptRanges), ("typebar/wide.spans", laid_typebar_wide_spans), ("unicode/utf8.first", laid_unicode_utf8_first)], narrowed := true }
def BeliefMarksUptoSaid : Prop := beliefMarksUptoRow.holds Tryd.pinned (OpenSpec.upto beliefMarksSpec)

/-- 'typebarlaw27.BeliefSound', WHERE WHAT IT READS IS OF BULK AT MOST 1048576: true; the input reads as it did. -/
def beliefSoundUptoRow : OpenClaim := { program := "ytockidoncngdbaadoor", sum := "7b863d728173b1530e098ba26cb50db911cc47e551a12df88c50036181f71598", func := "typebar/typebarlaw27.BeliefSound", spec := "beliefSound", unfollowed := true, recurses := true, named := ["typebar/wide.spans", "unicode/utf8.first", "unicode/utf8.acceptRanges"], apart := false, laid := [("unicode/utf8.acceptRanges", laid_unicode_utf8_acceptRanges), ("typebar/wide.spans", laid_typebar_wide_spans), ("unicode/utf8.first", laid_unicode_utf8_first)], narrowed := true }
def BeliefSoundUptoSaid : Prop := beliefSoundUptoRow.holds Tryd.pinned (OpenSpec.upto beliefSoundSpec)

/-- 'typebarlaw27.BeliefRuns', WHERE WHAT IT READS IS OF BULK AT MOST 1048576: true; the input reads as it did. -/
def beliefRunsUptoRow : OpenClaim := { program := "ytockidoncngdbaadoor", sum := "7b863d728173b1530e098ba26cb50db911cc47e551a12df88c50036181f71598", func := "typebar/typebarlaw27.BeliefRuns", spec := "beliefRuns", unfollowed := true, recurses := true, named := ["typebar/wide.spans", "unicode/utf8.first", "unicode/utf8.acceptRanges"], apart := false, laid := [("unicode/utf8.acceptRanges", laid_unicode_utf8_acceptRanges), ("typebar/wide.spans", laid_typebar_wide_spans), ("unicode/utf8.first", laid_unicode_utf8_first)], narrowed := true }
def BeliefRunsUptoSaid : Prop := beliefRunsUptoRow.holds Tryd.pinned (OpenSpec.upto beliefRunsSpec)

/-- 'typebarlaw27.BeliefTouched', WHERE WHAT IT READS IS OF BULK AT MOST 1048576: true; the input reads as it did. -/
def beliefTouchedUptoRow : OpenClaim := { program := "ytockidoncngdbaadoor", sum := "7b863d728173b1530e098ba26cb50db911cc47e551a12df88c50036181f71598", func := "typebar/typebarlaw27.BeliefTouched", spec := "beliefTouched", unfollowed := true, recurses := true, named := ["typebar/wide.spans", "unicode/utf8.first", "unicode/utf8.acceptRanges"], apart := false, laid := [("unicode/utf8.acceptRanges", laid_unicode_utf8_acceptRanges), ("typebar/wide.spans", laid_typebar_wide_spans), ("unicode/utf8.first", laid_unicode_utf8_first)], narrowed := true }
def BeliefTouchedUptoSaid : Prop := beliefTouchedUptoRow.holds Tryd.pinned (OpenSpec.upto beliefTouchedSpec)

/-- 'typebarlaw27.BeliefForgets', WHERE WHAT IT READS IS OF BULK AT MOST 1048576: true; the input reads as it did. -/
def beliefForgetsUptoRow : OpenClaim := { program := "ytockidoncngdbaadoor", sum := "7b863d728173b1530e098ba26cb50db911cc47e551a12df88c50036181f71598", func := "typebar/typebarlaw27.BeliefForgets", spec := "beliefForgets", unfollowed := true, recurses := true, named := ["typebar/wide.spans", "unicode/utf8.first", "unicode/utf8.acceptRanges"], apart := false, laid := [("unicode/utf8.acceptRanges", laid_unicode_utf8_acceptRanges), ("typebar/wide.spans", laid_typebar_wide_spans), ("unicode/utf8.first", laid_unicode_utf8_first)], narrowed := true }
def BeliefForgetsUptoSaid : Prop := beliefForgetsUptoRow.holds Tryd.pinned (OpenSpec.upto beliefForgetsSpec)

end Rows
end Go.Proofs.YtockidoncngdbaaDoor
