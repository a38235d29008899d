/-
  NARROWER THAN 'FOR EVERY INPUT', by the rows' own cells (each row's printed sentence says how): ScanNext: laid · ScanAll: laid · ScanBack: laid · ScanGoes: laid · ScanCuts: laid · TermNews: laid · TermDoes: laid · TermFeeds: laid · TermSizes: laid · TermStays: laid · TermParts: laid · TermMoves: laid · TermFills: laid.
  DERIVED. THE GIVEN ROWS OF THIS SEAT. 13 by the template 'for every input the law returns true; each argument reads behind the call as it read before'; 0 by the template 'total and deterministic' (their statements: YtplabpjkkcillaaDoorTotals.lean).
  GIVEN WITH THE SEED: the statements are not yours to turn. If you find one false, say at which input.
  Laid BY PROGRAM, IN A SANDBOX (cutbox-rows.mjs): the forced cells as the released guide's own fill.sh prints them over the translation d83d4390ebfdb8ee… (all of the seat's roots in one cut). By AI agents, Wed Nov 11 2026. No macro, syntax, notation, axiom, sorry.
-/
import Derived.Test.YtplabpjkkcillaaDoorChecked
import GoSem.PinnedTables
import GoSem.Claim
import GoSem.ClaimJoined
import GoSem.ClaimMapViews
import Derived.JoinedTies
import Derived.KernelRfl
namespace Go.Proofs.YtplabpjkkcillaaDoor
/- THE CELL 'sum', in the pinned program and in every row, IS THE sha256 OF THE DUMP (.gsa) THAT YtplabpjkkcillaaDoorProg.lean LOADS. Nothing in Lean hashes anything: it is a label: what it is worth is what the hold of that sum in a sandbox is worth. -/
noncomputable def Tryd.pinned : Pinned := { name := "ytplabpjkkcillaadoor", sum := "d83d4390ebfdb8ee2a7cceacc8d5fe62c85d40cfb140fd5f1f2532695d7a8d68", checked := Tryd.checked }
namespace Rows
def none {H : Type} : Left H := { results := [], args := [] }

/- WHAT THE LISTED PACKAGE-LEVEL VARIABLES READ AS WHEN THE CALL BEGINS. Each datum BY PROGRAM (the guide's laid-datum.mjs) off the statement by which the dump's own 'gosem.cut.vars' lays the variable. In a bare row this is a premise. The card (YtplabpjkkcillaaDoorCards.lean) ties it to the program's text. -/
def laid_unicode_utf8_acceptRanges {H : Type} : DataW H := .agg [.agg [.lit (.int .u8 128), .lit (.int .u8 191)], .agg [.lit (.int .u8 160), .lit (.int .u8 191)], .agg [.lit (.int .u8 128), .lit (.int .u8 159)], .agg [.lit (.int .u8 144), .lit (.int .u8 191)], .agg [.lit (.int .u8 128), .lit (.int .u8 143)], .agg [.lit (.int .u8 0), .lit (.int .u8 0)], .agg [.lit (.int .u8 0), .lit (.int .u8 0)], .agg [.lit (.int .u8 0), .lit (.int .u8 0)], .agg [.lit (.int .u8 0), .lit (.int .u8 0)], .agg [.lit (.int .u8 0), .lit (.int .u8 0)], .agg [.lit (.int .u8 0), .lit (.int .u8 0)], .agg [.lit (.int .u8 0), .lit (.int .u8 0)], .agg [.lit (.int .u8 0), .lit (.int .u8 0)], .agg [.lit (.int .u8 0), .lit (.int .u8 0)], .agg [.lit (.int .u8 0), .lit (.int .u8 0)], .agg [.lit (.int .u8 0), .lit (.int .u8 0)]]
/-- One of Go's own tables, pinned by name: the form's constant. -/
def laid_unicode_utf8_first : DataW Unit := Go.Pinned.utf8First
def laid_math_bits_deBruijn32tab {H : Type} : DataW H := .agg [.lit (.int .u8 0), .lit (.int .u8 1), .lit (.int .u8 28), .lit (.int .u8 2), .lit (.int .u8 29), .lit (.int .u8 14), .lit (.int .u8 24), .lit (.int .u8 3), .lit (.int .u8 30), .lit (.int .u8 22), .lit (.int .u8 20), .lit (.int .u8 15), .lit (.int .u8 25), .lit (.int .u8 17), .lit (.int .u8 4), .lit (.int .u8 8), .lit (.int .u8 31), .lit (.int .u8 27), .lit (.int .u8 13), .lit (.int .u8 23), .lit (.int .u8 21), .lit (.int .u8 19), .lit (.int .u8 16), .lit (.int .u8 7), .lit (.int .u8 26), .lit (.int .u8 12), .lit (.int .u8 18), .lit (.int .u8 6), .lit (.int .u8 11), .lit (.int .u8 5), .lit (.int .u8 10), .lit (.int .u8 9)]
def laid_math_bits_deBruijn64tab {H : Type} : DataW H := .agg [.lit (.int .u8 0), .lit (.int .u8 1), .lit (.int .u8 56), .lit (.int .u8 2), .lit (.int .u8 57), .lit (.int .u8 49), .lit (.int .u8 28), .lit (.int .u8 3), .lit (.int .u8 61), .lit (.int .u8 58), .lit (.int .u8 42), .lit (.int .u8 50), .lit (.int .u8 38), .lit (.int .u8 29), .lit (.int .u8 17), .lit (.int .u8 4), .lit (.int .u8 62), .lit (.int .u8 47), .lit (.int .u8 59), .lit (.int .u8 36), .lit (.int .u8 45), .lit (.int .u8 43), .lit (.int .u8 51), .lit (.int .u8 22), .lit (.int .u8 53), .lit (.int .u8 39), .lit (.int .u8 33), .lit (.int .u8 30), .lit (.int .u8 24), .lit (.int .u8 18), .lit (.int .u8 12), .lit (.int .u8 5), .lit (.int .u8 63), .lit (.int .u8 55), .lit (.int .u8 48), .lit (.int .u8 27), .lit (.int .u8 60), .lit (.int .u8 41), .lit (.int .u8 37), .lit (.int .u8 16), .lit (.int .u8 46), .lit (.int .u8 35), .lit (.int .u8 44), .lit (.int .u8 21), .lit (.int .u8 52), .lit (.int .u8 32), .lit (.int .u8 23), .lit (.int .u8 11), .lit (.int .u8 54), .lit (.int .u8 26), .lit (.int .u8 40), .lit (.int .u8 15), .lit (.int .u8 34), .lit (.int .u8 20), .lit (.int .u8 31), .lit (.int .u8 10), .lit (.int .u8 25), .lit (.int .u8 14), .lit (.int .u8 19), .lit (.int .u8 9), .lit (.int .u8 13), .lit (.int .u8 8), .lit (.int .u8 7), .lit (.int .u8 6)]
def laid_internal_strconv_uint64pow10 {H : Type} : DataW H := .agg [.lit (.int .u64 1), .lit (.int .u64 10), .lit (.int .u64 100), .lit (.int .u64 1000), .lit (.int .u64 10000), .lit (.int .u64 100000), .lit (.int .u64 1000000), .lit (.int .u64 10000000), .lit (.int .u64 100000000), .lit (.int .u64 1000000000), .lit (.int .u64 10000000000), .lit (.int .u64 100000000000), .lit (.int .u64 1000000000000), .lit (.int .u64 10000000000000), .lit (.int .u64 100000000000000), .lit (.int .u64 1000000000000000), .lit (.int .u64 10000000000000000), .lit (.int .u64 100000000000000000), .lit (.int .u64 1000000000000000000), .lit (.int .u64 10000000000000000000)]
def laid_typebar_wide_spans {H : Type} : DataW H := .agg [.agg [.lit (.int .i32 4352), .lit (.int .i32 4447)], .agg [.lit (.int .i32 11904), .lit (.int .i32 12350)], .agg [.lit (.int .i32 12353), .lit (.int .i32 42191)], .agg [.lit (.int .i32 44032), .lit (.int .i32 55203)], .agg [.lit (.int .i32 63744), .lit (.int .i32 64255)], .agg [.lit (.int .i32 65072), .lit (.int .i32 65135)], .agg [.lit (.int .i32 65281), .lit (.int .i32 65376)], .agg [.lit (.int .i32 65504), .lit (.int .i32 65510)], .agg [.lit (.int .i32 127744), .lit (.int .i32 128591)], .agg [.lit (.int .i32 129280), .lit (.int .i32 129535)], .agg [.lit (.int .i32 131072), .lit (.int .i32 262141)]]

/-- 'typebarlaw06.ScanNext': WHATEVER THE INPUT: true; the input reads as it did. -/
def scanNextSpec : ChangeSpec := { name := "scanNext", fn := fun _ => fun
  | [d] => { results := [.lit (.bool true)], args := [d] }
  | _ => none }
def scanNextRow : OpenClaim := { program := "ytplabpjkkcillaadoor", sum := "d83d4390ebfdb8ee2a7cceacc8d5fe62c85d40cfb140fd5f1f2532695d7a8d68", func := "typebar/typebarlaw06.ScanNext", spec := "scanNext", unfollowed := true, recurses := true, named := ["unicode/utf8.first", "unicode/utf8.acceptRanges"], apart := false, laid := [("unicode/utf8.acceptRanges", laid_unicode_utf8_acceptRanges), ("unicode/utf8.first", laid_unicode_utf8_first)] }
def ScanNextSaid : Prop := scanNextRow.holds Tryd.pinned (OpenSpec.ofChange scanNextSpec)

/-- ITS FALSE NEIGHBOUR: 'it returns false'. Refute it at one input. -/
def scanNextWrong : ChangeSpec := { name := "scanNext", fn := fun _ => fun
  | [d] => { results := [.lit (.bool false)], args := [d] }
  | _ => none }
def ScanNextWrongFalsely : Prop := scanNextRow.holds Tryd.pinned (OpenSpec.ofChange scanNextWrong)

/-- 'typebarlaw06.ScanAll': WHATEVER THE INPUT: true; the input reads as it did. -/
def scanAllSpec : ChangeSpec := { name := "scanAll", fn := fun _ => fun
  | [d] => { results := [.lit (.bool true)], args := [d] }
  | _ => none }
def scanAllRow : OpenClaim := { program := "ytplabpjkkcillaadoor", sum := "d83d4390ebfdb8ee2a7cceacc8d5fe62c85d40cfb140fd5f1f2532695d7a8d68", func := "typebar/typebarlaw06.ScanAll", spec := "scanAll", unfollowed := true, recurses := true, named := ["unicode/utf8.first", "unicode/utf8.acceptRanges"], apart := false, laid := [("unicode/utf8.acceptRanges", laid_unicode_utf8_acceptRanges), ("unicode/utf8.first", laid_unicode_utf8_first)] }
def ScanAllSaid : Prop := scanAllRow.holds Tryd.pinned (OpenSpec.ofChange scanAllSpec)

/-- ITS FALSE NEIGHBOUR: 'it returns false'. Refute it at one input. -/
def scanAllWrong : ChangeSpec := { name := "scanAll", fn := fun _ => fun
  | [d] => { results := [.lit (.bool false)], args := [d] }
  | _ => none }
def ScanAllWrongFalsely : Prop := scanAllRow.holds Tryd.pinned (OpenSpec.ofChange scanAllWrong)

/-- 'typebarlaw06.ScanBack': WHATEVER THE INPUT: true; the input reads as it did. -/
def scanBackSpec : ChangeSpec := { name := "scanBack", fn := fun _ => fun
  | [d1, d2] => { results := [.lit (.bool true)], args := [d1, d2] }
  | _ => none }
def scanBackRow : OpenClaim := { program := "ytplabpjkkcillaadoor", sum := "d83d4390ebfdb8ee2a7cceacc8d5fe62c85d40cfb140fd5f1f2532695d7a8d68", func := "typebar/typebarlaw06.ScanBack", spec := "scanBack", unfollowed := true, recurses := true, named := ["internal/strconv.uint64pow10", "math/bits.deBruijn32tab", "math/bits.deBruijn64tab", "unicode/utf8.first", "unicode/utf8.acceptRanges"], apart := false, laid := [("math/bits.deBruijn32tab", laid_math_bits_deBruijn32tab), ("math/bits.deBruijn64tab", laid_math_bits_deBruijn64tab), ("internal/strconv.uint64pow10", laid_internal_strconv_uint64pow10), ("unicode/utf8.acceptRanges", laid_unicode_utf8_acceptRanges), ("unicode/utf8.first", laid_unicode_utf8_first)] }
def ScanBackSaid : Prop := scanBackRow.holds Tryd.pinned (OpenSpec.ofChange scanBackSpec)

/-- ITS FALSE NEIGHBOUR: 'it returns false'. Refute it at one input. -/
def scanBackWrong : ChangeSpec := { name := "scanBack", fn := fun _ => fun
  | [d1, d2] => { results := [.lit (.bool false)], args := [d1, d2] }
  | _ => none }
def ScanBackWrongFalsely : Prop := scanBackRow.holds Tryd.pinned (OpenSpec.ofChange scanBackWrong)

/-- 'typebarlaw06.ScanGoes': WHATEVER THE INPUT: true; the input reads as it did. -/
def scanGoesSpec : ChangeSpec := { name := "scanGoes", fn := fun _ => fun
  | [d1, d2] => { results := [.lit (.bool true)], args := [d1, d2] }
  | _ => none }
def scanGoesRow : OpenClaim := { program := "ytplabpjkkcillaadoor", sum := "d83d4390ebfdb8ee2a7cceacc8d5fe62c85d40cfb140fd5f1f2532695d7a8d68", func := "typebar/typebarlaw06.ScanGoes", spec := "scanGoes", unfollowed := true, recurses := true, named := ["internal/strconv.uint64pow10", "math/bits.deBruijn32tab", "math/bits.deBruijn64tab", "unicode/utf8.first", "unicode/utf8.acceptRanges"], apart := false, laid := [("math/bits.deBruijn32tab", laid_math_bits_deBruijn32tab), ("math/bits.deBruijn64tab", laid_math_bits_deBruijn64tab), ("internal/strconv.uint64pow10", laid_internal_strconv_uint64pow10), ("unicode/utf8.acceptRanges", laid_unicode_utf8_acceptRanges), ("unicode/utf8.first", laid_unicode_utf8_first)] }
def ScanGoesSaid : Prop := scanGoesRow.holds Tryd.pinned (OpenSpec.ofChange scanGoesSpec)

/-- ITS FALSE NEIGHBOUR: 'it returns false'. Refute it at one input. -/
def scanGoesWrong : ChangeSpec := { name := "scanGoes", fn := fun _ => fun
  | [d1, d2] => { results := [.lit (.bool false)], args := [d1, d2] }
  | _ => none }
def ScanGoesWrongFalsely : Prop := scanGoesRow.holds Tryd.pinned (OpenSpec.ofChange scanGoesWrong)

/-- 'typebarlaw06.ScanCuts': WHATEVER THE INPUT: true; the input reads as it did. -/
def scanCutsSpec : ChangeSpec := { name := "scanCuts", fn := fun _ => fun
  | [d1, d2] => { results := [.lit (.bool true)], args := [d1, d2] }
  | _ => none }
def scanCutsRow : OpenClaim := { program := "ytplabpjkkcillaadoor", sum := "d83d4390ebfdb8ee2a7cceacc8d5fe62c85d40cfb140fd5f1f2532695d7a8d68", func := "typebar/typebarlaw06.ScanCuts", spec := "scanCuts", unfollowed := true, recurses := true, named := ["unicode/utf8.first", "unicode/utf8.acceptRanges", "internal/strconv.uint64pow10", "math/bits.deBruijn32tab", "math/bits.deBruijn64tab"], apart := false, laid := [("math/bits.deBruijn32tab", laid_math_bits_deBruijn32tab), ("math/bits.deBruijn64tab", laid_math_bits_deBruijn64tab), ("internal/strconv.uint64pow10", laid_internal_strconv_uint64pow10), ("unicode/utf8.acceptRanges", laid_unicode_utf8_acceptRanges), ("unicode/utf8.first", laid_unicode_utf8_first)] }
def ScanCutsSaid : Prop := scanCutsRow.holds Tryd.pinned (OpenSpec.ofChange scanCutsSpec)

/-- ITS FALSE NEIGHBOUR: 'it returns false'. Refute it at one input. -/
def scanCutsWrong : ChangeSpec := { name := "scanCuts", fn := fun _ => fun
  | [d1, d2] => { results := [.lit (.bool false)], args := [d1, d2] }
  | _ => none }
def ScanCutsWrongFalsely : Prop := scanCutsRow.holds Tryd.pinned (OpenSpec.ofChange scanCutsWrong)

/-- 'typebarlaw07.TermNews': WHATEVER THE INPUT: true; the input reads as it did. -/
def termNewsSpec : ChangeSpec := { name := "termNews", fn := fun _ => fun
  | [d1, d2, d3] => { results := [.lit (.bool true)], args := [d1, d2, d3] }
  | _ => none }
def termNewsRow : OpenClaim := { program := "ytplabpjkkcillaadoor", sum := "d83d4390ebfdb8ee2a7cceacc8d5fe62c85d40cfb140fd5f1f2532695d7a8d68", func := "typebar/typebarlaw07.TermNews", spec := "termNews", unfollowed := true, recurses := true, named := ["typebar/wide.spans", "unicode/utf8.first", "unicode/utf8.acceptRanges"], apart := false, laid := [("unicode/utf8.acceptRanges", laid_unicode_utf8_acceptRanges), ("typebar/wide.spans", laid_typebar_wide_spans), ("unicode/utf8.first", laid_unicode_utf8_first)] }
def TermNewsSaid : Prop := termNewsRow.holds Tryd.pinned (OpenSpec.ofChange termNewsSpec)

/-- ITS FALSE NEIGHBOUR: 'it returns false'. Refute it at one input. -/
def termNewsWrong : ChangeSpec := { name := "termNews", fn := fun _ => fun
  | [d1, d2, d3] => { results := [.lit (.bool false)], args := [d1, d2, d3] }
  | _ => none }
def TermNewsWrongFalsely : Prop := termNewsRow.holds Tryd.pinned (OpenSpec.ofChange termNewsWrong)

/-- 'typebarlaw07.TermDoes': WHATEVER THE INPUT: true; the input reads as it did. -/
def termDoesSpec : ChangeSpec := { name := "termDoes", fn := fun _ => fun
  | [d1, d2] => { results := [.lit (.bool true)], args := [d1, d2] }
  | _ => none }
def termDoesRow : OpenClaim := { program := "ytplabpjkkcillaadoor", sum := "d83d4390ebfdb8ee2a7cceacc8d5fe62c85d40cfb140fd5f1f2532695d7a8d68", func := "typebar/typebarlaw07.TermDoes", spec := "termDoes", unfollowed := true, recurses := true, named := ["typebar/wide.spans", "unicode/utf8.first", "unicode/utf8.acceptRanges"], apart := false, laid := [("unicode/utf8.acceptRanges", laid_unicode_utf8_acceptRanges), ("typebar/wide.spans", laid_typebar_wide_spans), ("unicode/utf8.first", laid_unicode_utf8_first)] }
def TermDoesSaid : Prop := termDoesRow.holds Tryd.pinned (OpenSpec.ofChange termDoesSpec)

/-- ITS FALSE NEIGHBOUR: 'it returns false'. Refute it at one input. -/
def termDoesWrong : ChangeSpec := { name := "termDoes", fn := fun _ => fun
  | [d1, d2] => { results := [.lit (.bool false)], args := [d1, d2] }
  | _ => none }
def TermDoesWrongFalsely : Prop := termDoesRow.holds Tryd.pinned (OpenSpec.ofChange termDoesWrong)

/-- 'typebarlaw07.TermFeeds': WHATEVER THE INPUT: true; the input reads as it did. -/
def termFeedsSpec : ChangeSpec := { name := "termFeeds", fn := fun _ => fun
  | [d1, d2] => { results := [.lit (.bool true)], args := [d1, d2] }
  | _ => none }
def termFeedsRow : OpenClaim := { program := "ytplabpjkkcillaadoor", sum := "d83d4390ebfdb8ee2a7cceacc8d5fe62c85d40cfb140fd5f1f2532695d7a8d68", func := "typebar/typebarlaw07.TermFeeds", spec := "termFeeds", unfollowed := true, recurses := true, named := ["typebar/wide.spans", "unicode/utf8.first", "unicode/utf8.acceptRanges"], apart := false, laid := [("unicode/utf8.acceptRanges", laid_unicode_utf8_acceptRanges), ("typebar/wide.spans", laid_typebar_wide_spans), ("unicode/utf8.first", laid_unicode_utf8_first)] }
def TermFeedsSaid : Prop := termFeedsRow.holds Tryd.pinned (OpenSpec.ofChange termFeedsSpec)

/-- ITS FALSE NEIGHBOUR: 'it returns false'. Refute it at one input. -/
def termFeedsWrong : ChangeSpec := { name := "termFeeds", fn := fun _ => fun
  | [d1, d2] => { results := [.lit (.bool false)], args := [d1, d2] }
  | _ => none }
def TermFeedsWrongFalsely : Prop := termFeedsRow.holds Tryd.pinned (OpenSpec.ofChange termFeedsWrong)

/-- 'typebarlaw07.TermSizes': WHATEVER THE INPUT: true; the input reads as it did. -/
def termSizesSpec : ChangeSpec := { name := "termSizes", fn := fun _ => fun
  | [d1, d2, d3] => { results := [.lit (.bool true)], args := [d1, d2, d3] }
  | _ => none }
def termSizesRow : OpenClaim := { program := "ytplabpjkkcillaadoor", sum := "d83d4390ebfdb8ee2a7cceacc8d5fe62c85d40cfb140fd5f1f2532695d7a8d68", func := "typebar/typebarlaw07.TermSizes", spec := "termSizes", unfollowed := true, recurses := true, named := ["typebar/wide.spans", "unicode/utf8.first", "unicode/utf8.acceptRanges"], apart := false, laid := [("unicode/utf8.acceptRanges", laid_unicode_utf8_acceptRanges), ("typebar/wide.spans", laid_typebar_wide_spans), ("unicode/utf8.first", laid_unicode_utf8_first)] }
def TermSizesSaid : Prop := termSizesRow.holds Tryd.pinned (OpenSpec.ofChange termSizesSpec)

/-- ITS FALSE NEIGHBOUR: 'it returns false'. Refute it at one input. -/
def termSizesWrong : ChangeSpec := { name := "termSizes", fn := fun _ => fun
  | [d1, d2, d3] => { results := [.lit (.bool false)], args := [d1, d2, d3] }
  | _ => none }
def TermSizesWrongFalsely : Prop := termSizesRow.holds Tryd.pinned (OpenSpec.ofChange termSizesWrong)

/-- 'typebarlaw07.TermStays': WHATEVER THE INPUT: true; the input reads as it did. -/
def termStaysSpec : ChangeSpec := { name := "termStays", fn := fun _ => fun
  | [d1, d2, d3, d4] => { results := [.lit (.bool true)], args := [d1, d2, d3, d4] }
  | _ => none }
def termStaysRow : OpenClaim := { program := "ytplabpjkkcillaadoor", sum := "d83d4390ebfdb8ee2a7cceacc8d5fe62c85d40cfb140fd5f1f2532695d7a8d68", func := "typebar/typebarlaw07.TermStays", spec := "termStays", unfollowed := true, recurses := true, named := ["typebar/wide.spans", "unicode/utf8.first", "unicode/utf8.acceptRanges"], apart := false, laid := [("unicode/utf8.acceptRanges", laid_unicode_utf8_acceptRanges), ("typebar/wide.spans", laid_typebar_wide_spans), ("unicode/utf8.first", laid_unicode_utf8_first)] }
def TermStaysSaid : Prop := termStaysRow.holds Tryd.pinned (OpenSpec.ofChange termStaysSpec)

/-- ITS FALSE NEIGHBOUR: 'it returns false'. Refute it at one input. -/
def termStaysWrong : ChangeSpec := { name := "termStays", fn := fun _ => fun
  | [d1, d2, d3, d4] => { results := [.lit (.bool false)], args := [d1, d2, d3, d4] }
  | _ => none }
def TermStaysWrongFalsely : Prop := termStaysRow.holds Tryd.pinned (OpenSpec.ofChange termStaysWrong)

/-- 'typebarlaw07.TermParts': WHATEVER THE INPUT: true; the input reads as it did. -/
def termPartsSpec : ChangeSpec := { name := "termParts", fn := fun _ => fun
  | [d1, d2, d3] => { results := [.lit (.bool true)], args := [d1, d2, d3] }
  | _ => none }
def termPartsRow : OpenClaim := { program := "ytplabpjkkcillaadoor", sum := "d83d4390ebfdb8ee2a7cceacc8d5fe62c85d40cfb140fd5f1f2532695d7a8d68", func := "typebar/typebarlaw07.TermParts", spec := "termParts", unfollowed := true, recurses := true, named := ["typebar/wide.spans", "unicode/utf8.first", "unicode/utf8.acceptRanges"], apart := false, laid := [("unicode/utf8.acceptRanges", laid_unicode_utf8_acceptRanges), ("typebar/wide.spans", laid_typebar_wide_spans), ("unicode/utf8.first", laid_unicode_utf8_first)] }
def TermPartsSaid : Prop := termPartsRow.holds Tryd.pinned (OpenSpec.ofChange termPartsSpec)

/-- ITS FALSE NEIGHBOUR: 'it returns false'. Refute it at one input. -/
def termPartsWrong : ChangeSpec := { name := "termParts", fn := fun _ => fun
  | [d1, d2, d3] => { results := [.lit (.bool false)], args := [d1, d2, d3] }
  | _ => none }
def TermPartsWrongFalsely : Prop := termPartsRow.holds Tryd.pinned (OpenSpec.ofChange termPartsWrong)

/-- 'typebarlaw07.TermMoves': WHATEVER THE INPUT: true; the input reads as it did. -/
def termMovesSpec : ChangeSpec := { name := "termMoves", fn := fun _ => fun
  | [d1, d2] => { results := [.lit (.bool true)], args := [d1, d2] }
  | _ => none }
def termMovesRow : OpenClaim := { program := "ytplabpjkkcillaadoor", sum := "d83d4390ebfdb8ee2a7cceacc8d5fe62c85d40cfb140fd5f1f2532695d7a8d68", func := "typebar/typebarlaw07.TermMoves", spec := "termMoves", unfollowed := true, recurses := true, named := ["typebar/wide.spans", "unicode/utf8.first", "unicode/utf8.acceptRanges"], apart := false, laid := [("unicode/utf8.acceptRanges", laid_unicode_utf8_acceptRanges), ("typebar/wide.spans", laid_typebar_wide_spans), ("unicode/utf8.first", laid_unicode_utf8_first)] }
def TermMovesSaid : Prop := termMovesRow.holds Tryd.pinned (OpenSpec.ofChange termMovesSpec)

/-- ITS FALSE NEIGHBOUR: 'it returns false'. Refute it at one input. -/
def termMovesWrong : ChangeSpec := { name := "termMoves", fn := fun _ => fun
  | [d1, d2] => { results := [.lit (.bool false)], args := [d1, d2] }
  | _ => none }
def TermMovesWrongFalsely : Prop := termMovesRow.holds Tryd.pinned (OpenSpec.ofChange termMovesWrong)

/-- 'typebarlaw07.TermFills': WHATEVER THE INPUT: true; the input reads as it did. -/
def termFillsSpec : ChangeSpec := { name := "termFills", fn := fun _ => fun
  | [d1, d2, d3] => { results := [.lit (.bool true)], args := [d1, d2, d3] }
  | _ => none }
def termFillsRow : OpenClaim := { program := "ytplabpjkkcillaadoor", sum := "d83d4390ebfdb8ee2a7cceacc8d5fe62c85d40cfb140fd5f1f2532695d7a8d68", func := "typebar/typebarlaw07.TermFills", spec := "termFills", unfollowed := true, recurses := true, named := ["typebar/wide.spans", "unicode/utf8.first", "unicode/utf8.acceptRanges"], apart := false, laid := [("unicode/utf8.acceptRanges", laid_unicode_utf8_acceptRanges), ("typebar/wide.spans", laid_typebar_wide_spans), ("unicode/utf8.first", laid_unicode_utf8_first)] }
def TermFillsSaid : Prop := termFillsRow.holds Tryd.pinned (OpenSpec.ofChange termFillsSpec)

/-- ITS FALSE NEIGHBOUR: 'it returns false'. Refute it at one input. -/
def termFillsWrong : ChangeSpec := { name := "termFills", fn := fun _ => fun
  | [d1, d2, d3] => { results := [.lit (.bool false)], args := [d1, d2, d3] }
  | _ => none }
def TermFillsWrongFalsely : Prop := termFillsRow.holds Tryd.pinned (OpenSpec.ofChange termFillsWrong)

/- THE SECOND FORM. 'bulk': how many values and letters a reading holds, each counted each time it is reached (what is shared counts as often as it is met; a slice's spare places count too). A statement '..UptoSaid' is the law's where the arguments, and the package variables that the reading takes, are together of bulk at most 1048576: NARROWER than '..Said'. Prove '..Said' where nothing that the law and all that it calls make is longer than what came in: it says more and counts as full. Else prove '..UptoSaid'. A law counts once. -/
mutual
def uptoBulk {H : Type} : DataW H → Nat
  | .lit (.string bytes) => bytes.length + 1
  | .lit _ => 1
  | .nil => 1
  | .ptr d => uptoBulk d + 1
  | .slice elems spare => uptoBulkAll elems + uptoBulkAll spare + 1
  | .agg parts => uptoBulkAll parts + 1
  | .iface _ d => uptoBulk d + 1
  | .map entries => uptoBulkEntries entries + 1
  | .held _ => 1
def uptoBulkAll {H : Type} : List (DataW H) → Nat
  | [] => 0
  | d :: r => uptoBulk d + uptoBulkAll r
def uptoBulkEntries {H : Type} : List (Lit × DataW H) → Nat
  | [] => 0
  | x :: r => uptoBulkEntry x + uptoBulkEntries r
def uptoBulkEntry {H : Type} : Lit × DataW H → Nat
  | (.string bytes, d) => bytes.length + uptoBulk d + 1
  | (_, d) => uptoBulk d + 1
 end
def uptoSmall : (H : Type) → List (DataW H) → Bool := fun _ ds => decide (uptoBulkAll ds ≤ 1048576)
def OpenSpec.upto (s : _root_.Go.ChangeSpec) : _root_.Go.OpenSpec := { _root_.Go.OpenSpec.ofChange s with cond := some uptoSmall }

/-- 'typebarlaw06.ScanNext', WHERE WHAT IT READS IS OF BULK AT MOST 1048576: true; the input reads as it did. -/
def scanNextUptoRow : OpenClaim := { program := "ytplabpjkkcillaadoor", sum := "d83d4390ebfdb8ee2a7cceacc8d5fe62c85d40cfb140fd5f1f2532695d7a8d68", func := "typebar/typebarlaw06.ScanNext", spec := "scanNext", unfollowed := true, recurses := true, named := ["unicode/utf8.first", "unicode/utf8.acceptRanges"], apart := false, laid := [("unicode/utf8.acceptRanges", laid_unicode_utf8_acceptRanges), ("unicode/utf8.first", laid_unicode_utf8_first)], narrowed := true }
def ScanNextUptoSaid : Prop := scanNextUptoRow.holds Tryd.pinned (OpenSpec.upto scanNextSpec)

/-- 'typebarlaw06.ScanAll', WHERE WHAT IT READS IS OF BULK AT MOST 1048576: true; the input reads as it did. -/
def scanAllUptoRow : OpenClaim := { program := "ytplabpjkkcillaadoor", sum := "d83d4390ebfdb8ee2a7cceacc8d5fe62c85d40cfb140fd5f1f2532695d7a8d68", func := "typebar/typebarlaw06.ScanAll", spec := "scanAll", unfollowed := true, recurses := true, named := ["unicode/utf8.first", "unicode/utf8.acceptRanges"], apart := false, laid := [("unicode/utf8.acceptRanges", laid_unicode_utf8_acceptRanges), ("unicode/utf8.first", laid_unicode_utf8_first)], narrowed := true }
def ScanAllUptoSaid : Prop := scanAllUptoRow.holds Tryd.pinned (OpenSpec.upto scanAllSpec)

/-- 'typebarlaw06.ScanBack', WHERE WHAT IT READS IS OF BULK AT MOST 1048576: true; the input reads as it did. -/
def scanBackUptoRow : OpenClaim := { program := "ytplabpjkkcillaadoor", sum := "d83d4390ebfdb8ee2a7cceacc8d5fe62c85d40cfb140fd5f1f2532695d7a8d68", func := "typebar/typebarlaw06.ScanBack", spec := "scanBack", unfollowed := true, recurses := true, named := ["internal/strconv.uint64pow10", "math/bits.deBruijn32tab", "math/bits.deBruijn64tab", "unicode/utf8.first", "unicode/utf8.acceptRanges"], apart := false, laid := [("math/bits.deBruijn32tab", laid_math_bits_deBruijn32tab), ("math/bits.deBruijn64tab", laid_math_bits_deBruijn64tab), ("internal/strconv.uint64pow10", laid_internal_strconv_uint64pow10), ("unicode/utf8.acceptRanges", laid_unicode_utf8_acceptRanges), ("unicode/utf8.first", laid_unicode_utf8_first)], narrowed := true }
def ScanBackUptoSaid : Prop := scanBackUptoRow.holds Tryd.pinned (OpenSpec.upto scanBackSpec)

/-- 'typebarlaw06.ScanGoes', WHERE WHAT IT READS IS OF BULK AT MOST 1048576: true; the input reads as it did. -/
def scanGoesUptoRow : OpenClaim := { program := "ytplabpjkkcillaadoor", sum := "d83d4390ebfdb8ee2a7cceacc8d5fe62c85d40cfb140fd5f1f2532695d7a8d68", func := "typebar/typebarlaw06.ScanGoes", spec := "scanGoes", unfollowed := true, recurses := true, named := ["internal/strconv.uint64pow10", "math/bits.deBruijn32tab", "math/bits.deBruijn64tab", "unicode/utf8.first", "unicode/utf8.acceptRanges"], apart := false, laid := [("math/bits.deBruijn32tab", laid_math_bits_deBruijn32tab), ("math/bits.deBruijn64tab", laid_math_bits_deBruijn64tab), ("internal/strconv.uint64pow10", laid_internal_strconv_uint64pow10), ("unicode/utf8.acceptRanges", laid_unicode_utf8_acceptRanges), ("unicode/utf8.first", laid_unicode_utf8_first)], narrowed := true }
def ScanGoesUptoSaid : Prop := scanGoesUptoRow.holds Tryd.pinned (OpenSpec.upto scanGoesSpec)

/-- 'typebarlaw06.ScanCuts', WHERE WHAT IT READS IS OF BULK AT MOST 1048576: true; the input reads as it did. -/
def scanCutsUptoRow : OpenClaim := { program := "ytplabpjkkcillaadoor", sum := "d83d4390ebfdb8ee2a7cceacc8d5fe62c85d40cfb140fd5f1f2532695d7a8d68", func := "typebar/typebarlaw06.ScanCuts", spec := "scanCuts", unfollowed := true, recurses := true, named := ["unicode/utf8.first", "unicode/utf8.acceptRanges", "internal/strconv.uint64pow10", "math/bits.deBruijn32tab", "math/bits.deBruijn64tab"], apart := false, laid := [("math/bits.deBruijn32tab", laid_math_bits_deBruijn32tab), ("math/bits.deBruijn64tab", laid_math_bits_deBruijn64tab), ("internal/strconv.uint64pow10", laid_internal_strconv_uint64pow10), ("unicode/utf8.acceptRanges", laid_unicode_utf8_acceptRanges), ("unicode/utf8.first", laid_unicode_utf8_first)], narrowed := true }
def ScanCutsUptoSaid : Prop := scanCutsUptoRow.holds Tryd.pinned (OpenSpec.upto scanCutsSpec)

/-- 'typebarlaw07.TermNews', WHERE WHAT IT READS IS OF BULK AT MOST 1048576: true; the input reads as it did. -/
def termNewsUptoRow : OpenClaim := { program := "ytplabpjkkcillaadoor", sum := "d83d4390ebfdb8ee2a7cceacc8d5fe62c85d40cfb140fd5f1f2532695d7a8d68", func := "typebar/typebarlaw07.TermNews", spec := "termNews", unfollowed := true, recurses := true, named := ["typebar/wide.spans", "unicode/utf8.first", "unicode/utf8.acceptRanges"], apart := false, laid := [("unicode/utf8.acceptRanges", laid_unicode_utf8_acceptRanges), ("typebar/wide.spans", laid_typebar_wide_spans), ("unicode/utf8.first", laid_unicode_utf8_first)], narrowed := true }
def TermNewsUptoSaid : Prop := termNewsUptoRow.holds Tryd.pinned (OpenSpec.upto termNewsSpec)

/-- 'typebarlaw07.TermDoes', WHERE WHAT IT READS IS OF BULK AT MOST 1048576: true; the input reads as it did. -/
def termDoesUptoRow : OpenClaim := { program := "ytplabpjkkcillaadoor", sum := "d83d4390ebfdb8ee2a7cceacc8d5fe62c85d40cfb140fd5f1f2532695d7a8d68", func := "typebar/typebarlaw07.TermDoes", spec := "termDoes", unfollowed := true, recurses := true, named := ["typebar/wide.spans", "unicode/utf8.first", "unicode/utf8.acceptRanges"], apart := false, laid := [("unicode/utf8.acceptRanges", laid_unicode_utf8_acceptRanges), ("typebar/wide.spans", laid_typebar_wide_spans), ("unicode/utf8.first", laid_unicode_utf8_first)], narrowed := true }
def TermDoesUptoSaid : Prop := termDoesUptoRow.holds Tryd.pinned (OpenSpec.upto termDoesSpec)

/-- 'typebarlaw07.TermFeeds', WHERE WHAT IT READS IS OF BULK AT MOST 1048576: true; the input reads as it did. -/
def termFeedsUptoRow : OpenClaim := { program := "ytplabpjkkcillaadoor", sum := "d83d4390ebfdb8ee2a7cceacc8d5fe62c85d40cfb140fd5f1f2532695d7a8d68", func := "typebar/typebarlaw07.TermFeeds", spec := "termFeeds", unfollowed := true, recurses := true, named := ["typebar/wide.spans", "unicode/utf8.first", "unicode/utf8.acceptRanges"], apart := false, laid := [("unicode/utf8.acceptRanges", laid_unicode_utf8_acceptRanges), ("typebar/wide.spans", laid_typebar_wide_spans), ("unicode/utf8.first", laid_unicode_utf8_first)], narrowed := true }
def TermFeedsUptoSaid : Prop := termFeedsUptoRow.holds Tryd.pinned (OpenSpec.upto termFeedsSpec)

/-- 'typebarlaw07.TermSizes', WHERE WHAT IT READS IS OF BULK AT MOST 1048576: true; the input reads as it did. -/
def termSizesUptoRow : OpenClaim := { program := "ytplabpjkkcillaadoor", sum := "d83d4390ebfdb8ee2a7cceacc8d5fe62c85d40cfb140fd5f1f2532695d7a8d68", func := "typebar/typebarlaw07.TermSizes", spec := "termSizes", unfollowed := true, recurses := true, named := ["typebar/wide.spans", "unicode/utf8.first", "unicode/utf8.acceptRanges"], apart := false, laid := [("unicode/utf8.acceptRanges", laid_unicode_utf8_acceptRanges), ("typebar/wide.spans", laid_typebar_wide_spans), ("unicode/utf8.first", laid_unicode_utf8_first)], narrowed := true }
def TermSizesUptoSaid : Prop := termSizesUptoRow.holds Tryd.pinned (OpenSpec.upto termSizesSpec)

/-- 'typebarlaw07.TermStays', WHERE WHAT IT READS IS OF BULK AT MOST 1048576: true; the input reads as it did. -/
def termStaysUptoRow : OpenClaim := { program := "ytplabpjkkcillaadoor", sum := "d83d4390ebfdb8ee2a7cceacc8d5fe62c85d40cfb140fd5f1f2532695d7a8d68", func := "typebar/typebarlaw07.TermStays", spec := "termStays", unfollowed := true, recurses := true, named := ["typebar/wide.spans", "unicode/utf8.first", "unicode/utf8.acceptRanges"], apart := false, laid := [("unicode/utf8.acceptRanges", laid_unicode_utf8_acceptRanges), ("typebar/wide.spans", laid_typebar_wide_spans), ("unicode/utf8.first", laid_unicode_utf8_first)], narrowed := true }
def TermStaysUptoSaid : Prop := termStaysUptoRow.holds Tryd.pinned (OpenSpec.upto termStaysSpec)

/-- 'typebarlaw07.TermParts', WHERE WHAT IT READS IS OF BULK AT MOST 1048576: true; the input reads as it did. -/
def termPartsUptoRow : OpenClaim := { program := "ytplabpjkkcillaadoor", sum := "d83d4390ebfdb8ee2a7cceacc8d5fe62c85d40cfb140fd5f1f2532695d7a8d68", func := "typebar/typebarlaw07.TermParts", spec := "termParts", unfollowed := true, recurses := true, named := ["typebar/wide.spans", "unicode/utf8.first", "unicode/utf8.acceptRanges"], apart := false, laid := [("unicode/utf8.acceptRanges", laid_unicode_utf8_acceptRanges), ("typebar/wide.spans", laid_typebar_wide_spans), ("unicode/utf8.first", laid_unicode_utf8_first)], narrowed := true }
def TermPartsUptoSaid : Prop := termPartsUptoRow.holds Tryd.pinned (OpenSpec.upto termPartsSpec)

/-- 'typebarlaw07.TermMoves', WHERE WHAT IT READS IS OF BULK AT MOST 1048576: true; the input reads as it did. -/
def termMovesUptoRow : OpenClaim := { program := "ytplabpjkkcillaadoor", sum := "d83d4390ebfdb8ee2a7cceacc8d5fe62c85d40cfb140fd5f1f2532695d7a8d68", func := "typebar/typebarlaw07.TermMoves", spec := "termMoves", unfollowed := true, recurses := true, named := ["typebar/wide.spans", "unicode/utf8.first", "unicode/utf8.acceptRanges"], apart := false, laid := [("unicode/utf8.acceptRanges", laid_unicode_utf8_acceptRanges), ("typebar/wide.spans", laid_typebar_wide_spans), ("unicode/utf8.first", laid_unicode_utf8_first)], narrowed := true }
def TermMovesUptoSaid : Prop := termMovesUptoRow.holds Tryd.pinned (OpenSpec.upto termMovesSpec)

/-- 'typebarlaw07.TermFills', WHERE WHAT IT READS IS OF BULK AT MOST 1048576: true; the input reads as it did. -/
def termFillsUptoRow : OpenClaim := { program := "ytplabpjkkcillaadoor", sum := "d83d4390ebfdb8ee2a7cceacc8d5fe62c85d40cfb140fd5f1f2532695d7a8d68", func := "typebar/typebarlaw07.TermFills", spec := "termFills", unfollowed := true, recurses := true, named := ["typebar/wide.spans", "unicode/utf8.first", "unicode/utf8.acceptRanges"], apart := false, laid := [("unicode/utf8.acceptRanges", laid_unicode_utf8_acceptRanges), ("typebar/wide.spans", laid_typebar_wide_spans), ("unicode/utf8.first", laid_unicode_utf8_first)], narrowed := true }
def TermFillsUptoSaid : Prop := termFillsUptoRow.holds Tryd.pinned (OpenSpec.upto termFillsSpec)

end Rows
end Go.Proofs.YtplabpjkkcillaaDoor
