/-
  NARROWER THAN 'FOR EVERY INPUT', by the rows' own cells (each row's printed sentence says how): PaintDoes: laid · PaintDraws: laid · PumpNews: laid · PumpPushes: laid · PumpGrants: laid · PumpTurns: laid · PumpEnds: laid · PumpSound: laid.
  DERIVED. THE GIVEN ROWS OF THIS SEAT. 8 by the template 'for every input the law returns true; each argument reads behind the call as it read before'; 0 by the template 'total and deterministic' (their statements: YtgfmjmfphmjdkaaGreatDoorTotals.lean).
  GIVEN WITH THE SEED: the statements are not yours to turn. If you find one false, say at which input.
  Laid BY PROGRAM, IN A SANDBOX (cutbox-rows.mjs): the forced cells as the released guide's own fill.sh prints them over the translation 1fbf6d5e17da75a2… (all of the seat's roots in one cut). By AI agents, Wed Nov 11 2026. No macro, syntax, notation, axiom, sorry.
-/
import Derived.Test.YtgfmjmfphmjdkaaGreatDoorChecked
import GoSem.PinnedTables
import GoSem.Claim
import GoSem.ClaimJoined
import GoSem.ClaimMapViews
import Derived.JoinedTies
import Derived.KernelRfl
namespace Go.Proofs.YtgfmjmfphmjdkaaGreatDoor
/- THE CELL 'sum', in the pinned program and in every row, IS THE sha256 OF THE DUMP (.gsa) THAT YtgfmjmfphmjdkaaGreatDoorProg.lean LOADS. Nothing in Lean hashes anything: it is a label: what it is worth is what the hold of that sum in a sandbox is worth. -/
noncomputable def Tryz.pinned : Pinned := { name := "ytgfmjmfphmjdkaagreatdoor", sum := "1fbf6d5e17da75a25c62cab684d0367c7c29efcec45a9c7ab9d364ac3c4d7aec", checked := Tryz.checked }
namespace Rows
def none {H : Type} : Left H := { results := [], args := [] }

/- WHAT THE LISTED PACKAGE-LEVEL VARIABLES READ AS WHEN THE CALL BEGINS. Each datum BY PROGRAM (the guide's laid-datum.mjs) off the statement by which the dump's own 'gosem.cut.vars' lays the variable. In a bare row this is a premise. The card (YtgfmjmfphmjdkaaGreatDoorCards.lean) ties it to the program's text. -/
def laid_math_bits_deBruijn32tab {H : Type} : DataW H := .agg [.lit (.int .u8 0), .lit (.int .u8 1), .lit (.int .u8 28), .lit (.int .u8 2), .lit (.int .u8 29), .lit (.int .u8 14), .lit (.int .u8 24), .lit (.int .u8 3), .lit (.int .u8 30), .lit (.int .u8 22), .lit (.int .u8 20), .lit (.int .u8 15), .lit (.int .u8 25), .lit (.int .u8 17), .lit (.int .u8 4), .lit (.int .u8 8), .lit (.int .u8 31), .lit (.int .u8 27), .lit (.int .u8 13), .lit (.int .u8 23), .lit (.int .u8 21), .lit (.int .u8 19), .lit (.int .u8 16), .lit (.int .u8 7), .lit (.int .u8 26), .lit (.int .u8 12), .lit (.int .u8 18), .lit (.int .u8 6), .lit (.int .u8 11), .lit (.int .u8 5), .lit (.int .u8 10), .lit (.int .u8 9)]
def laid_math_bits_deBruijn64tab {H : Type} : DataW H := .agg [.lit (.int .u8 0), .lit (.int .u8 1), .lit (.int .u8 56), .lit (.int .u8 2), .lit (.int .u8 57), .lit (.int .u8 49), .lit (.int .u8 28), .lit (.int .u8 3), .lit (.int .u8 61), .lit (.int .u8 58), .lit (.int .u8 42), .lit (.int .u8 50), .lit (.int .u8 38), .lit (.int .u8 29), .lit (.int .u8 17), .lit (.int .u8 4), .lit (.int .u8 62), .lit (.int .u8 47), .lit (.int .u8 59), .lit (.int .u8 36), .lit (.int .u8 45), .lit (.int .u8 43), .lit (.int .u8 51), .lit (.int .u8 22), .lit (.int .u8 53), .lit (.int .u8 39), .lit (.int .u8 33), .lit (.int .u8 30), .lit (.int .u8 24), .lit (.int .u8 18), .lit (.int .u8 12), .lit (.int .u8 5), .lit (.int .u8 63), .lit (.int .u8 55), .lit (.int .u8 48), .lit (.int .u8 27), .lit (.int .u8 60), .lit (.int .u8 41), .lit (.int .u8 37), .lit (.int .u8 16), .lit (.int .u8 46), .lit (.int .u8 35), .lit (.int .u8 44), .lit (.int .u8 21), .lit (.int .u8 52), .lit (.int .u8 32), .lit (.int .u8 23), .lit (.int .u8 11), .lit (.int .u8 54), .lit (.int .u8 26), .lit (.int .u8 40), .lit (.int .u8 15), .lit (.int .u8 34), .lit (.int .u8 20), .lit (.int .u8 31), .lit (.int .u8 10), .lit (.int .u8 25), .lit (.int .u8 14), .lit (.int .u8 19), .lit (.int .u8 9), .lit (.int .u8 13), .lit (.int .u8 8), .lit (.int .u8 7), .lit (.int .u8 6)]
def laid_internal_strconv_uint64pow10 {H : Type} : DataW H := .agg [.lit (.int .u64 1), .lit (.int .u64 10), .lit (.int .u64 100), .lit (.int .u64 1000), .lit (.int .u64 10000), .lit (.int .u64 100000), .lit (.int .u64 1000000), .lit (.int .u64 10000000), .lit (.int .u64 100000000), .lit (.int .u64 1000000000), .lit (.int .u64 10000000000), .lit (.int .u64 100000000000), .lit (.int .u64 1000000000000), .lit (.int .u64 10000000000000), .lit (.int .u64 100000000000000), .lit (.int .u64 1000000000000000), .lit (.int .u64 10000000000000000), .lit (.int .u64 100000000000000000), .lit (.int .u64 1000000000000000000), .lit (.int .u64 10000000000000000000)]
def laid_unicode_utf8_acceptRanges {H : Type} : DataW H := .agg [.agg [.lit (.int .u8 128), .lit (.int .u8 191)], .agg [.lit (.int .u8 160), .lit (.int .u8 191)], .agg [.lit (.int .u8 128), .lit (.int .u8 159)], .agg [.lit (.int .u8 144), .lit (.int .u8 191)], .agg [.lit (.int .u8 128), .lit (.int .u8 143)], .agg [.lit (.int .u8 0), .lit (.int .u8 0)], .agg [.lit (.int .u8 0), .lit (.int .u8 0)], .agg [.lit (.int .u8 0), .lit (.int .u8 0)], .agg [.lit (.int .u8 0), .lit (.int .u8 0)], .agg [.lit (.int .u8 0), .lit (.int .u8 0)], .agg [.lit (.int .u8 0), .lit (.int .u8 0)], .agg [.lit (.int .u8 0), .lit (.int .u8 0)], .agg [.lit (.int .u8 0), .lit (.int .u8 0)], .agg [.lit (.int .u8 0), .lit (.int .u8 0)], .agg [.lit (.int .u8 0), .lit (.int .u8 0)], .agg [.lit (.int .u8 0), .lit (.int .u8 0)]]
def laid_typebar_wide_spans {H : Type} : DataW H := .agg [.agg [.lit (.int .i32 4352), .lit (.int .i32 4447)], .agg [.lit (.int .i32 11904), .lit (.int .i32 12350)], .agg [.lit (.int .i32 12353), .lit (.int .i32 42191)], .agg [.lit (.int .i32 44032), .lit (.int .i32 55203)], .agg [.lit (.int .i32 63744), .lit (.int .i32 64255)], .agg [.lit (.int .i32 65072), .lit (.int .i32 65135)], .agg [.lit (.int .i32 65281), .lit (.int .i32 65376)], .agg [.lit (.int .i32 65504), .lit (.int .i32 65510)], .agg [.lit (.int .i32 127744), .lit (.int .i32 128591)], .agg [.lit (.int .i32 129280), .lit (.int .i32 129535)], .agg [.lit (.int .i32 131072), .lit (.int .i32 262141)]]
/-- One of Go's own tables, pinned by name: the form's constant. -/
def laid_unicode_utf8_first : DataW Unit := Go.Pinned.utf8First

/-- 'typebarlaw29.PaintDoes': WHATEVER THE INPUT: true; the input reads as it did. -/
def paintDoesSpec : ChangeSpec := { name := "paintDoes", fn := fun _ => fun
  | [d1, d2] => { results := [.lit (.bool true)], args := [d1, d2] }
  | _ => none }
def paintDoesRow : OpenClaim := { program := "ytgfmjmfphmjdkaagreatdoor", sum := "1fbf6d5e17da75a25c62cab684d0367c7c29efcec45a9c7ab9d364ac3c4d7aec", func := "typebar/typebarlaw29.PaintDoes", spec := "paintDoes", unfollowed := true, recurses := true, named := ["typebar/wide.spans", "internal/strconv.uint64pow10", "math/bits.deBruijn32tab", "math/bits.deBruijn64tab", "unicode/utf8.first", "unicode/utf8.acceptRanges"], apart := false, laid := [("math/bits.deBruijn32tab", laid_math_bits_deBruijn32tab), ("math/bits.deBruijn64tab", laid_math_bits_deBruijn64tab), ("internal/strconv.uint64pow10", laid_internal_strconv_uint64pow10), ("unicode/utf8.acceptRanges", laid_unicode_utf8_acceptRanges), ("typebar/wide.spans", laid_typebar_wide_spans), ("unicode/utf8.first", laid_unicode_utf8_first)] }
def PaintDoesSaid : Prop := paintDoesRow.holds Tryz.pinned (OpenSpec.ofChange paintDoesSpec)

/-- ITS FALSE NEIGHBOUR: 'it returns false'. Refute it at one input. -/
def paintDoesWrong : ChangeSpec := { name := "paintDoes", fn := fun _ => fun
  | [d1, d2] => { results := [.lit (.bool false)], args := [d1, d2] }
  | _ => none }
def PaintDoesWrongFalsely : Prop := paintDoesRow.holds Tryz.pinned (OpenSpec.ofChange paintDoesWrong)

/-- 'typebarlaw29.PaintDraws': WHATEVER THE INPUT: true; the input reads as it did. -/
def paintDrawsSpec : ChangeSpec := { name := "paintDraws", fn := fun _ => fun
  | [d1, d2, d3] => { results := [.lit (.bool true)], args := [d1, d2, d3] }
  | _ => none }
def paintDrawsRow : OpenClaim := { program := "ytgfmjmfphmjdkaagreatdoor", sum := "1fbf6d5e17da75a25c62cab684d0367c7c29efcec45a9c7ab9d364ac3c4d7aec", func := "typebar/typebarlaw29.PaintDraws", spec := "paintDraws", unfollowed := true, recurses := true, named := ["typebar/wide.spans", "internal/strconv.uint64pow10", "math/bits.deBruijn32tab", "math/bits.deBruijn64tab", "unicode/utf8.first", "unicode/utf8.acceptRanges"], apart := false, laid := [("math/bits.deBruijn32tab", laid_math_bits_deBruijn32tab), ("math/bits.deBruijn64tab", laid_math_bits_deBruijn64tab), ("internal/strconv.uint64pow10", laid_internal_strconv_uint64pow10), ("unicode/utf8.acceptRanges", laid_unicode_utf8_acceptRanges), ("typebar/wide.spans", laid_typebar_wide_spans), ("unicode/utf8.first", laid_unicode_utf8_first)] }
def PaintDrawsSaid : Prop := paintDrawsRow.holds Tryz.pinned (OpenSpec.ofChange paintDrawsSpec)

/-- ITS FALSE NEIGHBOUR: 'it returns false'. Refute it at one input. -/
def paintDrawsWrong : ChangeSpec := { name := "paintDraws", fn := fun _ => fun
  | [d1, d2, d3] => { results := [.lit (.bool false)], args := [d1, d2, d3] }
  | _ => none }
def PaintDrawsWrongFalsely : Prop := paintDrawsRow.holds Tryz.pinned (OpenSpec.ofChange paintDrawsWrong)

/-- 'typebarlaw30.PumpNews': WHATEVER THE INPUT: true; the input reads as it did. -/
def pumpNewsSpec : ChangeSpec := { name := "pumpNews", fn := fun _ => fun
  | [d1, d2, d3] => { results := [.lit (.bool true)], args := [d1, d2, d3] }
  | _ => none }
def pumpNewsRow : OpenClaim := { program := "ytgfmjmfphmjdkaagreatdoor", sum := "1fbf6d5e17da75a25c62cab684d0367c7c29efcec45a9c7ab9d364ac3c4d7aec", func := "typebar/typebarlaw30.PumpNews", spec := "pumpNews", unfollowed := true, recurses := true, named := ["typebar/wide.spans", "internal/strconv.uint64pow10", "math/bits.deBruijn32tab", "math/bits.deBruijn64tab", "unicode/utf8.first", "unicode/utf8.acceptRanges"], apart := false, laid := [("math/bits.deBruijn32tab", laid_math_bits_deBruijn32tab), ("math/bits.deBruijn64tab", laid_math_bits_deBruijn64tab), ("internal/strconv.uint64pow10", laid_internal_strconv_uint64pow10), ("unicode/utf8.acceptRanges", laid_unicode_utf8_acceptRanges), ("typebar/wide.spans", laid_typebar_wide_spans), ("unicode/utf8.first", laid_unicode_utf8_first)] }
def PumpNewsSaid : Prop := pumpNewsRow.holds Tryz.pinned (OpenSpec.ofChange pumpNewsSpec)

/-- ITS FALSE NEIGHBOUR: 'it returns false'. Refute it at one input. -/
def pumpNewsWrong : ChangeSpec := { name := "pumpNews", fn := fun _ => fun
  | [d1, d2, d3] => { results := [.lit (.bool false)], args := [d1, d2, d3] }
  | _ => none }
def PumpNewsWrongFalsely : Prop := pumpNewsRow.holds Tryz.pinned (OpenSpec.ofChange pumpNewsWrong)

/-- 'typebarlaw30.PumpPushes': WHATEVER THE INPUT: true; the input reads as it did. -/
def pumpPushesSpec : ChangeSpec := { name := "pumpPushes", fn := fun _ => fun
  | [d1, d2, d3] => { results := [.lit (.bool true)], args := [d1, d2, d3] }
  | _ => none }
def pumpPushesRow : OpenClaim := { program := "ytgfmjmfphmjdkaagreatdoor", sum := "1fbf6d5e17da75a25c62cab684d0367c7c29efcec45a9c7ab9d364ac3c4d7aec", func := "typebar/typebarlaw30.PumpPushes", spec := "pumpPushes", unfollowed := true, recurses := true, named := ["typebar/wide.spans", "internal/strconv.uint64pow10", "math/bits.deBruijn32tab", "math/bits.deBruijn64tab", "unicode/utf8.first", "unicode/utf8.acceptRanges"], apart := false, laid := [("math/bits.deBruijn32tab", laid_math_bits_deBruijn32tab), ("math/bits.deBruijn64tab", laid_math_bits_deBruijn64tab), ("internal/strconv.uint64pow10", laid_internal_strconv_uint64pow10), ("unicode/utf8.acceptRanges", laid_unicode_utf8_acceptRanges), ("typebar/wide.spans", laid_typebar_wide_spans), ("unicode/utf8.first", laid_unicode_utf8_first)] }
def PumpPushesSaid : Prop := pumpPushesRow.holds Tryz.pinned (OpenSpec.ofChange pumpPushesSpec)

/-- ITS FALSE NEIGHBOUR: 'it returns false'. Refute it at one input. -/
def pumpPushesWrong : ChangeSpec := { name := "pumpPushes", fn := fun _ => fun
  | [d1, d2, d3] => { results := [.lit (.bool false)], args := [d1, d2, d3] }
  | _ => none }
def PumpPushesWrongFalsely : Prop := pumpPushesRow.holds Tryz.pinned (OpenSpec.ofChange pumpPushesWrong)

/-- 'typebarlaw30.PumpGrants': WHATEVER THE INPUT: true; the input reads as it did. -/
def pumpGrantsSpec : ChangeSpec := { name := "pumpGrants", fn := fun _ => fun
  | [d1, d2, d3] => { results := [.lit (.bool true)], args := [d1, d2, d3] }
  | _ => none }
def pumpGrantsRow : OpenClaim := { program := "ytgfmjmfphmjdkaagreatdoor", sum := "1fbf6d5e17da75a25c62cab684d0367c7c29efcec45a9c7ab9d364ac3c4d7aec", func := "typebar/typebarlaw30.PumpGrants", spec := "pumpGrants", unfollowed := true, recurses := true, named := ["typebar/wide.spans", "internal/strconv.uint64pow10", "math/bits.deBruijn32tab", "math/bits.deBruijn64tab", "unicode/utf8.first", "unicode/utf8.acceptRanges"], apart := false, laid := [("math/bits.deBruijn32tab", laid_math_bits_deBruijn32tab), ("math/bits.deBruijn64tab", laid_math_bits_deBruijn64tab), ("internal/strconv.uint64pow10", laid_internal_strconv_uint64pow10), ("unicode/utf8.acceptRanges", laid_unicode_utf8_acceptRanges), ("typebar/wide.spans", laid_typebar_wide_spans), ("unicode/utf8.first", laid_unicode_utf8_first)] }
def PumpGrantsSaid : Prop := pumpGrantsRow.holds Tryz.pinned (OpenSpec.ofChange pumpGrantsSpec)

/-- ITS FALSE NEIGHBOUR: 'it returns false'. Refute it at one input. -/
def pumpGrantsWrong : ChangeSpec := { name := "pumpGrants", fn := fun _ => fun
  | [d1, d2, d3] => { results := [.lit (.bool false)], args := [d1, d2, d3] }
  | _ => none }
def PumpGrantsWrongFalsely : Prop := pumpGrantsRow.holds Tryz.pinned (OpenSpec.ofChange pumpGrantsWrong)

/-- 'typebarlaw30.PumpTurns': WHATEVER THE INPUT: true; the input reads as it did. -/
def pumpTurnsSpec : ChangeSpec := { name := "pumpTurns", fn := fun _ => fun
  | [d1, d2, d3] => { results := [.lit (.bool true)], args := [d1, d2, d3] }
  | _ => none }
def pumpTurnsRow : OpenClaim := { program := "ytgfmjmfphmjdkaagreatdoor", sum := "1fbf6d5e17da75a25c62cab684d0367c7c29efcec45a9c7ab9d364ac3c4d7aec", func := "typebar/typebarlaw30.PumpTurns", spec := "pumpTurns", unfollowed := true, recurses := true, named := ["typebar/wide.spans", "internal/strconv.uint64pow10", "math/bits.deBruijn32tab", "math/bits.deBruijn64tab", "unicode/utf8.first", "unicode/utf8.acceptRanges"], apart := false, laid := [("math/bits.deBruijn32tab", laid_math_bits_deBruijn32tab), ("math/bits.deBruijn64tab", laid_math_bits_deBruijn64tab), ("internal/strconv.uint64pow10", laid_internal_strconv_uint64pow10), ("unicode/utf8.acceptRanges", laid_unicode_utf8_acceptRanges), ("typebar/wide.spans", laid_typebar_wide_spans), ("unicode/utf8.first", laid_unicode_utf8_first)] }
def PumpTurnsSaid : Prop := pumpTurnsRow.holds Tryz.pinned (OpenSpec.ofChange pumpTurnsSpec)

/-- ITS FALSE NEIGHBOUR: 'it returns false'. Refute it at one input. -/
def pumpTurnsWrong : ChangeSpec := { name := "pumpTurns", fn := fun _ => fun
  | [d1, d2, d3] => { results := [.lit (.bool false)], args := [d1, d2, d3] }
  | _ => none }
def PumpTurnsWrongFalsely : Prop := pumpTurnsRow.holds Tryz.pinned (OpenSpec.ofChange pumpTurnsWrong)

/-- 'typebarlaw30.PumpEnds': WHATEVER THE INPUT: true; the input reads as it did. -/
def pumpEndsSpec : ChangeSpec := { name := "pumpEnds", fn := fun _ => fun
  | [d1, d2, d3] => { results := [.lit (.bool true)], args := [d1, d2, d3] }
  | _ => none }
def pumpEndsRow : OpenClaim := { program := "ytgfmjmfphmjdkaagreatdoor", sum := "1fbf6d5e17da75a25c62cab684d0367c7c29efcec45a9c7ab9d364ac3c4d7aec", func := "typebar/typebarlaw30.PumpEnds", spec := "pumpEnds", unfollowed := true, recurses := true, named := ["typebar/wide.spans", "internal/strconv.uint64pow10", "math/bits.deBruijn32tab", "math/bits.deBruijn64tab", "unicode/utf8.first", "unicode/utf8.acceptRanges"], apart := false, laid := [("math/bits.deBruijn32tab", laid_math_bits_deBruijn32tab), ("math/bits.deBruijn64tab", laid_math_bits_deBruijn64tab), ("internal/strconv.uint64pow10", laid_internal_strconv_uint64pow10), ("unicode/utf8.acceptRanges", laid_unicode_utf8_acceptRanges), ("typebar/wide.spans", laid_typebar_wide_spans), ("unicode/utf8.first", laid_unicode_utf8_first)] }
def PumpEndsSaid : Prop := pumpEndsRow.holds Tryz.pinned (OpenSpec.ofChange pumpEndsSpec)

/-- ITS FALSE NEIGHBOUR: 'it returns false'. Refute it at one input. -/
def pumpEndsWrong : ChangeSpec := { name := "pumpEnds", fn := fun _ => fun
  | [d1, d2, d3] => { results := [.lit (.bool false)], args := [d1, d2, d3] }
  | _ => none }
def PumpEndsWrongFalsely : Prop := pumpEndsRow.holds Tryz.pinned (OpenSpec.ofChange pumpEndsWrong)

/-- 'typebarlaw30.PumpSound': WHATEVER THE INPUT: true; the input reads as it did. -/
def pumpSoundSpec : ChangeSpec := { name := "pumpSound", fn := fun _ => fun
  | [d1, d2, d3] => { results := [.lit (.bool true)], args := [d1, d2, d3] }
  | _ => none }
def pumpSoundRow : OpenClaim := { program := "ytgfmjmfphmjdkaagreatdoor", sum := "1fbf6d5e17da75a25c62cab684d0367c7c29efcec45a9c7ab9d364ac3c4d7aec", func := "typebar/typebarlaw30.PumpSound", spec := "pumpSound", unfollowed := true, recurses := true, named := ["typebar/wide.spans", "unicode/utf8.first", "unicode/utf8.acceptRanges", "internal/strconv.uint64pow10", "math/bits.deBruijn32tab", "math/bits.deBruijn64tab"], apart := false, laid := [("math/bits.deBruijn32tab", laid_math_bits_deBruijn32tab), ("math/bits.deBruijn64tab", laid_math_bits_deBruijn64tab), ("internal/strconv.uint64pow10", laid_internal_strconv_uint64pow10), ("unicode/utf8.acceptRanges", laid_unicode_utf8_acceptRanges), ("typebar/wide.spans", laid_typebar_wide_spans), ("unicode/utf8.first", laid_unicode_utf8_first)] }
def PumpSoundSaid : Prop := pumpSoundRow.holds Tryz.pinned (OpenSpec.ofChange pumpSoundSpec)

/-- ITS FALSE NEIGHBOUR: 'it returns false'. Refute it at one input. -/
def pumpSoundWrong : ChangeSpec := { name := "pumpSound", fn := fun _ => fun
  | [d1, d2, d3] => { results := [.lit (.bool false)], args := [d1, d2, d3] }
  | _ => none }
def PumpSoundWrongFalsely : Prop := pumpSoundRow.holds Tryz.pinned (OpenSpec.ofChange pumpSoundWrong)

/- THE SECOND FORM. 'bulk': how many values and letters a reading holds, each counted each time it is reached (what is shared counts as often as it is met; a slice's spare places count too). A statement '..UptoSaid' is the law's where the arguments, and the package variables that the reading takes, are together of bulk at most 1048576: NARROWER than '..Said'. Prove '..Said' where nothing that the law and all that it calls make is longer than what came in: it says more and counts as full. Else prove '..UptoSaid'. A law counts once. -/
mutual
def uptoBulk {H : Type} : DataW H → Nat
  | .lit (.string bytes) => bytes.length + 1
  | .lit _ => 1
  | .nil => 1
  | .ptr d => uptoBulk d + 1
  | .slice elems spare => uptoBulkAll elems + uptoBulkAll spare + 1
  | .agg parts => uptoBulkAll parts + 1
  | .iface _ d => uptoBulk d + 1
  | .map entries => uptoBulkEntries entries + 1
  | .held _ => 1
def uptoBulkAll {H : Type} : List (DataW H) → Nat
  | [] => 0
  | d :: r => uptoBulk d + uptoBulkAll r
def uptoBulkEntries {H : Type} : List (Lit × DataW H) → Nat
  | [] => 0
  | x :: r => uptoBulkEntry x + uptoBulkEntries r
def uptoBulkEntry {H : Type} : Lit × DataW H → Nat
  | (.string bytes, d) => bytes.length + uptoBulk d + 1
  | (_, d) => uptoBulk d + 1
 end
def uptoSmall : (H : Type) → List (DataW H) → Bool := fun _ ds => decide (uptoBulkAll ds ≤ 1048576)
def OpenSpec.upto (s : _root_.Go.ChangeSpec) : _root_.Go.OpenSpec := { _root_.Go.OpenSpec.ofChange s with cond := some uptoSmall }

/-- 'typebarlaw29.PaintDoes', WHERE WHAT IT READS IS OF BULK AT MOST 1048576: true; the input reads as it did. -/
def paintDoesUptoRow : OpenClaim := { program := "ytgfmjmfphmjdkaagreatdoor", sum := "1fbf6d5e17da75a25c62cab684d0367c7c29efcec45a9c7ab9d364ac3c4d7aec", func := "typebar/typebarlaw29.PaintDoes", spec := "paintDoes", unfollowed := true, recurses := true, named := ["typebar/wide.spans", "internal/strconv.uint64pow10", "math/bits.deBruijn32tab", "math/bits.deBruijn64tab", "unicode/utf8.first", "unicode/utf8.acceptRanges"], apart := false, laid := [("math/bits.deBruijn32tab", laid_math_bits_deBruijn32tab), ("math/bits.deBruijn64tab", laid_math_bits_deBruijn64tab), ("internal/strconv.uint64pow10", laid_internal_strconv_uint64pow10), ("unicode/utf8.acceptRanges", laid_unicode_utf8_acceptRanges), ("typebar/wide.spans", laid_typebar_wide_spans), ("unicode/utf8.first", laid_unicode_utf8_first)], narrowed := true }
def PaintDoesUptoSaid : Prop := paintDoesUptoRow.holds Tryz.pinned (OpenSpec.upto paintDoesSpec)

/-- 'typebarlaw29.PaintDraws', WHERE WHAT IT READS IS OF BULK AT MOST 1048576: true; the input reads as it did. -/
def paintDrawsUptoRow : OpenClaim := { program := "ytgfmjmfphmjdkaagreatdoor", sum := "1fbf6d5e17da75a25c62cab684d0367c7c29efcec45a9c7ab9d364ac3c4d7aec", func := "typebar/typebarlaw29.PaintDraws", spec := "paintDraws", unfollowed := true, recurses := true, named := ["typebar/wide.spans", "internal/strconv.uint64pow10", "math/bits.deBruijn32tab", "math/bits.deBruijn64tab", "unicode/utf8.first", "unicode/utf8.acceptRanges"], apart := false, laid := [("math/bits.deBruijn32tab", laid_math_bits_deBruijn32tab), ("math/bits.deBruijn64tab", laid_math_bits_deBruijn64tab), ("internal/strconv.uint64pow10", laid_internal_strconv_uint64pow10), ("unicode/utf8.acceptRanges", laid_unicode_utf8_acceptRanges), ("typebar/wide.spans", laid_typebar_wide_spans), ("unicode/utf8.first", laid_unicode_utf8_first)], narrowed := true }
def PaintDrawsUptoSaid : Prop := paintDrawsUptoRow.holds Tryz.pinned (OpenSpec.upto paintDrawsSpec)

/-- 'typebarlaw30.PumpNews', WHERE WHAT IT READS IS OF BULK AT MOST 1048576: true; the input reads as it did. -/
def pumpNewsUptoRow : OpenClaim := { program := "ytgfmjmfphmjdkaagreatdoor", sum := "1fbf6d5e17da75a25c62cab684d0367c7c29efcec45a9c7ab9d364ac3c4d7aec", func := "typebar/typebarlaw30.PumpNews", spec := "pumpNews", unfollowed := true, recurses := true, named := ["typebar/wide.spans", "internal/strconv.uint64pow10", "math/bits.deBruijn32tab", "math/bits.deBruijn64tab", "unicode/utf8.first", "unicode/utf8.acceptRanges"], apart := false, laid := [("math/bits.deBruijn32tab", laid_math_bits_deBruijn32tab), ("math/bits.deBruijn64tab", laid_math_bits_deBruijn64tab), ("internal/strconv.uint64pow10", laid_internal_strconv_uint64pow10), ("unicode/utf8.acceptRanges", laid_unicode_utf8_acceptRanges), ("typebar/wide.spans", laid_typebar_wide_spans), ("unicode/utf8.first", laid_unicode_utf8_first)], narrowed := true }
def PumpNewsUptoSaid : Prop := pumpNewsUptoRow.holds Tryz.pinned (OpenSpec.upto pumpNewsSpec)

/-- 'typebarlaw30.PumpPushes', WHERE WHAT IT READS IS OF BULK AT MOST 1048576: true; the input reads as it did. -/
def pumpPushesUptoRow : OpenClaim := { program := "ytgfmjmfphmjdkaagreatdoor", sum := "1fbf6d5e17da75a25c62cab684d0367c7c29efcec45a9c7ab9d364ac3c4d7aec", func := "typebar/typebarlaw30.PumpPushes", spec := "pumpPushes", unfollowed := true, recurses := true, named := ["typebar/wide.spans", "internal/strconv.uint64pow10", "math/bits.deBruijn32tab", "math/bits.deBruijn64tab", "unicode/utf8.first", "unicode/utf8.acceptRanges"], apart := false, laid := [("math/bits.deBruijn32tab", laid_math_bits_deBruijn32tab), ("math/bits.deBruijn64tab", laid_math_bits_deBruijn64tab), ("internal/strconv.uint64pow10", laid_internal_strconv_uint64pow10), ("unicode/utf8.acceptRanges", laid_unicode_utf8_acceptRanges), ("typebar/wide.spans", laid_typebar_wide_spans), ("unicode/utf8.first", laid_unicode_utf8_first)], narrowed := true }
def PumpPushesUptoSaid : Prop := pumpPushesUptoRow.holds Tryz.pinned (OpenSpec.upto pumpPushesSpec)

/-- 'typebarlaw30.PumpGrants', WHERE WHAT IT READS IS OF BULK AT MOST 1048576: true; the input reads as it did. -/
def pumpGrantsUptoRow : OpenClaim := { program := "ytgfmjmfphmjdkaagreatdoor", sum := "1fbf6d5e17da75a25c62cab684d0367c7c29efcec45a9c7ab9d364ac3c4d7aec", func := "typebar/typebarlaw30.PumpGrants", spec := "pumpGrants", unfollowed := true, recurses := true, named := ["typebar/wide.spans", "internal/strconv.uint64pow10", "math/bits.deBruijn32tab", "math/bits.deBruijn64tab", "unicode/utf8.first", "unicode/utf8.acceptRanges"], apart := false, laid := [("math/bits.deBruijn32tab", laid_math_bits_deBruijn32tab), ("math/bits.deBruijn64tab", laid_math_bits_deBruijn64tab), ("internal/strconv.uint64pow10", laid_internal_strconv_uint64pow10), ("unicode/utf8.acceptRanges", laid_unicode_utf8_acceptRanges), ("typebar/wide.spans", laid_typebar_wide_spans), ("unicode/utf8.first", laid_unicode_utf8_first)], narrowed := true }
def PumpGrantsUptoSaid : Prop := pumpGrantsUptoRow.holds Tryz.pinned (OpenSpec.upto pumpGrantsSpec)

/-- 'typebarlaw30.PumpTurns', WHERE WHAT IT READS IS OF BULK AT MOST 1048576: true; the input reads as it did. -/
def pumpTurnsUptoRow : OpenClaim := { program := "ytgfmjmfphmjdkaagreatdoor", sum := "1fbf6d5e17da75a25c62cab684d0367c7c29efcec45a9c7ab9d364ac3c4d7aec", func := "typebar/typebarlaw30.PumpTurns", spec := "pumpTurns", unfollowed := true, recurses := true, named := ["typebar/wide.spans", "internal/strconv.uint64pow10", "math/bits.deBruijn32tab", "math/bits.deBruijn64tab", "unicode/utf8.first", "unicode/utf8.acceptRanges"], apart := false, laid := [("math/bits.deBruijn32tab", laid_math_bits_deBruijn32tab), ("math/bits.deBruijn64tab", laid_math_bits_deBruijn64tab), ("internal/strconv.uint64pow10", laid_internal_strconv_uint64pow10), ("unicode/utf8.acceptRanges", laid_unicode_utf8_acceptRanges), ("typebar/wide.spans", laid_typebar_wide_spans), ("unicode/utf8.first", laid_unicode_utf8_first)], narrowed := true }
def PumpTurnsUptoSaid : Prop := pumpTurnsUptoRow.holds Tryz.pinned (OpenSpec.upto pumpTurnsSpec)

/-- 'typebarlaw30.PumpEnds', WHERE WHAT IT READS IS OF BULK AT MOST 1048576: true; the input reads as it did. -/
def pumpEndsUptoRow : OpenClaim := { program := "ytgfmjmfphmjdkaagreatdoor", sum := "1fbf6d5e17da75a25c62cab684d0367c7c29efcec45a9c7ab9d364ac3c4d7aec", func := "typebar/typebarlaw30.PumpEnds", spec := "pumpEnds", unfollowed := true, recurses := true, named := ["typebar/wide.spans", "internal/strconv.uint64pow10", "math/bits.deBruijn32tab", "math/bits.deBruijn64tab", "unicode/utf8.first", "unicode/utf8.acceptRanges"], apart := false, laid := [("math/bits.deBruijn32tab", laid_math_bits_deBruijn32tab), ("math/bits.deBruijn64tab", laid_math_bits_deBruijn64tab), ("internal/strconv.uint64pow10", laid_internal_strconv_uint64pow10), ("unicode/utf8.acceptRanges", laid_unicode_utf8_acceptRanges), ("typebar/wide.spans", laid_typebar_wide_spans), ("unicode/utf8.first", laid_unicode_utf8_first)], narrowed := true }
def PumpEndsUptoSaid : Prop := pumpEndsUptoRow.holds Tryz.pinned (OpenSpec.upto pumpEndsSpec)

/-- 'typebarlaw30.PumpSound', WHERE WHAT IT READS IS OF BULK AT MOST 1048576: true; the input reads as it did. -/
def pumpSoundUptoRow : OpenClaim := { program := "ytgfmjmfphmjdkaagreatdoor", sum := "1fbf6d5e17da75a25c62cab684d0367c7c29efcec45a9c7ab9d364ac3c4d7aec", func := "typebar/typebarlaw30.PumpSound", spec := "pumpSound", unfollowed := true, recurses := true, named := ["typebar/wide.spans", "unicode/utf8.first", "unicode/utf8.acceptRanges", "internal/strconv.uint64pow10", "math/bits.deBruijn32tab", "math/bits.deBruijn64tab"], apart := false, laid := [("math/bits.deBruijn32tab", laid_math_bits_deBruijn32tab), ("math/bits.deBruijn64tab", laid_math_bits_deBruijn64tab), ("internal/strconv.uint64pow10", laid_internal_strconv_uint64pow10), ("unicode/utf8.acceptRanges", laid_unicode_utf8_acceptRanges), ("typebar/wide.spans", laid_typebar_wide_spans), ("unicode/utf8.first", laid_unicode_utf8_first)], narrowed := true }
def PumpSoundUptoSaid : Prop := pumpSoundUptoRow.holds Tryz.pinned (OpenSpec.upto pumpSoundSpec)

end Rows
end Go.Proofs.YtgfmjmfphmjdkaaGreatDoor
