/-
  NARROWER THAN 'FOR EVERY INPUT', by the rows' own cells (each row's printed sentence says how): VtPuts: laid · VtCosts: laid · VtUnlike: laid · VtShort: laid · VtSums: laid · LinkOffers: laid · LinkSends: laid · LinkTurns: laid · LinkStays: laid · LinkGrants: laid · LinkParts: laid · LinkDrops: laid.
  DERIVED. THE GIVEN ROWS OF THIS SEAT. 12 by the template 'for every input the law returns true; each argument reads behind the call as it read before'; 0 by the template 'total and deterministic' (their statements: YthkdpddfmnbijaaDoorTotals.lean).
  GIVEN WITH THE SEED: the statements are not yours to turn. If you find one false, say at which input.
  Laid BY PROGRAM, IN A SANDBOX (cutbox-rows.mjs): the forced cells as the released guide's own fill.sh prints them over the translation 40e0edb36b2bb9e9… (all of the seat's roots in one cut). By AI agents, Wed Nov 11 2026. No macro, syntax, notation, axiom, sorry.
-/
import Derived.Test.YthkdpddfmnbijaaDoorChecked
import GoSem.Claim
import GoSem.ClaimJoined
import GoSem.ClaimMapViews
import Derived.JoinedTies
import Derived.KernelRfl
namespace Go.Proofs.YthkdpddfmnbijaaDoor
/- THE CELL 'sum', in the pinned program and in every row, IS THE sha256 OF THE DUMP (.gsa) THAT YthkdpddfmnbijaaDoorProg.lean LOADS. Nothing in Lean hashes anything: it is a label: what it is worth is what the hold of that sum in a sandbox is worth. -/
noncomputable def Tryd.pinned : Pinned := { name := "ythkdpddfmnbijaadoor", sum := "40e0edb36b2bb9e980454bf9488554f506062616947cd21df5deafa897656e19", checked := Tryd.checked }
namespace Rows
def none {H : Type} : Left H := { results := [], args := [] }

/- WHAT THE LISTED PACKAGE-LEVEL VARIABLES READ AS WHEN THE CALL BEGINS. Each datum BY PROGRAM (the guide's laid-datum.mjs) off the statement by which the dump's own 'gosem.cut.vars' lays the variable. In a bare row this is a premise. The card (YthkdpddfmnbijaaDoorCards.lean) ties it to the program's text. -/
def laid_math_bits_deBruijn32tab {H : Type} : DataW H := .agg [.lit (.int .u8 0), .lit (.int .u8 1), .lit (.int .u8 28), .lit (.int .u8 2), .lit (.int .u8 29), .lit (.int .u8 14), .lit (.int .u8 24), .lit (.int .u8 3), .lit (.int .u8 30), .lit (.int .u8 22), .lit (.int .u8 20), .lit (.int .u8 15), .lit (.int .u8 25), .lit (.int .u8 17), .lit (.int .u8 4), .lit (.int .u8 8), .lit (.int .u8 31), .lit (.int .u8 27), .lit (.int .u8 13), .lit (.int .u8 23), .lit (.int .u8 21), .lit (.int .u8 19), .lit (.int .u8 16), .lit (.int .u8 7), .lit (.int .u8 26), .lit (.int .u8 12), .lit (.int .u8 18), .lit (.int .u8 6), .lit (.int .u8 11), .lit (.int .u8 5), .lit (.int .u8 10), .lit (.int .u8 9)]
def laid_math_bits_deBruijn64tab {H : Type} : DataW H := .agg [.lit (.int .u8 0), .lit (.int .u8 1), .lit (.int .u8 56), .lit (.int .u8 2), .lit (.int .u8 57), .lit (.int .u8 49), .lit (.int .u8 28), .lit (.int .u8 3), .lit (.int .u8 61), .lit (.int .u8 58), .lit (.int .u8 42), .lit (.int .u8 50), .lit (.int .u8 38), .lit (.int .u8 29), .lit (.int .u8 17), .lit (.int .u8 4), .lit (.int .u8 62), .lit (.int .u8 47), .lit (.int .u8 59), .lit (.int .u8 36), .lit (.int .u8 45), .lit (.int .u8 43), .lit (.int .u8 51), .lit (.int .u8 22), .lit (.int .u8 53), .lit (.int .u8 39), .lit (.int .u8 33), .lit (.int .u8 30), .lit (.int .u8 24), .lit (.int .u8 18), .lit (.int .u8 12), .lit (.int .u8 5), .lit (.int .u8 63), .lit (.int .u8 55), .lit (.int .u8 48), .lit (.int .u8 27), .lit (.int .u8 60), .lit (.int .u8 41), .lit (.int .u8 37), .lit (.int .u8 16), .lit (.int .u8 46), .lit (.int .u8 35), .lit (.int .u8 44), .lit (.int .u8 21), .lit (.int .u8 52), .lit (.int .u8 32), .lit (.int .u8 23), .lit (.int .u8 11), .lit (.int .u8 54), .lit (.int .u8 26), .lit (.int .u8 40), .lit (.int .u8 15), .lit (.int .u8 34), .lit (.int .u8 20), .lit (.int .u8 31), .lit (.int .u8 10), .lit (.int .u8 25), .lit (.int .u8 14), .lit (.int .u8 19), .lit (.int .u8 9), .lit (.int .u8 13), .lit (.int .u8 8), .lit (.int .u8 7), .lit (.int .u8 6)]
def laid_internal_strconv_uint64pow10 {H : Type} : DataW H := .agg [.lit (.int .u64 1), .lit (.int .u64 10), .lit (.int .u64 100), .lit (.int .u64 1000), .lit (.int .u64 10000), .lit (.int .u64 100000), .lit (.int .u64 1000000), .lit (.int .u64 10000000), .lit (.int .u64 100000000), .lit (.int .u64 1000000000), .lit (.int .u64 10000000000), .lit (.int .u64 100000000000), .lit (.int .u64 1000000000000), .lit (.int .u64 10000000000000), .lit (.int .u64 100000000000000), .lit (.int .u64 1000000000000000), .lit (.int .u64 10000000000000000), .lit (.int .u64 100000000000000000), .lit (.int .u64 1000000000000000000), .lit (.int .u64 10000000000000000000)]

/-- 'typebarlaw05.VtPuts': WHATEVER THE INPUT: true; the input reads as it did. -/
def vtPutsSpec : ChangeSpec := { name := "vtPuts", fn := fun _ => fun
  | [d] => { results := [.lit (.bool true)], args := [d] }
  | _ => none }
def vtPutsRow : OpenClaim := { program := "ythkdpddfmnbijaadoor", sum := "40e0edb36b2bb9e980454bf9488554f506062616947cd21df5deafa897656e19", func := "typebar/typebarlaw05.VtPuts", spec := "vtPuts", named := ["internal/strconv.uint64pow10", "math/bits.deBruijn32tab", "math/bits.deBruijn64tab"], apart := false, laid := [("math/bits.deBruijn32tab", laid_math_bits_deBruijn32tab), ("math/bits.deBruijn64tab", laid_math_bits_deBruijn64tab), ("internal/strconv.uint64pow10", laid_internal_strconv_uint64pow10)] }
def VtPutsSaid : Prop := vtPutsRow.holds Tryd.pinned (OpenSpec.ofChange vtPutsSpec)

/-- ITS FALSE NEIGHBOUR: 'it returns false'. Refute it at one input. -/
def vtPutsWrong : ChangeSpec := { name := "vtPuts", fn := fun _ => fun
  | [d] => { results := [.lit (.bool false)], args := [d] }
  | _ => none }
def VtPutsWrongFalsely : Prop := vtPutsRow.holds Tryd.pinned (OpenSpec.ofChange vtPutsWrong)

/-- 'typebarlaw05.VtCosts': WHATEVER THE INPUT: true; the input reads as it did. -/
def vtCostsSpec : ChangeSpec := { name := "vtCosts", fn := fun _ => fun
  | [d] => { results := [.lit (.bool true)], args := [d] }
  | _ => none }
def vtCostsRow : OpenClaim := { program := "ythkdpddfmnbijaadoor", sum := "40e0edb36b2bb9e980454bf9488554f506062616947cd21df5deafa897656e19", func := "typebar/typebarlaw05.VtCosts", spec := "vtCosts", named := ["internal/strconv.uint64pow10", "math/bits.deBruijn32tab", "math/bits.deBruijn64tab"], apart := false, laid := [("math/bits.deBruijn32tab", laid_math_bits_deBruijn32tab), ("math/bits.deBruijn64tab", laid_math_bits_deBruijn64tab), ("internal/strconv.uint64pow10", laid_internal_strconv_uint64pow10)] }
def VtCostsSaid : Prop := vtCostsRow.holds Tryd.pinned (OpenSpec.ofChange vtCostsSpec)

/-- ITS FALSE NEIGHBOUR: 'it returns false'. Refute it at one input. -/
def vtCostsWrong : ChangeSpec := { name := "vtCosts", fn := fun _ => fun
  | [d] => { results := [.lit (.bool false)], args := [d] }
  | _ => none }
def VtCostsWrongFalsely : Prop := vtCostsRow.holds Tryd.pinned (OpenSpec.ofChange vtCostsWrong)

/-- 'typebarlaw05.VtUnlike': WHATEVER THE INPUT: true; the input reads as it did. -/
def vtUnlikeSpec : ChangeSpec := { name := "vtUnlike", fn := fun _ => fun
  | [d1, d2] => { results := [.lit (.bool true)], args := [d1, d2] }
  | _ => none }
def vtUnlikeRow : OpenClaim := { program := "ythkdpddfmnbijaadoor", sum := "40e0edb36b2bb9e980454bf9488554f506062616947cd21df5deafa897656e19", func := "typebar/typebarlaw05.VtUnlike", spec := "vtUnlike", named := ["internal/strconv.uint64pow10", "math/bits.deBruijn32tab", "math/bits.deBruijn64tab"], apart := false, laid := [("math/bits.deBruijn32tab", laid_math_bits_deBruijn32tab), ("math/bits.deBruijn64tab", laid_math_bits_deBruijn64tab), ("internal/strconv.uint64pow10", laid_internal_strconv_uint64pow10)] }
def VtUnlikeSaid : Prop := vtUnlikeRow.holds Tryd.pinned (OpenSpec.ofChange vtUnlikeSpec)

/-- ITS FALSE NEIGHBOUR: 'it returns false'. Refute it at one input. -/
def vtUnlikeWrong : ChangeSpec := { name := "vtUnlike", fn := fun _ => fun
  | [d1, d2] => { results := [.lit (.bool false)], args := [d1, d2] }
  | _ => none }
def VtUnlikeWrongFalsely : Prop := vtUnlikeRow.holds Tryd.pinned (OpenSpec.ofChange vtUnlikeWrong)

/-- 'typebarlaw05.VtShort': WHATEVER THE INPUT: true; the input reads as it did. -/
def vtShortSpec : ChangeSpec := { name := "vtShort", fn := fun _ => fun
  | [d] => { results := [.lit (.bool true)], args := [d] }
  | _ => none }
def vtShortRow : OpenClaim := { program := "ythkdpddfmnbijaadoor", sum := "40e0edb36b2bb9e980454bf9488554f506062616947cd21df5deafa897656e19", func := "typebar/typebarlaw05.VtShort", spec := "vtShort", named := ["internal/strconv.uint64pow10", "math/bits.deBruijn32tab", "math/bits.deBruijn64tab"], apart := false, laid := [("math/bits.deBruijn32tab", laid_math_bits_deBruijn32tab), ("math/bits.deBruijn64tab", laid_math_bits_deBruijn64tab), ("internal/strconv.uint64pow10", laid_internal_strconv_uint64pow10)] }
def VtShortSaid : Prop := vtShortRow.holds Tryd.pinned (OpenSpec.ofChange vtShortSpec)

/-- ITS FALSE NEIGHBOUR: 'it returns false'. Refute it at one input. -/
def vtShortWrong : ChangeSpec := { name := "vtShort", fn := fun _ => fun
  | [d] => { results := [.lit (.bool false)], args := [d] }
  | _ => none }
def VtShortWrongFalsely : Prop := vtShortRow.holds Tryd.pinned (OpenSpec.ofChange vtShortWrong)

/-- 'typebarlaw05.VtSums': WHATEVER THE INPUT: true; the input reads as it did. -/
def vtSumsSpec : ChangeSpec := { name := "vtSums", fn := fun _ => fun
  | [d1, d2, d3] => { results := [.lit (.bool true)], args := [d1, d2, d3] }
  | _ => none }
def vtSumsRow : OpenClaim := { program := "ythkdpddfmnbijaadoor", sum := "40e0edb36b2bb9e980454bf9488554f506062616947cd21df5deafa897656e19", func := "typebar/typebarlaw05.VtSums", spec := "vtSums", named := ["internal/strconv.uint64pow10", "math/bits.deBruijn32tab", "math/bits.deBruijn64tab"], apart := false, laid := [("math/bits.deBruijn32tab", laid_math_bits_deBruijn32tab), ("math/bits.deBruijn64tab", laid_math_bits_deBruijn64tab), ("internal/strconv.uint64pow10", laid_internal_strconv_uint64pow10)] }
def VtSumsSaid : Prop := vtSumsRow.holds Tryd.pinned (OpenSpec.ofChange vtSumsSpec)

/-- ITS FALSE NEIGHBOUR: 'it returns false'. Refute it at one input. -/
def vtSumsWrong : ChangeSpec := { name := "vtSums", fn := fun _ => fun
  | [d1, d2, d3] => { results := [.lit (.bool false)], args := [d1, d2, d3] }
  | _ => none }
def VtSumsWrongFalsely : Prop := vtSumsRow.holds Tryd.pinned (OpenSpec.ofChange vtSumsWrong)

/-- 'typebarlaw09.LinkOffers': WHATEVER THE INPUT: true; the input reads as it did. -/
def linkOffersSpec : ChangeSpec := { name := "linkOffers", fn := fun _ => fun
  | [d1, d2, d3] => { results := [.lit (.bool true)], args := [d1, d2, d3] }
  | _ => none }
def linkOffersRow : OpenClaim := { program := "ythkdpddfmnbijaadoor", sum := "40e0edb36b2bb9e980454bf9488554f506062616947cd21df5deafa897656e19", func := "typebar/typebarlaw09.LinkOffers", spec := "linkOffers", named := ["internal/strconv.uint64pow10", "math/bits.deBruijn32tab", "math/bits.deBruijn64tab"], apart := false, laid := [("math/bits.deBruijn32tab", laid_math_bits_deBruijn32tab), ("math/bits.deBruijn64tab", laid_math_bits_deBruijn64tab), ("internal/strconv.uint64pow10", laid_internal_strconv_uint64pow10)] }
def LinkOffersSaid : Prop := linkOffersRow.holds Tryd.pinned (OpenSpec.ofChange linkOffersSpec)

/-- ITS FALSE NEIGHBOUR: 'it returns false'. Refute it at one input. -/
def linkOffersWrong : ChangeSpec := { name := "linkOffers", fn := fun _ => fun
  | [d1, d2, d3] => { results := [.lit (.bool false)], args := [d1, d2, d3] }
  | _ => none }
def LinkOffersWrongFalsely : Prop := linkOffersRow.holds Tryd.pinned (OpenSpec.ofChange linkOffersWrong)

/-- 'typebarlaw09.LinkSends': WHATEVER THE INPUT: true; the input reads as it did. -/
def linkSendsSpec : ChangeSpec := { name := "linkSends", fn := fun _ => fun
  | [d1, d2] => { results := [.lit (.bool true)], args := [d1, d2] }
  | _ => none }
def linkSendsRow : OpenClaim := { program := "ythkdpddfmnbijaadoor", sum := "40e0edb36b2bb9e980454bf9488554f506062616947cd21df5deafa897656e19", func := "typebar/typebarlaw09.LinkSends", spec := "linkSends", named := ["internal/strconv.uint64pow10", "math/bits.deBruijn32tab", "math/bits.deBruijn64tab"], apart := false, laid := [("math/bits.deBruijn32tab", laid_math_bits_deBruijn32tab), ("math/bits.deBruijn64tab", laid_math_bits_deBruijn64tab), ("internal/strconv.uint64pow10", laid_internal_strconv_uint64pow10)] }
def LinkSendsSaid : Prop := linkSendsRow.holds Tryd.pinned (OpenSpec.ofChange linkSendsSpec)

/-- ITS FALSE NEIGHBOUR: 'it returns false'. Refute it at one input. -/
def linkSendsWrong : ChangeSpec := { name := "linkSends", fn := fun _ => fun
  | [d1, d2] => { results := [.lit (.bool false)], args := [d1, d2] }
  | _ => none }
def LinkSendsWrongFalsely : Prop := linkSendsRow.holds Tryd.pinned (OpenSpec.ofChange linkSendsWrong)

/-- 'typebarlaw09.LinkTurns': WHATEVER THE INPUT: true; the input reads as it did. -/
def linkTurnsSpec : ChangeSpec := { name := "linkTurns", fn := fun _ => fun
  | [d1, d2] => { results := [.lit (.bool true)], args := [d1, d2] }
  | _ => none }
def linkTurnsRow : OpenClaim := { program := "ythkdpddfmnbijaadoor", sum := "40e0edb36b2bb9e980454bf9488554f506062616947cd21df5deafa897656e19", func := "typebar/typebarlaw09.LinkTurns", spec := "linkTurns", named := ["internal/strconv.uint64pow10", "math/bits.deBruijn32tab", "math/bits.deBruijn64tab"], apart := false, laid := [("math/bits.deBruijn32tab", laid_math_bits_deBruijn32tab), ("math/bits.deBruijn64tab", laid_math_bits_deBruijn64tab), ("internal/strconv.uint64pow10", laid_internal_strconv_uint64pow10)] }
def LinkTurnsSaid : Prop := linkTurnsRow.holds Tryd.pinned (OpenSpec.ofChange linkTurnsSpec)

/-- ITS FALSE NEIGHBOUR: 'it returns false'. Refute it at one input. -/
def linkTurnsWrong : ChangeSpec := { name := "linkTurns", fn := fun _ => fun
  | [d1, d2] => { results := [.lit (.bool false)], args := [d1, d2] }
  | _ => none }
def LinkTurnsWrongFalsely : Prop := linkTurnsRow.holds Tryd.pinned (OpenSpec.ofChange linkTurnsWrong)

/-- 'typebarlaw09.LinkStays': WHATEVER THE INPUT: true; the input reads as it did. -/
def linkStaysSpec : ChangeSpec := { name := "linkStays", fn := fun _ => fun
  | [d1, d2, d3, d4] => { results := [.lit (.bool true)], args := [d1, d2, d3, d4] }
  | _ => none }
def linkStaysRow : OpenClaim := { program := "ythkdpddfmnbijaadoor", sum := "40e0edb36b2bb9e980454bf9488554f506062616947cd21df5deafa897656e19", func := "typebar/typebarlaw09.LinkStays", spec := "linkStays", named := ["internal/strconv.uint64pow10", "math/bits.deBruijn32tab", "math/bits.deBruijn64tab"], apart := false, laid := [("math/bits.deBruijn32tab", laid_math_bits_deBruijn32tab), ("math/bits.deBruijn64tab", laid_math_bits_deBruijn64tab), ("internal/strconv.uint64pow10", laid_internal_strconv_uint64pow10)] }
def LinkStaysSaid : Prop := linkStaysRow.holds Tryd.pinned (OpenSpec.ofChange linkStaysSpec)

/-- ITS FALSE NEIGHBOUR: 'it returns false'. Refute it at one input. -/
def linkStaysWrong : ChangeSpec := { name := "linkStays", fn := fun _ => fun
  | [d1, d2, d3, d4] => { results := [.lit (.bool false)], args := [d1, d2, d3, d4] }
  | _ => none }
def LinkStaysWrongFalsely : Prop := linkStaysRow.holds Tryd.pinned (OpenSpec.ofChange linkStaysWrong)

/-- 'typebarlaw09.LinkGrants': WHATEVER THE INPUT: true; the input reads as it did. -/
def linkGrantsSpec : ChangeSpec := { name := "linkGrants", fn := fun _ => fun
  | [d1, d2] => { results := [.lit (.bool true)], args := [d1, d2] }
  | _ => none }
def linkGrantsRow : OpenClaim := { program := "ythkdpddfmnbijaadoor", sum := "40e0edb36b2bb9e980454bf9488554f506062616947cd21df5deafa897656e19", func := "typebar/typebarlaw09.LinkGrants", spec := "linkGrants", named := ["internal/strconv.uint64pow10", "math/bits.deBruijn32tab", "math/bits.deBruijn64tab"], apart := false, laid := [("math/bits.deBruijn32tab", laid_math_bits_deBruijn32tab), ("math/bits.deBruijn64tab", laid_math_bits_deBruijn64tab), ("internal/strconv.uint64pow10", laid_internal_strconv_uint64pow10)] }
def LinkGrantsSaid : Prop := linkGrantsRow.holds Tryd.pinned (OpenSpec.ofChange linkGrantsSpec)

/-- ITS FALSE NEIGHBOUR: 'it returns false'. Refute it at one input. -/
def linkGrantsWrong : ChangeSpec := { name := "linkGrants", fn := fun _ => fun
  | [d1, d2] => { results := [.lit (.bool false)], args := [d1, d2] }
  | _ => none }
def LinkGrantsWrongFalsely : Prop := linkGrantsRow.holds Tryd.pinned (OpenSpec.ofChange linkGrantsWrong)

/-- 'typebarlaw09.LinkParts': WHATEVER THE INPUT: true; the input reads as it did. -/
def linkPartsSpec : ChangeSpec := { name := "linkParts", fn := fun _ => fun
  | [d1, d2, d3] => { results := [.lit (.bool true)], args := [d1, d2, d3] }
  | _ => none }
def linkPartsRow : OpenClaim := { program := "ythkdpddfmnbijaadoor", sum := "40e0edb36b2bb9e980454bf9488554f506062616947cd21df5deafa897656e19", func := "typebar/typebarlaw09.LinkParts", spec := "linkParts", named := ["internal/strconv.uint64pow10", "math/bits.deBruijn32tab", "math/bits.deBruijn64tab"], apart := false, laid := [("math/bits.deBruijn32tab", laid_math_bits_deBruijn32tab), ("math/bits.deBruijn64tab", laid_math_bits_deBruijn64tab), ("internal/strconv.uint64pow10", laid_internal_strconv_uint64pow10)] }
def LinkPartsSaid : Prop := linkPartsRow.holds Tryd.pinned (OpenSpec.ofChange linkPartsSpec)

/-- ITS FALSE NEIGHBOUR: 'it returns false'. Refute it at one input. -/
def linkPartsWrong : ChangeSpec := { name := "linkParts", fn := fun _ => fun
  | [d1, d2, d3] => { results := [.lit (.bool false)], args := [d1, d2, d3] }
  | _ => none }
def LinkPartsWrongFalsely : Prop := linkPartsRow.holds Tryd.pinned (OpenSpec.ofChange linkPartsWrong)

/-- 'typebarlaw09.LinkDrops': WHATEVER THE INPUT: true; the input reads as it did. -/
def linkDropsSpec : ChangeSpec := { name := "linkDrops", fn := fun _ => fun
  | [d] => { results := [.lit (.bool true)], args := [d] }
  | _ => none }
def linkDropsRow : OpenClaim := { program := "ythkdpddfmnbijaadoor", sum := "40e0edb36b2bb9e980454bf9488554f506062616947cd21df5deafa897656e19", func := "typebar/typebarlaw09.LinkDrops", spec := "linkDrops", named := ["internal/strconv.uint64pow10", "math/bits.deBruijn32tab", "math/bits.deBruijn64tab"], apart := false, laid := [("math/bits.deBruijn32tab", laid_math_bits_deBruijn32tab), ("math/bits.deBruijn64tab", laid_math_bits_deBruijn64tab), ("internal/strconv.uint64pow10", laid_internal_strconv_uint64pow10)] }
def LinkDropsSaid : Prop := linkDropsRow.holds Tryd.pinned (OpenSpec.ofChange linkDropsSpec)

/-- ITS FALSE NEIGHBOUR: 'it returns false'. Refute it at one input. -/
def linkDropsWrong : ChangeSpec := { name := "linkDrops", fn := fun _ => fun
  | [d] => { results := [.lit (.bool false)], args := [d] }
  | _ => none }
def LinkDropsWrongFalsely : Prop := linkDropsRow.holds Tryd.pinned (OpenSpec.ofChange linkDropsWrong)

/- THE SECOND FORM. 'bulk': how many values and letters a reading holds, each counted each time it is reached (what is shared counts as often as it is met; a slice's spare places count too). A statement '..UptoSaid' is the law's where the arguments, and the package variables that the reading takes, are together of bulk at most 1048576: NARROWER than '..Said'. Prove '..Said' where nothing that the law and all that it calls make is longer than what came in: it says more and counts as full. Else prove '..UptoSaid'. A law counts once. -/
mutual
def uptoBulk {H : Type} : DataW H → Nat
  | .lit (.string bytes) => bytes.length + 1
  | .lit _ => 1
  | .nil => 1
  | .ptr d => uptoBulk d + 1
  | .slice elems spare => uptoBulkAll elems + uptoBulkAll spare + 1
  | .agg parts => uptoBulkAll parts + 1
  | .iface _ d => uptoBulk d + 1
  | .map entries => uptoBulkEntries entries + 1
  | .held _ => 1
def uptoBulkAll {H : Type} : List (DataW H) → Nat
  | [] => 0
  | d :: r => uptoBulk d + uptoBulkAll r
def uptoBulkEntries {H : Type} : List (Lit × DataW H) → Nat
  | [] => 0
  | x :: r => uptoBulkEntry x + uptoBulkEntries r
def uptoBulkEntry {H : Type} : Lit × DataW H → Nat
  | (.string bytes, d) => bytes.length + uptoBulk d + 1
  | (_, d) => uptoBulk d + 1
 end
def uptoSmall : (H : Type) → List (DataW H) → Bool := fun _ ds => decide (uptoBulkAll ds ≤ 1048576)
def OpenSpec.upto (s : _root_.Go.ChangeSpec) : _root_.Go.OpenSpec := { _root_.Go.OpenSpec.ofChange s with cond := some uptoSmall }

/-- 'typebarlaw05.VtPuts', WHERE WHAT IT READS IS OF BULK AT MOST 1048576: true; the input reads as it did. -/
def vtPutsUptoRow : OpenClaim := { program := "ythkdpddfmnbijaadoor", sum := "40e0edb36b2bb9e980454bf9488554f506062616947cd21df5deafa897656e19", func := "typebar/typebarlaw05.VtPuts", spec := "vtPuts", named := ["internal/strconv.uint64pow10", "math/bits.deBruijn32tab", "math/bits.deBruijn64tab"], apart := false, laid := [("math/bits.deBruijn32tab", laid_math_bits_deBruijn32tab), ("math/bits.deBruijn64tab", laid_math_bits_deBruijn64tab), ("internal/strconv.uint64pow10", laid_internal_strconv_uint64pow10)], narrowed := true }
def VtPutsUptoSaid : Prop := vtPutsUptoRow.holds Tryd.pinned (OpenSpec.upto vtPutsSpec)

/-- 'typebarlaw05.VtCosts', WHERE WHAT IT READS IS OF BULK AT MOST 1048576: true; the input reads as it did. -/
def vtCostsUptoRow : OpenClaim := { program := "ythkdpddfmnbijaadoor", sum := "40e0edb36b2bb9e980454bf9488554f506062616947cd21df5deafa897656e19", func := "typebar/typebarlaw05.VtCosts", spec := "vtCosts", named := ["internal/strconv.uint64pow10", "math/bits.deBruijn32tab", "math/bits.deBruijn64tab"], apart := false, laid := [("math/bits.deBruijn32tab", laid_math_bits_deBruijn32tab), ("math/bits.deBruijn64tab", laid_math_bits_deBruijn64tab), ("internal/strconv.uint64pow10", laid_internal_strconv_uint64pow10)], narrowed := true }
def VtCostsUptoSaid : Prop := vtCostsUptoRow.holds Tryd.pinned (OpenSpec.upto vtCostsSpec)

/-- 'typebarlaw05.VtUnlike', WHERE WHAT IT READS IS OF BULK AT MOST 1048576: true; the input reads as it did. -/
def vtUnlikeUptoRow : OpenClaim := { program := "ythkdpddfmnbijaadoor", sum := "40e0edb36b2bb9e980454bf9488554f506062616947cd21df5deafa897656e19", func := "typebar/typebarlaw05.VtUnlike", spec := "vtUnlike", named := ["internal/strconv.uint64pow10", "math/bits.deBruijn32tab", "math/bits.deBruijn64tab"], apart := false, laid := [("math/bits.deBruijn32tab", laid_math_bits_deBruijn32tab), ("math/bits.deBruijn64tab", laid_math_bits_deBruijn64tab), ("internal/strconv.uint64pow10", laid_internal_strconv_uint64pow10)], narrowed := true }
def VtUnlikeUptoSaid : Prop := vtUnlikeUptoRow.holds Tryd.pinned (OpenSpec.upto vtUnlikeSpec)

/-- 'typebarlaw05.VtShort', WHERE WHAT IT READS IS OF BULK AT MOST 1048576: true; the input reads as it did. -/
def vtShortUptoRow : OpenClaim := { program := "ythkdpddfmnbijaadoor", sum := "40e0edb36b2bb9e980454bf9488554f506062616947cd21df5deafa897656e19", func := "typebar/typebarlaw05.VtShort", spec := "vtShort", named := ["internal/strconv.uint64pow10", "math/bits.deBruijn32tab", "math/bits.deBruijn64tab"], apart := false, laid := [("math/bits.deBruijn32tab", laid_math_bits_deBruijn32tab), ("math/bits.deBruijn64tab", laid_math_bits_deBruijn64tab), ("internal/strconv.uint64pow10", laid_internal_strconv_uint64pow10)], narrowed := true }
def VtShortUptoSaid : Prop := vtShortUptoRow.holds Tryd.pinned (OpenSpec.upto vtShortSpec)

/-- 'typebarlaw05.VtSums', WHERE WHAT IT READS IS OF BULK AT MOST 1048576: true; the input reads as it did. -/
def vtSumsUptoRow : OpenClaim := { program := "ythkdpddfmnbijaadoor", sum := "40e0edb36b2bb9e980454bf9488554f506062616947cd21df5deafa897656e19", func := "typebar/typebarlaw05.VtSums", spec := "vtSums", named := ["internal/strconv.uint64pow10", "math/bits.deBruijn32tab", "math/bits.deBruijn64tab"], apart := false, laid := [("math/bits.deBruijn32tab", laid_math_bits_deBruijn32tab), ("math/bits.deBruijn64tab", laid_math_bits_deBruijn64tab), ("internal/strconv.uint64pow10", laid_internal_strconv_uint64pow10)], narrowed := true }
def VtSumsUptoSaid : Prop := vtSumsUptoRow.holds Tryd.pinned (OpenSpec.upto vtSumsSpec)

/-- 'typebarlaw09.LinkOffers', WHERE WHAT IT READS IS OF BULK AT MOST 1048576: true; the input reads as it did. -/
def linkOffersUptoRow : OpenClaim := { program := "ythkdpddfmnbijaadoor", sum := "40e0edb36b2bb9e980454bf9488554f506062616947cd21df5deafa897656e19", func := "typebar/typebarlaw09.LinkOffers", spec := "linkOffers", named := ["internal/strconv.uint64pow10", "math/bits.deBruijn32tab", "math/bits.deBruijn64tab"], apart := false, laid := [("math/bits.deBruijn32tab", laid_math_bits_deBruijn32tab), ("math/bits.deBruijn64tab", laid_math_bits_deBruijn64tab), ("internal/strconv.uint64pow10", laid_internal_strconv_uint64pow10)], narrowed := true }
def LinkOffersUptoSaid : Prop := linkOffersUptoRow.holds Tryd.pinned (OpenSpec.upto linkOffersSpec)

/-- 'typebarlaw09.LinkSends', WHERE WHAT IT READS IS OF BULK AT MOST 1048576: true; the input reads as it did. -/
def linkSendsUptoRow : OpenClaim := { program := "ythkdpddfmnbijaadoor", sum := "40e0edb36b2bb9e980454bf9488554f506062616947cd21df5deafa897656e19", func := "typebar/typebarlaw09.LinkSends", spec := "linkSends", named := ["internal/strconv.uint64pow10", "math/bits.deBruijn32tab", "math/bits.deBruijn64tab"], apart := false, laid := [("math/bits.deBruijn32tab", laid_math_bits_deBruijn32tab), ("math/bits.deBruijn64tab", laid_math_bits_deBruijn64tab), ("internal/strconv.uint64pow10", laid_internal_strconv_uint64pow10)], narrowed := true }
def LinkSendsUptoSaid : Prop := linkSendsUptoRow.holds Tryd.pinned (OpenSpec.upto linkSendsSpec)

/-- 'typebarlaw09.LinkTurns', WHERE WHAT IT READS IS OF BULK AT MOST 1048576: true; the input reads as it did. -/
def linkTurnsUptoRow : OpenClaim := { program := "ythkdpddfmnbijaadoor", sum := "40e0edb36b2bb9e980454bf9488554f506062616947cd21df5deafa897656e19", func := "typebar/typebarlaw09.LinkTurns", spec := "linkTurns", named := ["internal/strconv.uint64pow10", "math/bits.deBruijn32tab", "math/bits.deBruijn64tab"], apart := false, laid := [("math/bits.deBruijn32tab", laid_math_bits_deBruijn32tab), ("math/bits.deBruijn64tab", laid_math_bits_deBruijn64tab), ("internal/strconv.uint64pow10", laid_internal_strconv_uint64pow10)], narrowed := true }
def LinkTurnsUptoSaid : Prop := linkTurnsUptoRow.holds Tryd.pinned (OpenSpec.upto linkTurnsSpec)

/-- 'typebarlaw09.LinkStays', WHERE WHAT IT READS IS OF BULK AT MOST 1048576: true; the input reads as it did. -/
def linkStaysUptoRow : OpenClaim := { program := "ythkdpddfmnbijaadoor", sum := "40e0edb36b2bb9e980454bf9488554f506062616947cd21df5deafa897656e19", func := "typebar/typebarlaw09.LinkStays", spec := "linkStays", named := ["internal/strconv.uint64pow10", "math/bits.deBruijn32tab", "math/bits.deBruijn64tab"], apart := false, laid := [("math/bits.deBruijn32tab", laid_math_bits_deBruijn32tab), ("math/bits.deBruijn64tab", laid_math_bits_deBruijn64tab), ("internal/strconv.uint64pow10", laid_internal_strconv_uint64pow10)], narrowed := true }
def LinkStaysUptoSaid : Prop := linkStaysUptoRow.holds Tryd.pinned (OpenSpec.upto linkStaysSpec)

/-- 'typebarlaw09.LinkGrants', WHERE WHAT IT READS IS OF BULK AT MOST 1048576: true; the input reads as it did. -/
def linkGrantsUptoRow : OpenClaim := { program := "ythkdpddfmnbijaadoor", sum := "40e0edb36b2bb9e980454bf9488554f506062616947cd21df5deafa897656e19", func := "typebar/typebarlaw09.LinkGrants", spec := "linkGrants", named := ["internal/strconv.uint64pow10", "math/bits.deBruijn32tab", "math/bits.deBruijn64tab"], apart := false, laid := [("math/bits.deBruijn32tab", laid_math_bits_deBruijn32tab), ("math/bits.deBruijn64tab", laid_math_bits_deBruijn64tab), ("internal/strconv.uint64pow10", laid_internal_strconv_uint64pow10)], narrowed := true }
def LinkGrantsUptoSaid : Prop := linkGrantsUptoRow.holds Tryd.pinned (OpenSpec.upto linkGrantsSpec)

/-- 'typebarlaw09.LinkParts', WHERE WHAT IT READS IS OF BULK AT MOST 1048576: true; the input reads as it did. -/
def linkPartsUptoRow : OpenClaim := { program := "ythkdpddfmnbijaadoor", sum := "40e0edb36b2bb9e980454bf9488554f506062616947cd21df5deafa897656e19", func := "typebar/typebarlaw09.LinkParts", spec := "linkParts", named := ["internal/strconv.uint64pow10", "math/bits.deBruijn32tab", "math/bits.deBruijn64tab"], apart := false, laid := [("math/bits.deBruijn32tab", laid_math_bits_deBruijn32tab), ("math/bits.deBruijn64tab", laid_math_bits_deBruijn64tab), ("internal/strconv.uint64pow10", laid_internal_strconv_uint64pow10)], narrowed := true }
def LinkPartsUptoSaid : Prop := linkPartsUptoRow.holds Tryd.pinned (OpenSpec.upto linkPartsSpec)

/-- 'typebarlaw09.LinkDrops', WHERE WHAT IT READS IS OF BULK AT MOST 1048576: true; the input reads as it did. -/
def linkDropsUptoRow : OpenClaim := { program := "ythkdpddfmnbijaadoor", sum := "40e0edb36b2bb9e980454bf9488554f506062616947cd21df5deafa897656e19", func := "typebar/typebarlaw09.LinkDrops", spec := "linkDrops", named := ["internal/strconv.uint64pow10", "math/bits.deBruijn32tab", "math/bits.deBruijn64tab"], apart := false, laid := [("math/bits.deBruijn32tab", laid_math_bits_deBruijn32tab), ("math/bits.deBruijn64tab", laid_math_bits_deBruijn64tab), ("internal/strconv.uint64pow10", laid_internal_strconv_uint64pow10)], narrowed := true }
def LinkDropsUptoSaid : Prop := linkDropsUptoRow.holds Tryd.pinned (OpenSpec.upto linkDropsSpec)

end Rows
end Go.Proofs.YthkdpddfmnbijaaDoor
