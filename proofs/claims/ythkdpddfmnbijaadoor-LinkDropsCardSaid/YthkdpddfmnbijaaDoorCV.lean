/- How commands that are handed in are read, and a world that holds the library's tables (none of which is read here). No condition. -/
import Derived.Test.YthkdpddfmnbijaaDoorV1
import Derived.Test.YthkdpddfmnbijaaDoorA8
import Derived.Test.YthkdpddfmnbijaaDoorCards
import Derived.Test.YthkdpddfmnbijaaDoorTie
import Derived.WalkKit
import Derived.ProofKit
import Derived.OpenShut
import Derived.Deep.DeepHandedRow
import Derived.Lib.LaidTab
namespace Go.Proofs.YthkdpddfmnbijaaDoor
set_option linter.unusedSimpArgs false
set_option linter.unusedVariables false
set_option maxHeartbeats 4000000
open Go.ChangeShapes Go.WideShapes Go.ChangeAt Go.RowKit
set_option maxRecDepth 100000
theorem own : ownKnob Tryd.prog.godebug = none := by kernel_rfl
theorem laidOut : laidOutB Tryd.prog = true := by kernel_rfl
theorem rd_cmd : Rd Tryd.prog cmdT 23 fun c => (Lit.int .i64 c.1).wf = true ∧ (Lit.int .i64 c.2.1).wf = true ∧ (Lit.int .i64 c.2.2.1).wf = true ∧ (Lit.int .i32 c.2.2.2).wf = true :=
  ⟨by kernel_rfl, by decide, fun enc w sp hd fuel cs x h => by
    obtain ⟨xs, n, _, _, hl, hn, hf⟩ := DataW.trod_struct us_cmd h
    have hl2 : cs.length = 4 := hl.trans (by kernel_rfl)
    obtain ⟨a, b, c, d, rfl⟩ : ∃ a b c d, cs = [a, b, c, d] := by
      match cs, hl2 with
      | [a, b, c, d], _ => exact ⟨a, b, c, d, rfl⟩
    have hn2 : xs.length = 4 := hn
    obtain ⟨x0, x1, x2, x3, rfl⟩ : ∃ a b c d, xs = [a, b, c, d] := by
      match xs, hn2 with
      | [a, b, c, d], _ => exact ⟨a, b, c, d, rfl⟩
    have ci : Tryd.prog.cellsOf 3 = 1 := by kernel_rfl
    have cr : Tryd.prog.cellsOf 21 = 1 := by kernel_rfl
    have h0 : DataW.trod enc Tryd.prog w 0 sp hd n 3 (([a, b, c, d].drop 0).take (Tryd.prog.cellsOf 3)) = some x0 := hf 0 _ rfl
    have h1 : DataW.trod enc Tryd.prog w 0 sp hd n 3 (([a, b, c, d].drop 1).take (Tryd.prog.cellsOf 3)) = some x1 := hf 1 _ rfl
    have h2 : DataW.trod enc Tryd.prog w 0 sp hd n 3 (([a, b, c, d].drop 2).take (Tryd.prog.cellsOf 3)) = some x2 := hf 2 _ rfl
    have h3 : DataW.trod enc Tryd.prog w 0 sp hd n 21 (([a, b, c, d].drop 3).take (Tryd.prog.cellsOf 21)) = some x3 := hf 3 _ rfl
    rw [ci] at h0 h1 h2
    rw [cr] at h3
    obtain ⟨n0, e0, _, w0⟩ := DataW.trod_int Tryd.underlying3 h0
    obtain ⟨n1, e1, _, w1⟩ := DataW.trod_int Tryd.underlying3 h1
    obtain ⟨n2, e2, _, w2⟩ := DataW.trod_int Tryd.underlying3 h2
    obtain ⟨n3, e3, _, w3⟩ := DataW.trod_int Tryd.underlying21 h3
    simp only [List.drop_zero, List.take_succ_cons, List.take_zero, List.drop_succ_cons, List.cons.injEq, and_true] at e0 e1 e2 e3
    exact ⟨(n0, n1, n2, n3), by rw [e0, e1, e2, e3]; rfl, w0, w1, w2, w3⟩⟩
theorem tableRead {L : List (String × DataW Unit)} {W : World} (h : laidMetH Tryd.prog L W) : Gh.le tab0 (initG W) := fun _ _ _ e => by simp [tab0] at e
/-- a table's values -/
def tabV : DataW Unit → Array Value
  | .agg l => (l.map fun x => match x with | .lit y => y.value | _ => undef).toArray
  | _ => #[]
/-- a block of values -/
def layV (vs : Array Value) : Obj → Obj
  | .cells _ t frozen => .cells vs t frozen
  | o => o
/-- a world for the witness: the settled one, the tables laid -/
noncomputable def laidWorld (os : Os) : World :=
  { World.holding Tryd.prog os ⟨#[], #[], []⟩ with heap := (((World.holding Tryd.prog os ⟨#[], #[], []⟩).heap.modify 0 (layV (tabV Rows.laid_internal_strconv_uint64pow10))).modify 1 (layV (tabV Rows.laid_math_bits_deBruijn32tab))).modify 2 (layV (tabV Rows.laid_math_bits_deBruijn64tab)) }
end Go.Proofs.YthkdpddfmnbijaaDoor
