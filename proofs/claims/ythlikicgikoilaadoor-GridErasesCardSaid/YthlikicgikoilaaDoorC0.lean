/- The table of wide signs, as the rows list it, and a world that holds it. No condition. -/
import Derived.Test.YthlikicgikoilaaDoorTy
import Derived.Test.YthlikicgikoilaaDoorA8
import Derived.Test.YthlikicgikoilaaDoorCards
import Derived.Test.YthlikicgikoilaaDoorTie
import Derived.WalkKit
import Derived.ProofKit
import Derived.OpenShut
import Derived.Deep.DeepHandedRow
import Derived.Lib.LaidTab
namespace Go.Proofs.YthlikicgikoilaaDoor
set_option linter.unusedSimpArgs false
set_option linter.unusedVariables false
set_option maxHeartbeats 4000000
open Go.ChangeShapes Go.WideShapes Go.ChangeAt Go.RowKit
set_option maxRecDepth 100000

theorem own : ownKnob Tryd.prog.godebug = none := by kernel_rfl
theorem laidOut : laidOutB Tryd.prog = true := by kernel_rfl
theorem gTab : Tryd.prog.globalNamed "typebar/wide.spans" = some 0 := by kernel_rfl
theorem gTabType : (Tryd.prog.globals[0]?).map (·.type) = some 53 := by kernel_rfl
theorem cells_span : Tryd.prog.cellsOf 52 = 2 := by kernel_rfl
theorem cells_i32 : Tryd.prog.cellsOf 21 = 1 := by kernel_rfl
theorem rd_cell : Rd Tryd.prog cellT 30 fun c => (Lit.int .i32 c.1).wf = true ∧ (Lit.int .i64 c.2).wf = true :=
  ⟨by kernel_rfl, by decide, fun enc w sp hd fuel cs x h => by
    obtain ⟨xs, n, _, _, hl, hn, hf⟩ := DataW.trod_struct us_cell h
    have hl2 : cs.length = 2 := hl.trans (by kernel_rfl)
    obtain ⟨a, b, rfl⟩ : ∃ a b, cs = [a, b] := by
      match cs, hl2 with
      | [a, b], _ => exact ⟨a, b, rfl⟩
    have hn2 : xs.length = 2 := hn
    obtain ⟨x0, x1, rfl⟩ : ∃ a b, xs = [a, b] := by
      match xs, hn2 with
      | [a, b], _ => exact ⟨a, b, rfl⟩
    have c0 : Tryd.prog.cellsOf 21 = 1 := by kernel_rfl
    have c1 : Tryd.prog.cellsOf 3 = 1 := by kernel_rfl
    have h0 : DataW.trod enc Tryd.prog w 0 sp hd n 21 (([a, b].drop 0).take (Tryd.prog.cellsOf 21)) = some x0 := hf 0 _ rfl
    have h1 : DataW.trod enc Tryd.prog w 0 sp hd n 3 (([a, b].drop 1).take (Tryd.prog.cellsOf 3)) = some x1 := hf 1 _ rfl
    rw [c0] at h0
    rw [c1] at h1
    obtain ⟨n0, e0, _, w0⟩ := DataW.trod_int Tryd.underlying21 h0
    obtain ⟨n1, e1, _, w1⟩ := DataW.trod_int Tryd.underlying3 h1
    simp only [List.drop_zero, List.take_succ_cons, List.take_zero, List.drop_succ_cons, List.cons.injEq, and_true] at e0 e1
    exact ⟨(n0, n1), by rw [e0, e1]; rfl, w0, w1⟩⟩

/-- two numbers in a row -/
theorem pair_read {H : Type} {enc : TypeId × Value → H} {w : World} {sp : Nat → Bool} {hd : Bool} {fuel : Nat} {cs : List Value} {a b : Int} {p : List MemPlace}
    (h : DataW.trod enc Tryd.prog w 0 sp hd fuel 52 cs = some (.agg [.lit (.int .i32 a), .lit (.int .i32 b)], p)) : cs = [.int .i32 a, .int .i32 b] := by
  obtain ⟨xs, n, _, hx, hl, hn, hf⟩ := DataW.trod_array un_span h
  have hl2 : cs.length = 2 := hl.trans cells_span
  obtain ⟨c, d, rfl⟩ : ∃ a b, cs = [a, b] := by
    match cs, hl2 with
    | [a, b], _ => exact ⟨a, b, rfl⟩
  obtain ⟨x0, x1, rfl⟩ : ∃ a b, xs = [a, b] := by
    match xs, hn with
    | [a, b], _ => exact ⟨a, b, rfl⟩
  have h0 : DataW.trod enc Tryd.prog w 0 sp hd n 21 (([c, d].drop (0 * Tryd.prog.cellsOf 21)).take (Tryd.prog.cellsOf 21)) = some x0 := hf 0 (by decide)
  have h1 : DataW.trod enc Tryd.prog w 0 sp hd n 21 (([c, d].drop (1 * Tryd.prog.cellsOf 21)).take (Tryd.prog.cellsOf 21)) = some x1 := hf 1 (by decide)
  rw [cells_i32] at h0 h1
  obtain ⟨n0, e0, y0, _⟩ := DataW.trod_int Tryd.underlying21 h0
  obtain ⟨n1, e1, y1, _⟩ := DataW.trod_int Tryd.underlying21 h1
  subst y0; subst y1
  simp only [List.drop_zero, List.take_succ_cons, List.take_zero, List.drop_succ_cons, List.cons.injEq, and_true, Nat.zero_mul, Nat.one_mul] at e0 e1
  injection hx with hx _
  simp only [List.map_cons, List.map_nil, DataW.agg.injEq, List.cons.injEq, DataW.lit.injEq, Lit.int.injEq, true_and, and_true] at hx
  rw [e0, e1, hx.1, hx.2]
theorem spans_dat : (Rows.laid_typebar_wide_spans : DataW Unit) = .agg (spansL.map fun p => .agg [.lit (.int .i32 p.1), .lit (.int .i32 p.2)]) := rfl
theorem tableRead {W : World} (h : laidMetH Tryd.prog [("typebar/wide.spans", Rows.laid_typebar_wide_spans)] W) : Gh.le tab0 (initG W) := by
  obtain ⟨ps, ⟨g', t', cs, fuel, p, q, hg', ht', hvar, hd, _, _⟩, _⟩ := (show laidMet _ _ _ from h)
  obtain rfl := Option.some.inj (gTab.symm.trans hg')
  obtain rfl := Option.some.inj (gTabType.symm.trans ht')
  obtain ⟨xs, n, _, hx, hl, hn, hf⟩ := DataW.trod_array un_spans hd
  injection hx with hx _
  rw [spans_dat] at hx
  injection hx with hx
  intro b o v hv
  unfold tab0 at hv
  split at hv
  · rename_i hb
    subst hb
    have ho : o < 22 := (List.getElem?_eq_some_iff.1 hv).1
    have hi : o / 2 < 11 := by omega
    have hsp : ∃ m, spansL[o / 2]? = some m := ⟨spansL[o / 2]'hi, List.getElem?_eq_getElem hi⟩
    obtain ⟨m, hm⟩ := hsp
    have hxi : (xs.map (·.1))[o / 2]? = some (.agg [.lit (.int .i32 m.1), .lit (.int .i32 m.2)]) := by
      rw [← hx, List.getElem?_map, hm]; rfl
    rw [List.getElem?_map] at hxi
    obtain ⟨y, hy, hy1⟩ := Option.map_eq_some_iff.1 hxi
    have h2 := hf (o / 2) hi
    rw [hy, cells_span] at h2
    obtain ⟨y1, y2⟩ := y
    simp only at hy1
    subst hy1
    have h3 := pair_read h2
    show W.cell? ⟨0, o, none⟩ = some v
    have h4 := World.var?_cell hg' hvar o
    have h5 : cs.toList[o]? = ((cs.toList.drop (o / 2 * 2)).take 2)[o % 2]? := by
      rw [List.getElem?_take, if_pos (by omega), List.getElem?_drop]
      congr 1
      omega
    have h6 : spansV[o]? = [Value.int .i32 m.1, .int .i32 m.2][o % 2]? := by
      have := getElem?_flatMap (T := { enc := fun p : Int × Int => [.int .i32 p.1, .int .i32 p.2], k := 2, len := fun _ => rfl }) spansL (o / 2) (o % 2) m hm (by show o % 2 < 2; omega)
      have h7 : o / 2 * 2 + o % 2 = o := by omega
      simp only [h7] at this
      exact this
    rw [h3, ← h6, hv] at h5
    rw [h4]
    simpa using h5
  · cases hv

/-- a world for the witness: the settled one, the table laid -/
noncomputable def laidWorld (os : Os) : World :=
  { World.holding Tryd.prog os ⟨#[], #[], []⟩ with heap := (World.holding Tryd.prog os ⟨#[], #[], []⟩).heap.modify 0 fun
      | .cells _ t frozen => .cells spansV.toArray t frozen
      | o => o }
end Go.Proofs.YthlikicgikoilaaDoor
