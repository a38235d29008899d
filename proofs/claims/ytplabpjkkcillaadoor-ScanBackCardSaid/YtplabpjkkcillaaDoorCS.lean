/- The tables as these rows list them (signs' bytes, wide signs), how what is handed in is read, and a world that holds the tables. No condition. -/
import Derived.Test.YtplabpjkkcillaaDoorRD
import Derived.Test.YtplabpjkkcillaaDoorV1
import Derived.Test.YtplabpjkkcillaaDoorCards
import Derived.Test.YtplabpjkkcillaaDoorTie
import Derived.WalkKit
import Derived.ProofKit
import Derived.OpenShut
import Derived.Deep.DeepHandedRow
import Derived.LaidSub
import Derived.Lib.LaidU8
namespace Go.Proofs.YtplabpjkkcillaaDoor
set_option linter.unusedSimpArgs false
set_option linter.unusedVariables false
set_option linter.unusedSectionVars false
set_option maxHeartbeats 4000000
open Go.ChangeShapes Go.WideShapes Go.ChangeAt Go.RowKit
set_option maxRecDepth 100000
theorem own : ownKnob Tryd.prog.godebug = none := by kernel_rfl
theorem laidOut : laidOutB Tryd.prog = true := by kernel_rfl
/-! ### readers -/
theorem rd_cmd : Rd Tryd.prog cmdT 23 fun c => (Lit.int .i64 c.1).wf = true ∧ (Lit.int .i64 c.2.1).wf = true ∧ (Lit.int .i64 c.2.2.1).wf = true ∧ (Lit.int .i32 c.2.2.2).wf = true :=
  ⟨by kernel_rfl, by decide, fun enc w sp hd fuel cs x h => by
    obtain ⟨xs, n, _, _, hl, hn, hf⟩ := DataW.trod_struct us_cmd h
    have hl2 : cs.length = 4 := hl.trans (by kernel_rfl)
    obtain ⟨a, b, c, d, rfl⟩ : ∃ a b c d, cs = [a, b, c, d] := by
      match cs, hl2 with
      | [a, b, c, d], _ => exact ⟨a, b, c, d, rfl⟩
    have hn2 : xs.length = 4 := hn
    obtain ⟨x0, x1, x2, x3, rfl⟩ : ∃ a b c d, xs = [a, b, c, d] := by
      match xs, hn2 with
      | [a, b, c, d], _ => exact ⟨a, b, c, d, rfl⟩
    have ci : Tryd.prog.cellsOf 3 = 1 := by kernel_rfl
    have cr : Tryd.prog.cellsOf 21 = 1 := by kernel_rfl
    have h0 : DataW.trod enc Tryd.prog w 0 sp hd n 3 (([a, b, c, d].drop 0).take (Tryd.prog.cellsOf 3)) = some x0 := hf 0 _ rfl
    have h1 : DataW.trod enc Tryd.prog w 0 sp hd n 3 (([a, b, c, d].drop 1).take (Tryd.prog.cellsOf 3)) = some x1 := hf 1 _ rfl
    have h2 : DataW.trod enc Tryd.prog w 0 sp hd n 3 (([a, b, c, d].drop 2).take (Tryd.prog.cellsOf 3)) = some x2 := hf 2 _ rfl
    have h3 : DataW.trod enc Tryd.prog w 0 sp hd n 21 (([a, b, c, d].drop 3).take (Tryd.prog.cellsOf 21)) = some x3 := hf 3 _ rfl
    rw [ci] at h0 h1 h2
    rw [cr] at h3
    obtain ⟨n0, e0, _, w0⟩ := DataW.trod_int Tryd.underlying3 h0
    obtain ⟨n1, e1, _, w1⟩ := DataW.trod_int Tryd.underlying3 h1
    obtain ⟨n2, e2, _, w2⟩ := DataW.trod_int Tryd.underlying3 h2
    obtain ⟨n3, e3, _, w3⟩ := DataW.trod_int Tryd.underlying21 h3
    simp only [List.drop_zero, List.take_succ_cons, List.take_zero, List.drop_succ_cons, List.cons.injEq, and_true] at e0 e1 e2 e3
    exact ⟨(n0, n1, n2, n3), by rw [e0, e1, e2, e3]; rfl, w0, w1, w2, w3⟩⟩
theorem rd_cell : Rd Tryd.prog cellT 74 fun c => (Lit.int .i32 c.1).wf = true ∧ (Lit.int .i64 c.2).wf = true :=
  ⟨by kernel_rfl, by decide, fun enc w sp hd fuel cs x h => by
    obtain ⟨xs, n, _, _, hl, hn, hf⟩ := DataW.trod_struct us_cell h
    have hl2 : cs.length = 2 := hl.trans (by kernel_rfl)
    obtain ⟨a, b, rfl⟩ : ∃ a b, cs = [a, b] := by
      match cs, hl2 with
      | [a, b], _ => exact ⟨a, b, rfl⟩
    have hn2 : xs.length = 2 := hn
    obtain ⟨x0, x1, rfl⟩ : ∃ a b, xs = [a, b] := by
      match xs, hn2 with
      | [a, b], _ => exact ⟨a, b, rfl⟩
    have c0 : Tryd.prog.cellsOf 21 = 1 := by kernel_rfl
    have c1 : Tryd.prog.cellsOf 3 = 1 := by kernel_rfl
    have h0 : DataW.trod enc Tryd.prog w 0 sp hd n 21 (([a, b].drop 0).take (Tryd.prog.cellsOf 21)) = some x0 := hf 0 _ rfl
    have h1 : DataW.trod enc Tryd.prog w 0 sp hd n 3 (([a, b].drop 1).take (Tryd.prog.cellsOf 3)) = some x1 := hf 1 _ rfl
    rw [c0] at h0
    rw [c1] at h1
    obtain ⟨n0, e0, _, w0⟩ := DataW.trod_int Tryd.underlying21 h0
    obtain ⟨n1, e1, _, w1⟩ := DataW.trod_int Tryd.underlying3 h1
    simp only [List.drop_zero, List.take_succ_cons, List.take_zero, List.drop_succ_cons, List.cons.injEq, and_true] at e0 e1
    exact ⟨(n0, n1), by rw [e0, e1]; rfl, w0, w1⟩⟩
theorem rdf_i64 : RdF Tryd.prog 3 (fun n : Int => [I n]) (fun n => (Lit.int .i64 n).wf = true) := rdf_int Tryd.underlying3
theorem rdf_b : RdF Tryd.prog 4 (fun b : Bool => [B b]) (fun _ => True) := rdf_bool un_bool
theorem rdf_cells : RdF Tryd.prog 39 (fun l : List Cell => [slA cellT l]) (fun _ => True) := (rdf_sl rd_cell un_cells).any
theorem rdf_grid : RdF Tryd.prog 41 (fun g : Int × Int × List Cell => [I g.1, I g.2.1, slA cellT g.2.2]) (fun _ => True) := by
  have h := rdf_struct us_grid (by kernel_rfl) (rdl_cons rdf_i64 (by kernel_rfl) (rdl_cons rdf_i64 (by kernel_rfl) (rdl_one rdf_cells (by kernel_rfl))))
  exact h.any
/-! ### the tables -/
/-- a listed variable is read -/
theorem var_reads {L : List (String × DataW Unit)} {W : World} (h : laidMetH Tryd.prog L W) {n : String} {d : DataW Unit} (hm : (n, d) ∈ L) (hd : d.handleName?.isNone = true) : Lib.VarReads Tryd.prog W n d :=
  Lib.laidMet.reads (laidMetH_iff.1 h).1 (List.mem_filter.2 ⟨hm, hd⟩)
theorem cells_u8 : Tryd.prog.cellsOf 5 = 1 := by kernel_rfl
theorem gFirst : Tryd.prog.globalNamed "unicode/utf8.first" = some 1 := by kernel_rfl
theorem gFirstT : (Tryd.prog.globals[1]?).map (·.type) = some 120 := by kernel_rfl
theorem gAcc : Tryd.prog.globalNamed "unicode/utf8.acceptRanges" = some 2 := by kernel_rfl
theorem gAccT : (Tryd.prog.globals[2]?).map (·.type) = some 123 := by kernel_rfl
theorem first_dat : Rows.laid_unicode_utf8_first = Lib.firstData := by kernel_rfl
theorem acc_dat : (Rows.laid_unicode_utf8_acceptRanges : DataW Unit) = Lib.acceptData := by kernel_rfl
theorem tabU_of {W : World} (h3 : Lib.VarReads Tryd.prog W "unicode/utf8.first" Rows.laid_unicode_utf8_first) (h4 : Lib.VarReads Tryd.prog W "unicode/utf8.acceptRanges" Rows.laid_unicode_utf8_acceptRanges) : Gh.le tabU (initG W) := by
  intro b o v hv
  unfold tabU at hv
  split at hv
  · rename_i hb
    subst hb
    obtain ⟨g, t, cs, fuel, p, hg, hty, hvar, hd⟩ := h3
    obtain rfl := Option.some.inj (gFirst.symm.trans hg)
    obtain rfl := Option.some.inj (gFirstT.symm.trans hty)
    rw [first_dat] at hd
    have hcs := Lib.cells_of_tab Tryd.underlying120 Tryd.underlying5 cells_u8 (by kernel_rfl) hd
    show W.cell? ⟨1, o, none⟩ = some v
    rw [World.var?_cell hg hvar o, ← Array.getElem?_toList, hcs, ← hv]
    simp [firstV, Lib.firstTab]; rfl
  · split at hv
    · rename_i hb
      subst hb
      obtain ⟨g, t, cs, fuel, p, hg, hty, hvar, hd⟩ := h4
      obtain rfl := Option.some.inj (gAcc.symm.trans hg)
      obtain rfl := Option.some.inj (gAccT.symm.trans hty)
      rw [acc_dat] at hd
      have ho : o < 32 := (List.getElem?_eq_some_iff.1 hv).1
      have hi : o / 2 < 16 := by omega
      obtain ⟨fuel', d, q, hdi, he⟩ := Lib.array_elem Tryd.underlying123 hd (o / 2) hi
      simp only [List.getElem?_map, List.getElem?_range hi, Option.map_some, Option.some.injEq] at hdi
      subst hdi
      have hc2 : Tryd.prog.cellsOf 122 = 2 := by kernel_rfl
      rw [hc2] at he
      have hcs := Lib.ints_of_struct Tryd.underlying122 (fun j f hj => by
        match j, hj with
        | 0, hj => simp at hj; subst hj; exact ⟨Tryd.underlying5, rfl, cells_u8⟩
        | 1, hj => simp at hj; subst hj; exact ⟨Tryd.underlying5, rfl, cells_u8⟩
        | j + 2, hj => simp at hj) (by rw [hc2]; rfl) he
      show W.cell? ⟨2, o, none⟩ = some v
      rw [World.var?_cell hg hvar o, ← Array.getElem?_toList]
      have h5 : cs.toList[o]? = ((cs.toList.drop (o / 2 * 2)).take 2)[o % 2]? := by
        rw [List.getElem?_take, if_pos (by omega), List.getElem?_drop]
        congr 1
        omega
      have h6 : accV[o]? = [Value.int .u8 (Lib.accLo (o / 2) : Nat), .int .u8 (Lib.accHi (o / 2) : Nat)][o % 2]? := by
        have := getElem?_flatMap (T := { enc := fun i : Nat => [Value.int .u8 (Lib.accLo i : Nat), .int .u8 (Lib.accHi i : Nat)], k := 2, len := fun _ => rfl }) (List.range 16) (o / 2) (o % 2) (o / 2) (by rw [List.getElem?_range hi]) (by show o % 2 < 2; omega)
        have h7 : o / 2 * 2 + o % 2 = o := by omega
        simp only [h7] at this
        exact this
      rw [h5, hcs, ← hv, h6]; rfl
    · cases hv
instance iTabU : TabU tabU := ⟨Gh.le.refl _⟩
theorem gTab : Tryd.prog.globalNamed "typebar/wide.spans" = some 0 := by kernel_rfl
theorem gTabType : (Tryd.prog.globals[0]?).map (·.type) = some 119 := by kernel_rfl
theorem cells_span : Tryd.prog.cellsOf 118 = 2 := by kernel_rfl
theorem cells_i32 : Tryd.prog.cellsOf 21 = 1 := by kernel_rfl
theorem spans_dat : (Rows.laid_typebar_wide_spans : DataW Unit) = .agg (spansL.map fun p => .agg ([p.1, p.2].map fun z => .lit (.int .i32 z))) := rfl
theorem tabS_of {W : World} (h : Lib.VarReads Tryd.prog W "typebar/wide.spans" Rows.laid_typebar_wide_spans) : Gh.le tabS (initG W) := by
  intro b o v hv
  unfold tabS at hv
  split at hv
  · rename_i hb
    subst hb
    obtain ⟨g, t, cs, fuel, p, hg, hty, hvar, hd⟩ := h
    obtain rfl := Option.some.inj (gTab.symm.trans hg)
    obtain rfl := Option.some.inj (gTabType.symm.trans hty)
    rw [spans_dat] at hd
    have ho : o < 22 := (List.getElem?_eq_some_iff.1 hv).1
    have hi : o / 2 < 11 := by omega
    obtain ⟨m, hm⟩ : ∃ m, spansL[o / 2]? = some m := ⟨spansL[o / 2]'hi, List.getElem?_eq_getElem hi⟩
    obtain ⟨fuel', d, q, hdi, he⟩ := Lib.array_elem un_spans hd (o / 2) hi
    rw [List.getElem?_map, hm, Option.map_some, Option.some.injEq] at hdi
    subst hdi
    have hcs := Lib.cells_of_tab (zs := [m.1, m.2]) un_span Tryd.underlying21 cells_i32 cells_span he
    show W.cell? ⟨0, o, none⟩ = some v
    rw [World.var?_cell hg hvar o, ← Array.getElem?_toList]
    have h5 : cs.toList[o]? = ((cs.toList.drop (o / 2 * 2)).take 2)[o % 2]? := by
      rw [List.getElem?_take, if_pos (by omega), List.getElem?_drop]
      congr 1
      omega
    have h6 : spansV[o]? = [Value.int .i32 m.1, .int .i32 m.2][o % 2]? := by
      have := getElem?_flatMap (T := { enc := fun p : Int × Int => [.int .i32 p.1, .int .i32 p.2], k := 2, len := fun _ => rfl }) spansL (o / 2) (o % 2) m hm (by show o % 2 < 2; omega)
      have h7 : o / 2 * 2 + o % 2 = o := by omega
      simp only [h7] at this
      exact this
    rw [cells_span] at hcs
    rw [h5, hcs, ← hv, h6]; rfl
  · cases hv
/-- both -/
def tabSU : Gh := fun b o => if b = 0 then spansV[o]? else tabU b o
instance iTabSU1 : TabS tabSU := ⟨fun b o v h => by
  unfold tabS at h; unfold tabSU
  split at h
  · rename_i hb; rw [if_pos hb]; exact h
  · cases h⟩
instance iTabSU2 : TabU tabSU := ⟨fun b o v h => by
  have hb : b ≠ 0 := by
    rintro rfl; unfold tabU at h; rw [if_neg (by decide), if_neg (by decide)] at h; cases h
  unfold tabSU; rw [if_neg hb]; exact h⟩
theorem tabSU_of {W : World} (h1 : Gh.le tabS (initG W)) (h2 : Gh.le tabU (initG W)) : Gh.le tabSU (initG W) := fun b o v h => by
  unfold tabSU at h
  split at h
  · rename_i hb; exact h1 b o v (by unfold tabS; rw [if_pos hb]; exact h)
  · exact h2 b o v h
theorem tableReadSU {L : List (String × DataW Unit)} {W : World} (h : laidMetH Tryd.prog L W) (m1 : ("unicode/utf8.first", Rows.laid_unicode_utf8_first) ∈ L) (m2 : ("unicode/utf8.acceptRanges", Rows.laid_unicode_utf8_acceptRanges) ∈ L) (m3 : ("typebar/wide.spans", Rows.laid_typebar_wide_spans) ∈ L) : Gh.le tabSU (initG W) :=
  tabSU_of (tabS_of (var_reads h m3 rfl)) (tabU_of (var_reads h m1 rfl) (var_reads h m2 rfl))
theorem tableReadU {L : List (String × DataW Unit)} {W : World} (h : laidMetH Tryd.prog L W) (m1 : ("unicode/utf8.first", Rows.laid_unicode_utf8_first) ∈ L) (m2 : ("unicode/utf8.acceptRanges", Rows.laid_unicode_utf8_acceptRanges) ∈ L) : Gh.le tabU (initG W) :=
  tabU_of (var_reads h m1 rfl) (var_reads h m2 rfl)
/-- a table's values -/
def tabV : DataW Unit → Array Value
  | .agg l => (l.map fun x => match x with | .lit y => y.value | _ => undef).toArray
  | _ => #[]
/-- a block of values -/
def layV (vs : Array Value) : Obj → Obj
  | .cells _ t frozen => .cells vs t frozen
  | o => o
/-- a world for the witness: the settled one, the tables laid -/
noncomputable def laidWorld (os : Os) : World :=
  { World.holding Tryd.prog os ⟨#[], #[], []⟩ with heap := ((((((World.holding Tryd.prog os ⟨#[], #[], []⟩).heap.modify 1 (layV firstV.toArray)).modify 2 (layV accV.toArray)).modify 0 (layV spansV.toArray)).modify 3 (layV (tabV Rows.laid_internal_strconv_uint64pow10))).modify 4 (layV (tabV Rows.laid_math_bits_deBruijn32tab))).modify 5 (layV (tabV Rows.laid_math_bits_deBruijn64tab)) }
end Go.Proofs.YtplabpjkkcillaaDoor
