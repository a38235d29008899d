/- The types and tables of this program, as the logic wants them. No condition. -/
import Derived.Test.YtplabpjkkcillaaDoorAM
import Derived.Lib.DecodeN
import Derived.Test.YtplabpjkkcillaaDoorProg
namespace Go.Proofs.YtplabpjkkcillaaDoor
set_option linter.unusedSimpArgs false
set_option linter.unusedVariables false
set_option linter.unusedSectionVars false
set_option maxHeartbeats 4000000
open Go Go.RowKit

/-- the program's table of wide signs -/
def spansL : List (Int × Int) := [(4352, 4447), (11904, 12350), (12353, 42191), (44032, 55203), (63744, 64255), (65072, 65135), (65281, 65376), (65504, 65510), (127744, 128591), (129280, 129535), (131072, 262141)]
def spansV : List Value := spansL.flatMap fun p => [.int .i32 p.1, .int .i32 p.2]
/-- the library's tables of signs' first bytes, and of their second bytes -/
def firstV : List Value := (List.range 256).map fun b => .int .u8 (Go.Lib.firstT b : Nat)
def accV : List Value := (List.range 16).flatMap fun i => [.int .u8 (Go.Lib.accLo i : Nat), .int .u8 (Go.Lib.accHi i : Nat)]
def tabS : Gh := fun b o => if b = 0 then spansV[o]? else none
def tabU : Gh := fun b o => if b = 1 then firstV[o]? else if b = 2 then accV[o]? else none
/-- the table of wide signs is there ¦ the library's tables are there -/
class TabS (T : Gh) : Prop where h : Gh.le tabS T
class TabU (T : Gh) : Prop where h : Gh.le tabU T

theorem agg_no {t : TypeId} {P : Program} (h : (match P.underlying t with | some (.struct _) => true | some (.array _ _) => true | some _ => false | none => true) = false) (w : World) : (isAgg t).run P w = .ok false w := by
  cases hu : P.underlying t with
  | none => simp [hu] at h
  | some d => cases d <;> simp [hu] at h <;> simp [isAgg, run_underlying hu]
theorem agg_yes {t : TypeId} {P : Program} (h : (match P.underlying t with | some (.struct _) => true | some (.array _ _) => true | some _ => false | none => false) = true) (w : World) : (isAgg t).run P w = .ok true w := by
  cases hu : P.underlying t with
  | none => simp [hu] at h
  | some d => cases d <;> simp [hu] at h <;> simp [isAgg, run_underlying hu]
theorem size_of {t : TypeId} {P : Program} {n : Nat} (h : (P.info? t).map (·.size) = some n) (w : World) : (sizeOf t).run P w = .ok n w := by
  obtain ⟨i, h1, h2⟩ := Option.map_eq_some_iff.1 h
  simp [sizeOf, typeInfo, h1, h2]
theorem size_pos {t : TypeId} {P : Program} {n : Nat} (h : (P.info? t).map (·.size) = some (n + 1)) (w : World) : ∃ n, (sizeOf t).run P w = .ok (n + 1) w := ⟨n, size_of h w⟩


/-! ### what is known of a type, found by its number -/
class UnC (t : TypeId) (d : outParam TypeDesc) : Prop where h : Tryd.prog.underlying t = some d
class ElC {α : outParam Type} (e : TypeId) (T : outParam (Ty α)) (d : outParam α) (by' : outParam Nat) (av : outParam (α → AV)) : Prop where h : El Tryd.prog T e d by' av
class AggC (t : TypeId) (b : outParam Bool) : Prop where h : ∀ w, (isAgg t).run Tryd.prog w = .ok b w
class SzC (t : TypeId) (n : outParam Nat) : Prop where h : ∀ w, (sizeOf t).run Tryd.prog w = .ok n w
class SpC (t : TypeId) : Prop where h : ∀ w, ∃ n, (sizeOf t).run Tryd.prog w = .ok (n + 1) w
class FldC (t i : Nat) (off : outParam Nat) (ft : outParam TypeId) : Prop where h : Fld Tryd.prog t i off ft
class StC (t : TypeId) (Z : outParam (List AV)) (pl : outParam (List (Nat × Nat))) : Prop where h : StT Tryd.prog t Z pl
class AlC (t : TypeId) (z : outParam Value) (zs : outParam (List Value)) (Z : outParam (List AV)) : Prop where h : (Tryd.prog.info? t).map (·.zero) = some (some z) ∧ z.cells.toList = zs ∧ Z = zs.map vA
theorem al_ {t : TypeId} {z : Value} {zs : List Value} {Z : List AV} [c : AlC t z zs Z] : (Tryd.prog.info? t).map (·.zero) = some (some z) ∧ z.cells.toList = zs ∧ Z = zs.map vA := c.h
theorem un_ {t : TypeId} {d : TypeDesc} [c : UnC t d] : Tryd.prog.underlying t = some d := c.h
theorem el_ {α : Type} {e : TypeId} {T : Ty α} {d : α} {by' : Nat} {av : α → AV} [c : ElC e T d by' av] : El Tryd.prog T e d by' av := c.h
theorem agg_ {t : TypeId} {b : Bool} [c : AggC t b] : ∀ w, (isAgg t).run Tryd.prog w = .ok b w := c.h
theorem sz_ {t : TypeId} {n : Nat} [c : SzC t n] : ∀ w, (sizeOf t).run Tryd.prog w = .ok n w := c.h
theorem sp_ {t : TypeId} [c : SpC t] : ∀ w, ∃ n, (sizeOf t).run Tryd.prog w = .ok (n + 1) w := c.h
theorem fl_ {t i off : Nat} {ft : TypeId} [c : FldC t i off ft] : Fld Tryd.prog t i off ft := c.h
theorem st_ {t : TypeId} {Z : List AV} {pl : List (Nat × Nat)} [c : StC t Z pl] : StT Tryd.prog t Z pl := c.h

theorem v1_ {T0 : Gh} {M : List Own} {t e : TypeId} {b off : Nat} {cells : List AV} {A : AV} [c : AggC t false] (hM : varO b e cells ∈ M) (hA : cells[off]? = some A) : LdK Tryd.prog T0 M t (vA (.pointer (some ⟨b, off, none⟩))) A := mk_v1 c.h hM hA
theorem vn_ {T0 : Gh} {M : List Own} {t e : TypeId} {b off n : Nat} {cells l : List AV} [c : AggC t true] [z : SzC t n] (hM : varO b e cells ∈ M) (hl : SubC cells off n l) : LdK Tryd.prog T0 M t (vA (.pointer (some ⟨b, off, none⟩))) (aggA l) := mk_vn c.h z.h hM hl
theorem r1_ {α : Type} {T : Ty α} {T0 : Gh} {M : List Own} {t e : TypeId} {l : List α} {off n : Nat} {z : α} {u v : Value} [c : AggC t false] (hM : rowO T e u l ∈ M) (hz : l[n]? = some z) (hv : (T.enc z)[off]? = some v) : LdK Tryd.prog T0 M t (rpA u (n * T.k + off)) (vA v) := mk_r1 c.h hM hz hv
theorem fn_ {T0 : Gh} {M : List Own} {t i off sz : Nat} {l r : List AV} {ft : TypeId} [f : FldC t i off ft] [c : AggC ft true] [z : SzC ft sz] (hl : SubC l off sz r) : FdK Tryd.prog T0 M t i l (aggA r) := mdk_n f.h c.h z.h hl

/-! ### signs and numbers -/
def i32T : Ty Int := { enc := fun r => [.int .i32 r], k := 1, len := fun _ => rfl }
def i64T : Ty Int := { enc := fun r => [.int .i64 r], k := 1, len := fun _ => rfl }

/-! ### cells -/
abbrev Cell := Int × Int
def cellT : Ty Cell := { enc := fun c => [.int .i32 c.1, .int .i64 c.2], k := 2, len := fun _ => rfl }
def cellA (c : Cell) : AV := aggA [R c.1, I c.2]
theorem el_cell : El Tryd.prog cellT 74 (0, 0) 16 cellA := ⟨⟨.agg #[.int .i32 0, .int .i64 0], by kernel_rfl, rfl⟩, by decide, fun x v hv => by simp [cellT] at hv; rcases hv with rfl | rfl <;> rfl, .inl ⟨agg_yes (by kernel_rfl), fun x => rfl⟩⟩
instance cEl3 : ElC 74 cellT (0, 0) 16 cellA := ⟨el_cell⟩
theorem st_cell : StT Tryd.prog 74 [R 0, I 0] [(0, 1), (1, 1)] := StT.mk' _ [.int .i32 0, .int .i64 0] Tryd.underlying74 (by kernel_rfl) (by kernel_rfl)
instance cSt1 : StC 74 [R 0, I 0] [(0, 1), (1, 1)] := ⟨st_cell⟩
theorem us_cell : Tryd.prog.underlying 74 = some (.struct #[{ name := "R", type := 21, offset := 0, embedded := false, tag := "", pkgPath := "", byteOffset := 0 }, { name := "K", type := 3, offset := 1, embedded := false, tag := "", pkgPath := "", byteOffset := 8 }]) := Tryd.underlying74
theorem fl_cell_R : Fld Tryd.prog 74 0 0 21 := ⟨_, _, us_cell, rfl, rfl, rfl⟩
instance cFl1 : FldC 74 0 0 21 := ⟨fl_cell_R⟩
theorem fl_cell_K : Fld Tryd.prog 74 1 1 3 := ⟨_, _, us_cell, rfl, rfl, rfl⟩
instance cFl2 : FldC 74 1 1 3 := ⟨fl_cell_K⟩
theorem ya_cell : ∀ w, (isAgg 74).run Tryd.prog w = .ok true w := agg_yes (by kernel_rfl)
instance cAg1 : AggC 74 true := ⟨ya_cell⟩
theorem sz_cell : ∀ w, (sizeOf 74).run Tryd.prog w = .ok 2 w := size_of (by kernel_rfl)
instance cSz1 : SzC 74 2 := ⟨sz_cell⟩
theorem un_bool : Tryd.prog.underlying 4 = some .bool := Tryd.underlying4
instance cUn1 : UnC 4 .bool := ⟨un_bool⟩
theorem un_cells : Tryd.prog.underlying 39 = some (.slice 74) := Tryd.underlying39
instance cUn2 : UnC 39 (.slice 74) := ⟨un_cells⟩
theorem na_int : ∀ w, (isAgg 3).run Tryd.prog w = .ok false w := agg_no (by kernel_rfl)
instance cNa1 : AggC 3 false := ⟨na_int⟩
theorem na_i32 : ∀ w, (isAgg 21).run Tryd.prog w = .ok false w := agg_no (by kernel_rfl)
instance cNa2 : AggC 21 false := ⟨na_i32⟩
theorem na_bool : ∀ w, (isAgg 4).run Tryd.prog w = .ok false w := agg_no (by kernel_rfl)
instance cNa3 : AggC 4 false := ⟨na_bool⟩
theorem na_u8 : ∀ w, (isAgg 5).run Tryd.prog w = .ok false w := agg_no (by kernel_rfl)
instance cNa4 : AggC 5 false := ⟨na_u8⟩
theorem na_str : ∀ w, (isAgg 9).run Tryd.prog w = .ok false w := agg_no (by kernel_rfl)
instance cNa5 : AggC 9 false := ⟨na_str⟩
theorem na_errno : ∀ w, (isAgg 24).run Tryd.prog w = .ok false w := agg_no (by kernel_rfl)
instance cNa6 : AggC 24 false := ⟨na_errno⟩
instance cUnI8 : UnC 5 (.int .u8) := ⟨Tryd.underlying5⟩
instance cUnI32 : UnC 21 (.int .i32) := ⟨Tryd.underlying21⟩
instance cUnI64 : UnC 3 (.int .i64) := ⟨Tryd.underlying3⟩
theorem sp_int : ∀ w, ∃ n, (sizeOf 3).run Tryd.prog w = .ok (n + 1) w := size_pos (n := 0) (by kernel_rfl)
instance cSp1 : SpC 3 := ⟨sp_int⟩
theorem sp_i32 : ∀ w, ∃ n, (sizeOf 21).run Tryd.prog w = .ok (n + 1) w := size_pos (n := 0) (by kernel_rfl)
instance cSp2 : SpC 21 := ⟨sp_i32⟩
theorem sp_bool : ∀ w, ∃ n, (sizeOf 4).run Tryd.prog w = .ok (n + 1) w := size_pos (n := 0) (by kernel_rfl)
instance cSp3 : SpC 4 := ⟨sp_bool⟩

/-! ### grids -/
theorem us_grid : Tryd.prog.underlying 41 = some (.struct #[{ name := "W", type := 3, offset := 0, embedded := false, tag := "", pkgPath := "", byteOffset := 0 }, { name := "H", type := 3, offset := 1, embedded := false, tag := "", pkgPath := "", byteOffset := 8 }, { name := "L", type := 39, offset := 2, embedded := false, tag := "", pkgPath := "", byteOffset := 16 }]) := Tryd.underlying41
instance cStG : StC 41 [I 0, I 0, vA (.slice none 0 0)] [(0, 1), (1, 1), (2, 1)] := ⟨StT.mk' _ [.int .i64 0, .int .i64 0, .slice none 0 0] us_grid (by kernel_rfl) (by kernel_rfl)⟩
instance cFlG0 : FldC 41 0 0 3 := ⟨_, _, us_grid, rfl, rfl, rfl⟩
instance cFlG1 : FldC 41 1 1 3 := ⟨_, _, us_grid, rfl, rfl, rfl⟩
instance cFlG2 : FldC 41 2 2 39 := ⟨_, _, us_grid, rfl, rfl, rfl⟩
instance cAgG : AggC 41 true := ⟨agg_yes (by kernel_rfl)⟩
instance cSzG : SzC 41 3 := ⟨size_of (by kernel_rfl)⟩
instance cSpG : SpC 41 := ⟨size_pos (n := 2) (by kernel_rfl)⟩
instance cAlG : AlC 41 (.agg #[.int .i64 0, .int .i64 0, .slice none 0 0]) [.int .i64 0, .int .i64 0, .slice none 0 0] [I 0, I 0, vA (.slice none 0 0)] := ⟨by kernel_rfl, rfl, rfl⟩
abbrev gridA (w h : Int) (l : List Cell) : AV := aggA [I w, I h, slA cellT l]
instance cAgCs : AggC 39 false := ⟨agg_no (by kernel_rfl)⟩
instance cSzCs : SzC 39 1 := ⟨size_of (by kernel_rfl)⟩
instance cSpCs : SpC 39 := ⟨size_pos (n := 0) (by kernel_rfl)⟩
instance cAlC : AlC 74 (.agg #[.int .i32 0, .int .i64 0]) [.int .i32 0, .int .i64 0] [R 0, I 0] := ⟨by kernel_rfl, rfl, rfl⟩
theorem ca_cell {a b : Int} : CellsA (aggA [R a, I b]) ((cellT.enc (a, b)).map vA) := ca_agg

theorem un_spans : Tryd.prog.underlying 119 = some (.array 11 118) := Tryd.underlying119
theorem un_span : Tryd.prog.underlying 118 = some (.array 2 21) := Tryd.underlying118
theorem sz_span : ∀ w, (sizeOf 118).run Tryd.prog w = .ok 2 w := size_of (by kernel_rfl)
instance cSz4 : SzC 118 2 := ⟨sz_span⟩
theorem sz_i32 : ∀ w, (sizeOf 21).run Tryd.prog w = .ok 1 w := size_of (by kernel_rfl)
instance cSz2 : SzC 21 1 := ⟨sz_i32⟩
theorem sz_int : ∀ w, (sizeOf 3).run Tryd.prog w = .ok 1 w := size_of (by kernel_rfl)
instance cSz3 : SzC 3 1 := ⟨sz_int⟩
theorem og_spans {T0 : Gh} [c : TabS T0] {fr : Fr} : Opd T0 fr (.global 0) (ipA spansV) := opd_glob fun j v h => c.h _ _ _ (by simpa [tabS] using h)
theorem spans_at : ∀ (m : Nat) (p : Int × Int), spansL[m]? = some p → ((spansV.drop (m * 2)).drop (0 * 1))[0]? = some (.int .i32 p.1) ∧ ((spansV.drop (m * 2)).drop (1 * 1))[0]? = some (.int .i32 p.2) := by
  intro m p h
  have hm : m < 11 := (List.getElem?_eq_some_iff.1 h).1
  have hm' : m = 0 ∨ m = 1 ∨ m = 2 ∨ m = 3 ∨ m = 4 ∨ m = 5 ∨ m = 6 ∨ m = 7 ∨ m = 8 ∨ m = 9 ∨ m = 10 := by omega
  rcases hm' with rfl | rfl | rfl | rfl | rfl | rfl | rfl | rfl | rfl | rfl | rfl <;> (have h' := Option.some.inj h; subst h'; exact ⟨rfl, rfl⟩)
theorem og_first {T0 : Gh} [c : TabU T0] {fr : Fr} : Opd T0 fr (.global 1) (ipA firstV) := opd_glob fun j v h => c.h _ _ _ (by simpa [tabU] using h)
theorem og_acc {T0 : Gh} [c : TabU T0] {fr : Fr} : Opd T0 fr (.global 2) (ipA accV) := opd_glob fun j v h => c.h _ _ _ (by
  unfold tabU; rw [if_neg (by decide), if_pos rfl]; exact h)
section
variable {T0 : Gh} {fr : Fr} {M : List Own} {ops : Array Oper} {o : Oper}
theorem bs_cell1 {t : TypeId} {x : Operand} {r k : Int} (ho : o.op = .buildSlice t 1 #[(0, x)]) (hu : Tryd.prog.underlying t = some (.slice 74)) (hx : Opd T0 fr x (aggA [R r, I k])) : AY Tryd.prog T0 ops o fr M (slA cellT [(r, k)]) :=
  AY.sub (ay_buildSlice [(r, k)] ho hu el_cell rfl (by decide) ⟨_, pa0' hx rfl pa_nil, rfl⟩) sub_slc
theorem bs_cell2 {t : TypeId} {x y : Operand} {r k r' k' : Int} (ho : o.op = .buildSlice t 2 #[(0, x), (1, y)]) (hu : Tryd.prog.underlying t = some (.slice 74)) (hx : Opd T0 fr x (aggA [R r, I k])) (hy : Opd T0 fr y (aggA [R r', I k'])) : AY Tryd.prog T0 ops o fr M (slA cellT [(r, k), (r', k')]) :=
  AY.sub (ay_buildSlice [(r, k), (r', k')] ho hu el_cell rfl (by decide) ⟨_, pa0' hx rfl (pa_any hy ca_agg rfl rfl pa_nil), rfl⟩) sub_slc
/-- cells are compared -/
theorem fl_cell : (Tryd.prog.fieldsOf 74).toList = [{ name := "R", type := 21, offset := 0, embedded := false, tag := "", pkgPath := "", byteOffset := 0 }, { name := "K", type := 3, offset := 1, embedded := false, tag := "", pkgPath := "", byteOffset := 8 }] := by kernel_rfl
theorem eq_i32 (d : Nat) (a b : Int) (w : World) : (Op.equalIn (d + 1) 21 (.int .i32 a) (.int .i32 b)).run Tryd.prog w = .ok (a == b) w := run_equalIn_int w d _ .i32 .i32 a b Tryd.underlying21
theorem eq_int (d : Nat) (a b : Int) (w : World) : (Op.equalIn (d + 1) 3 (.int .i64 a) (.int .i64 b)).run Tryd.prog w = .ok (a == b) w := run_equalIn_int w d _ .i64 .i64 a b Tryd.underlying3
theorem run_cell_eq (d : Nat) (a b : Cell) (w : World) : (Op.equalIn (d + 2) 74 (.agg #[.int .i32 a.1, .int .i64 a.2]) (.agg #[.int .i32 b.1, .int .i64 b.2])).run Tryd.prog w = .ok (decide (a = b)) w := by
  rw [run_equalIn_agg _ _ _ _ _ (by kernel_rfl) (by kernel_rfl), fl_cell]
  obtain ⟨a1, a2⟩ := a
  obtain ⟨b1, b2⟩ := b
  simp [Op.eqFields, part, na_i32, na_int, eq_i32, eq_int]
  by_cases h1 : a1 = b1 <;> by_cases h2 : a2 = b2 <;> simp [h1, h2]
theorem eqg_cell (op : BinOp) (x y : Operand) (xs ys : Array Value) (w : World) : (eqGuard op 74 x y (.agg xs) (.agg ys)).run Tryd.prog w = .ok () w := run_eqGuard_agg w op _ x y xs ys (by kernel_rfl)
theorem ay_eql_cell {x y : Operand} {a1 a2 b1 b2 : Int} {t' : TypeId} (ho : o.op = .binOp .eql 74 x y t') (hx : Opd T0 fr x (aggA [R a1, I a2])) (hy : Opd T0 fr y (aggA [R b1, I b2])) : AY Tryd.prog T0 ops o fr M (B (decide (((a1, a2) : Cell) = (b1, b2)))) := ay_of fun w0 G F a w hs hf => by
  obtain ⟨us, h1, r1⟩ := (hx.use (o := o) (ops := ops) (by simp [ho, Op.operands]) hs.tab hf).agg
  obtain ⟨vs, h2, r2⟩ := (hy.use (o := o) (ops := ops) (by simp [ho, Op.operands]) hs.tab hf).agg
  obtain rfl := allRep_eq (zs := [.int .i32 a1, .int .i64 a2]) r1
  obtain rfl := allRep_eq (zs := [.int .i32 b1, .int .i64 b2]) r2
  have h3 := run_cell_eq 9998 (a1, a2) (b1, b2) w
  refine ⟨_, ?_, Rep.va _ _⟩
  simp only [execOp, ho, h1, h2, Sem.run_bind, eqg_cell, Result.andThen_ok, run_eql_struct, h3, Sem.run_pure]
theorem ay_neq_cell {x y : Operand} {a1 a2 b1 b2 : Int} {t' : TypeId} (ho : o.op = .binOp .neq 74 x y t') (hx : Opd T0 fr x (aggA [R a1, I a2])) (hy : Opd T0 fr y (aggA [R b1, I b2])) : AY Tryd.prog T0 ops o fr M (B (!decide (((a1, a2) : Cell) = (b1, b2)))) := ay_of fun w0 G F a w hs hf => by
  obtain ⟨us, h1, r1⟩ := (hx.use (o := o) (ops := ops) (by simp [ho, Op.operands]) hs.tab hf).agg
  obtain ⟨vs, h2, r2⟩ := (hy.use (o := o) (ops := ops) (by simp [ho, Op.operands]) hs.tab hf).agg
  obtain rfl := allRep_eq (zs := [.int .i32 a1, .int .i64 a2]) r1
  obtain rfl := allRep_eq (zs := [.int .i32 b1, .int .i64 b2]) r2
  have h3 := run_cell_eq 9998 (a1, a2) (b1, b2) w
  refine ⟨_, ?_, Rep.va _ _⟩
  simp only [execOp, ho, h1, h2, Sem.run_bind, eqg_cell, Result.andThen_ok, run_neq_struct, h3, Sem.run_pure]
theorem ek_cell {a1 a2 b1 b2 : Int} : EqK Tryd.prog 74 (aggA [R a1, I a2]) (aggA [R b1, I b2]) (decide (((a1, a2) : Cell) = (b1, b2))) := fun _ _ _ _ _ _ _ _ hx hy => ⟨fun ho => ay_eql_cell ho hx hy, fun ho => ay_neq_cell ho hx hy⟩
end
end Go.Proofs.YtplabpjkkcillaaDoor
