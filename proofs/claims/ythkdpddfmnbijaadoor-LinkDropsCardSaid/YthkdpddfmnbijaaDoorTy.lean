/- The types and tables of this program, as the logic wants them. No condition. -/
import Derived.Test.YthkdpddfmnbijaaDoorAM
import Derived.Test.YthkdpddfmnbijaaDoorProg
namespace Go.Proofs.YthkdpddfmnbijaaDoor
set_option linter.unusedSimpArgs false
set_option linter.unusedVariables false
set_option maxHeartbeats 4000000
open Go Go.RowKit

/-- the program's table of wide signs -/
def spansL : List (Int × Int) := [(4352, 4447), (11904, 12350), (12353, 42191), (44032, 55203), (63744, 64255), (65072, 65135), (65281, 65376), (65504, 65510), (127744, 128591), (129280, 129535), (131072, 262141)]
def spansV : List Value := spansL.flatMap fun p => [.int .i32 p.1, .int .i32 p.2]
def tab0 : Gh := fun _ _ => none

theorem agg_no {t : TypeId} {P : Program} (h : (match P.underlying t with | some (.struct _) => true | some (.array _ _) => true | some _ => false | none => true) = false) (w : World) : (isAgg t).run P w = .ok false w := by
  cases hu : P.underlying t with
  | none => simp [hu] at h
  | some d => cases d <;> simp [hu] at h <;> simp [isAgg, run_underlying hu]
theorem agg_yes {t : TypeId} {P : Program} (h : (match P.underlying t with | some (.struct _) => true | some (.array _ _) => true | some _ => false | none => false) = true) (w : World) : (isAgg t).run P w = .ok true w := by
  cases hu : P.underlying t with
  | none => simp [hu] at h
  | some d => cases d <;> simp [hu] at h <;> simp [isAgg, run_underlying hu]
theorem size_of {t : TypeId} {P : Program} {n : Nat} (h : (P.info? t).map (·.size) = some n) (w : World) : (sizeOf t).run P w = .ok n w := by
  obtain ⟨i, h1, h2⟩ := Option.map_eq_some_iff.1 h
  simp [sizeOf, typeInfo, h1, h2]
theorem size_pos {t : TypeId} {P : Program} {n : Nat} (h : (P.info? t).map (·.size) = some (n + 1)) (w : World) : ∃ n, (sizeOf t).run P w = .ok (n + 1) w := ⟨n, size_of h w⟩


/-! ### what is known of a type, found by its number -/
class UnC (t : TypeId) (d : outParam TypeDesc) : Prop where h : Tryd.prog.underlying t = some d
class ElC {α : outParam Type} (e : TypeId) (T : outParam (Ty α)) (d : outParam α) (by' : outParam Nat) (av : outParam (α → AV)) : Prop where h : El Tryd.prog T e d by' av
class AggC (t : TypeId) (b : outParam Bool) : Prop where h : ∀ w, (isAgg t).run Tryd.prog w = .ok b w
class SzC (t : TypeId) (n : outParam Nat) : Prop where h : ∀ w, (sizeOf t).run Tryd.prog w = .ok n w
class SpC (t : TypeId) : Prop where h : ∀ w, ∃ n, (sizeOf t).run Tryd.prog w = .ok (n + 1) w
class FldC (t i : Nat) (off : outParam Nat) (ft : outParam TypeId) : Prop where h : Fld Tryd.prog t i off ft
class StC (t : TypeId) (Z : outParam (List AV)) (pl : outParam (List (Nat × Nat))) : Prop where h : StT Tryd.prog t Z pl
class AlC (t : TypeId) (z : outParam Value) (zs : outParam (List Value)) (Z : outParam (List AV)) : Prop where h : (Tryd.prog.info? t).map (·.zero) = some (some z) ∧ z.cells.toList = zs ∧ Z = zs.map vA
theorem al_ {t : TypeId} {z : Value} {zs : List Value} {Z : List AV} [c : AlC t z zs Z] : (Tryd.prog.info? t).map (·.zero) = some (some z) ∧ z.cells.toList = zs ∧ Z = zs.map vA := c.h
theorem un_ {t : TypeId} {d : TypeDesc} [c : UnC t d] : Tryd.prog.underlying t = some d := c.h
theorem el_ {α : Type} {e : TypeId} {T : Ty α} {d : α} {by' : Nat} {av : α → AV} [c : ElC e T d by' av] : El Tryd.prog T e d by' av := c.h
theorem agg_ {t : TypeId} {b : Bool} [c : AggC t b] : ∀ w, (isAgg t).run Tryd.prog w = .ok b w := c.h
theorem sz_ {t : TypeId} {n : Nat} [c : SzC t n] : ∀ w, (sizeOf t).run Tryd.prog w = .ok n w := c.h
theorem sp_ {t : TypeId} [c : SpC t] : ∀ w, ∃ n, (sizeOf t).run Tryd.prog w = .ok (n + 1) w := c.h
theorem fl_ {t i off : Nat} {ft : TypeId} [c : FldC t i off ft] : Fld Tryd.prog t i off ft := c.h
theorem st_ {t : TypeId} {Z : List AV} {pl : List (Nat × Nat)} [c : StC t Z pl] : StT Tryd.prog t Z pl := c.h

theorem v1_ {T0 : Gh} {M : List Own} {t e : TypeId} {b off : Nat} {cells : List AV} {A : AV} [c : AggC t false] (hM : varO b e cells ∈ M) (hA : cells[off]? = some A) : LdK Tryd.prog T0 M t (vA (.pointer (some ⟨b, off, none⟩))) A := mk_v1 c.h hM hA
theorem vn_ {T0 : Gh} {M : List Own} {t e : TypeId} {b off n : Nat} {cells l : List AV} [c : AggC t true] [z : SzC t n] (hM : varO b e cells ∈ M) (hl : SubC cells off n l) : LdK Tryd.prog T0 M t (vA (.pointer (some ⟨b, off, none⟩))) (aggA l) := mk_vn c.h z.h hM hl
theorem r1_ {α : Type} {T : Ty α} {T0 : Gh} {M : List Own} {t e : TypeId} {l : List α} {off n : Nat} {z : α} {u v : Value} [c : AggC t false] (hM : rowO T e u l ∈ M) (hz : l[n]? = some z) (hv : (T.enc z)[off]? = some v) : LdK Tryd.prog T0 M t (rpA u (n * T.k + off)) (vA v) := mk_r1 c.h hM hz hv
theorem fn_ {T0 : Gh} {M : List Own} {t i off sz : Nat} {l r : List AV} {ft : TypeId} [f : FldC t i off ft] [c : AggC ft true] [z : SzC ft sz] (hl : SubC l off sz r) : FdK Tryd.prog T0 M t i l (aggA r) := mdk_n f.h c.h z.h hl

/-! ### signs and numbers -/
def i32T : Ty Int := { enc := fun r => [.int .i32 r], k := 1, len := fun _ => rfl }
def i64T : Ty Int := { enc := fun r => [.int .i64 r], k := 1, len := fun _ => rfl }

/-! ### cells -/
abbrev Cell := Int × Int
def cellT : Ty Cell := { enc := fun c => [.int .i32 c.1, .int .i64 c.2], k := 2, len := fun _ => rfl }
def cellA (c : Cell) : AV := aggA [R c.1, I c.2]
theorem un_bool : Tryd.prog.underlying 4 = some .bool := Tryd.underlying4
instance cUn1 : UnC 4 .bool := ⟨un_bool⟩
theorem na_int : ∀ w, (isAgg 3).run Tryd.prog w = .ok false w := agg_no (by kernel_rfl)
instance cNa1 : AggC 3 false := ⟨na_int⟩
theorem na_i32 : ∀ w, (isAgg 21).run Tryd.prog w = .ok false w := agg_no (by kernel_rfl)
instance cNa2 : AggC 21 false := ⟨na_i32⟩
theorem na_bool : ∀ w, (isAgg 4).run Tryd.prog w = .ok false w := agg_no (by kernel_rfl)
instance cNa3 : AggC 4 false := ⟨na_bool⟩
theorem na_u8 : ∀ w, (isAgg 5).run Tryd.prog w = .ok false w := agg_no (by kernel_rfl)
instance cNa4 : AggC 5 false := ⟨na_u8⟩
theorem na_str : ∀ w, (isAgg 9).run Tryd.prog w = .ok false w := agg_no (by kernel_rfl)
instance cNa5 : AggC 9 false := ⟨na_str⟩
theorem na_errno : ∀ w, (isAgg 24).run Tryd.prog w = .ok false w := agg_no (by kernel_rfl)
instance cNa6 : AggC 24 false := ⟨na_errno⟩
instance cUnI8 : UnC 5 (.int .u8) := ⟨Tryd.underlying5⟩
instance cUnI32 : UnC 21 (.int .i32) := ⟨Tryd.underlying21⟩
instance cUnI64 : UnC 3 (.int .i64) := ⟨Tryd.underlying3⟩
theorem sp_int : ∀ w, ∃ n, (sizeOf 3).run Tryd.prog w = .ok (n + 1) w := size_pos (n := 0) (by kernel_rfl)
instance cSp1 : SpC 3 := ⟨sp_int⟩
theorem sp_i32 : ∀ w, ∃ n, (sizeOf 21).run Tryd.prog w = .ok (n + 1) w := size_pos (n := 0) (by kernel_rfl)
instance cSp2 : SpC 21 := ⟨sp_i32⟩
theorem sp_bool : ∀ w, ∃ n, (sizeOf 4).run Tryd.prog w = .ok (n + 1) w := size_pos (n := 0) (by kernel_rfl)
instance cSp3 : SpC 4 := ⟨sp_bool⟩

/-! ### grids -/
theorem ca_cell {a b : Int} : CellsA (aggA [R a, I b]) ((cellT.enc (a, b)).map vA) := ca_agg

theorem sz_i32 : ∀ w, (sizeOf 21).run Tryd.prog w = .ok 1 w := size_of (by kernel_rfl)
instance cSz2 : SzC 21 1 := ⟨sz_i32⟩
theorem sz_int : ∀ w, (sizeOf 3).run Tryd.prog w = .ok 1 w := size_of (by kernel_rfl)
instance cSz3 : SzC 3 1 := ⟨sz_int⟩
section
variable {T0 : Gh} {fr : Fr} {M : List Own} {ops : Array Oper} {o : Oper}
/-- cells are compared -/
theorem eq_i32 (d : Nat) (a b : Int) (w : World) : (Op.equalIn (d + 1) 21 (.int .i32 a) (.int .i32 b)).run Tryd.prog w = .ok (a == b) w := run_equalIn_int w d _ .i32 .i32 a b Tryd.underlying21
theorem eq_int (d : Nat) (a b : Int) (w : World) : (Op.equalIn (d + 1) 3 (.int .i64 a) (.int .i64 b)).run Tryd.prog w = .ok (a == b) w := run_equalIn_int w d _ .i64 .i64 a b Tryd.underlying3
end
end Go.Proofs.YthkdpddfmnbijaaDoor
