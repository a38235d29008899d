/- Layer 28 (motion), plainly: the moves; and as a type of the program. No condition. -/
import Derived.Test.YtgfmjmfphmjdkaaGreatDoorQ3ZV
namespace Go.Proofs.YtgfmjmfphmjdkaaGreatDoor
set_option linter.unusedSimpArgs false
set_option linter.unusedVariables false
set_option linter.unusedSectionVars false
set_option maxHeartbeats 4000000
open Go Go.RowKit
set_option maxRecDepth 100000
/-- the moves of the program -/
def goC (X Y : Int) : Cmd := (2, Y, X, 0)
def moL (h x y X Y : Int) : List (Bool × Cmd) := [(true, goC X Y),
  (decide (X - x = 0) && (decide (Y - y < 0) || ((decide (X - x = 0) && decide (Y - y = 0)) && decide (Y = 0))), (3, max 1 (-(Y - y)), 0, 0)),
  (decide (X - x = 0) && (decide (Y - y > 0) || ((decide (X - x = 0) && decide (Y - y = 0)) && decide (Y = h - 1))), (4, max 1 (Y - y), 0, 0)),
  (decide (Y - y = 0) && (decide (X - x > 0) || (decide (X - x = 0) && decide (Y - y = 0))), (5, max 1 (X - x), 0, 0)),
  (decide (Y - y = 0) && decide (X - x < 0), (6, max 1 (-(X - x)), 0, 0)),
  (decide (Y - y = 0) && decide (X = 0), (9, 0, 0, 0)),
  (decide (X - x = 0) && decide (Y - y = 1), (10, 0, 0, 0)),
  (decide (Y - y = 0) && decide (X - x = -1), (11, 0, 0, 0))]
def movesM (h x y X Y : Int) : List Cmd := ((moL h x y X Y).filter (·.1)).map (·.2)
/-! ### a move, as the program holds it -/
def moT : Ty (Bool × Cmd) := { enc := fun m => [.bool m.1, .int .i64 m.2.1, .int .i64 m.2.2.1, .int .i64 m.2.2.2.1, .int .i32 m.2.2.2.2], k := 5, len := fun _ => rfl }
def moA (m : Bool × Cmd) : AV := aggA [B m.1, I m.2.1, I m.2.2.1, I m.2.2.2.1, R m.2.2.2.2]
theorem us_mo : Tryz.prog.underlying 170 = some (.struct #[{ name := "is", type := 4, offset := 0, embedded := false, tag := "", pkgPath := "typebar/motion", byteOffset := 0 }, { name := "c", type := 35, offset := 1, embedded := false, tag := "", pkgPath := "typebar/motion", byteOffset := 8 }]) := Tryz.underlying170
instance cStMo : StC 170 [B false, I 0, I 0, I 0, R 0] [(0, 1), (1, 4)] := ⟨StT.mk' _ [.bool false, .int .i64 0, .int .i64 0, .int .i64 0, .int .i32 0] us_mo (by kernel_rfl) (by kernel_rfl)⟩
instance cFlMo0 : FldC 170 0 0 4 := ⟨_, _, us_mo, rfl, rfl, rfl⟩
instance cFlMo1 : FldC 170 1 1 35 := ⟨_, _, us_mo, rfl, rfl, rfl⟩
instance cSzMo : SzC 170 5 := ⟨size_of (by kernel_rfl)⟩
instance cAlMo : AlC 170 (.agg #[.bool false, .int .i64 0, .int .i64 0, .int .i64 0, .int .i32 0]) [.bool false, .int .i64 0, .int .i64 0, .int .i64 0, .int .i32 0] [B false, I 0, I 0, I 0, R 0] := ⟨by kernel_rfl, rfl, rfl⟩
theorem el_mo : El Tryz.prog moT 170 (false, 0, 0, 0, 0) 40 moA := ⟨⟨.agg #[.bool false, .int .i64 0, .int .i64 0, .int .i64 0, .int .i32 0], by kernel_rfl, rfl⟩, by decide, fun x v hv => by simp [moT] at hv; rcases hv with rfl | rfl | rfl | rfl | rfl <;> rfl, .inl ⟨agg_yes (by kernel_rfl), fun x => rfl⟩⟩
instance cElMo : ElC 170 moT (false, 0, 0, 0, 0) 40 moA := ⟨el_mo⟩
theorem un_mos : Tryz.prog.underlying 171 = some (.slice 170) := Tryz.underlying171
instance cUnMos : UnC 171 (.slice 170) := ⟨un_mos⟩
end Go.Proofs.YtgfmjmfphmjdkaaGreatDoor
