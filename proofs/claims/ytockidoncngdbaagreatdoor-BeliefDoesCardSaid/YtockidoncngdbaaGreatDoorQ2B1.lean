/- Layer 27 (belief): guesses and beliefs, as types; what a right belief is, plainly. No condition. -/
import Derived.Test.YtockidoncngdbaaGreatDoorQ2ZT
import Derived.Test.YtockidoncngdbaaGreatDoorQ2ZG
import Derived.Test.YtockidoncngdbaaGreatDoorQ2ZV
namespace Go.Proofs.YtockidoncngdbaaGreatDoor
set_option linter.unusedSimpArgs false
set_option linter.unusedVariables false
set_option linter.unusedSectionVars false
set_option maxHeartbeats 4000000
open Go Go.RowKit
set_option maxRecDepth 100000
/-! ### guesses -/
abbrev Guess := Cell × Bool
def guT : Ty Guess := { enc := fun g => [.int .i32 g.1.1, .int .i64 g.1.2, .bool g.2], k := 3, len := fun _ => rfl }
def guA (g : Guess) : AV := aggA [R g.1.1, I g.1.2, B g.2]
theorem us_gu : Tryz.prog.underlying 65 = some (.struct #[{ name := "C", type := 63, offset := 0, embedded := false, tag := "", pkgPath := "", byteOffset := 0 }, { name := "Sure", type := 4, offset := 2, embedded := false, tag := "", pkgPath := "", byteOffset := 16 }]) := Tryz.underlying65
instance cStGu : StC 65 [R 0, I 0, B false] [(0, 2), (2, 1)] := ⟨StT.mk' _ [.int .i32 0, .int .i64 0, .bool false] us_gu (by kernel_rfl) (by kernel_rfl)⟩
instance cFlGu0 : FldC 65 0 0 63 := ⟨_, _, us_gu, rfl, rfl, rfl⟩
instance cFlGu1 : FldC 65 1 2 4 := ⟨_, _, us_gu, rfl, rfl, rfl⟩
instance cAgGu : AggC 65 true := ⟨agg_yes (by kernel_rfl)⟩
instance cSzGu : SzC 65 3 := ⟨size_of (by kernel_rfl)⟩
instance cSpCe : SpC 63 := ⟨size_pos (n := 1) (by kernel_rfl)⟩
instance cAlGu : AlC 65 (.agg #[.int .i32 0, .int .i64 0, .bool false]) [.int .i32 0, .int .i64 0, .bool false] [R 0, I 0, B false] := ⟨by kernel_rfl, rfl, rfl⟩
theorem el_gu : El Tryz.prog guT 65 ((0, 0), false) 24 guA := ⟨⟨.agg #[.int .i32 0, .int .i64 0, .bool false], by kernel_rfl, rfl⟩, by decide, fun x v hv => by simp [guT] at hv; rcases hv with rfl | rfl | rfl <;> rfl, .inl ⟨agg_yes (by kernel_rfl), fun x => rfl⟩⟩
instance cElGu : ElC 65 guT ((0, 0), false) 24 guA := ⟨el_gu⟩
theorem un_gus : Tryz.prog.underlying 22 = some (.slice 65) := Tryz.underlying22
instance cUnGus : UnC 22 (.slice 65) := ⟨un_gus⟩
instance cAgGus : AggC 22 false := ⟨agg_no (by kernel_rfl)⟩
instance cSzGus : SzC 22 1 := ⟨size_of (by kernel_rfl)⟩
instance cSpGus : SpC 22 := ⟨size_pos (n := 0) (by kernel_rfl)⟩
instance cSzBo : SzC 4 1 := ⟨size_of (by kernel_rfl)⟩
/-! ### beliefs -/
theorem us_be : Tryz.prog.underlying 24 = some (.struct #[{ name := "W", type := 3, offset := 0, embedded := false, tag := "", pkgPath := "", byteOffset := 0 }, { name := "H", type := 3, offset := 1, embedded := false, tag := "", pkgPath := "", byteOffset := 8 }, { name := "L", type := 22, offset := 2, embedded := false, tag := "", pkgPath := "", byteOffset := 16 }, { name := "X", type := 3, offset := 3, embedded := false, tag := "", pkgPath := "", byteOffset := 40 }, { name := "Y", type := 3, offset := 4, embedded := false, tag := "", pkgPath := "", byteOffset := 48 }, { name := "Wrap", type := 4, offset := 5, embedded := false, tag := "", pkgPath := "", byteOffset := 56 }, { name := "Sure", type := 4, offset := 6, embedded := false, tag := "", pkgPath := "", byteOffset := 57 }]) := Tryz.underlying24
abbrev belA (w h : Int) (l : List Guess) (x y : Int) (b s : Bool) : AV := aggA [I w, I h, slA guT l, I x, I y, B b, B s]
instance cStBe : StC 24 [I 0, I 0, vA (.slice none 0 0), I 0, I 0, B false, B false] [(0, 1), (1, 1), (2, 1), (3, 1), (4, 1), (5, 1), (6, 1)] := ⟨StT.mk' _ [.int .i64 0, .int .i64 0, .slice none 0 0, .int .i64 0, .int .i64 0, .bool false, .bool false] us_be (by kernel_rfl) (by kernel_rfl)⟩
instance cFlBe0 : FldC 24 0 0 3 := ⟨_, _, us_be, rfl, rfl, rfl⟩
instance cFlBe1 : FldC 24 1 1 3 := ⟨_, _, us_be, rfl, rfl, rfl⟩
instance cFlBe2 : FldC 24 2 2 22 := ⟨_, _, us_be, rfl, rfl, rfl⟩
instance cFlBe3 : FldC 24 3 3 3 := ⟨_, _, us_be, rfl, rfl, rfl⟩
instance cFlBe4 : FldC 24 4 4 3 := ⟨_, _, us_be, rfl, rfl, rfl⟩
instance cFlBe5 : FldC 24 5 5 4 := ⟨_, _, us_be, rfl, rfl, rfl⟩
instance cFlBe6 : FldC 24 6 6 4 := ⟨_, _, us_be, rfl, rfl, rfl⟩
instance cAgBe : AggC 24 true := ⟨agg_yes (by kernel_rfl)⟩
instance cSzBe : SzC 24 7 := ⟨size_of (by kernel_rfl)⟩
instance cAlBe : AlC 24 (.agg #[.int .i64 0, .int .i64 0, .slice none 0 0, .int .i64 0, .int .i64 0, .bool false, .bool false]) [.int .i64 0, .int .i64 0, .slice none 0 0, .int .i64 0, .int .i64 0, .bool false, .bool false] [I 0, I 0, vA (.slice none 0 0), I 0, I 0, B false, B false] := ⟨by kernel_rfl, rfl, rfl⟩
/-- guesses are compared -/
theorem fl_gu : (Tryz.prog.fieldsOf 65).toList = [{ name := "C", type := 63, offset := 0, embedded := false, tag := "", pkgPath := "", byteOffset := 0 }, { name := "Sure", type := 4, offset := 2, embedded := false, tag := "", pkgPath := "", byteOffset := 16 }] := by kernel_rfl
theorem eq_boolB (d : Nat) (a b : Bool) (w : World) : (Op.equalIn (d + 1) 4 (.bool a) (.bool b)).run Tryz.prog w = .ok (a == b) w := run_equalIn_bool w d _ a b Tryz.underlying4
theorem run_gu_eq (d : Nat) (a b : Guess) (w : World) : (Op.equalIn (d + 3) 65 (.agg #[.int .i32 a.1.1, .int .i64 a.1.2, .bool a.2]) (.agg #[.int .i32 b.1.1, .int .i64 b.1.2, .bool b.2])).run Tryz.prog w = .ok (decide (a = b)) w := by
  rw [run_equalIn_agg _ _ _ _ _ (by kernel_rfl) (by kernel_rfl), fl_gu]
  obtain ⟨⟨a1, a2⟩, a3⟩ := a
  obtain ⟨⟨b1, b2⟩, b3⟩ := b
  have hc := run_cell_eq d (a1, a2) (b1, b2) w
  simp [Op.eqFields, part, na_bool, eq_boolB, ya_cell, sz_cell, hc]
  by_cases h1 : a1 = b1 <;> by_cases h2 : a2 = b2 <;> by_cases h3 : a3 = b3 <;> simp [h1, h2, h3]
theorem eqg_gu (op : BinOp) (x y : Operand) (xs ys : Array Value) (w : World) : (eqGuard op 65 x y (.agg xs) (.agg ys)).run Tryz.prog w = .ok () w := run_eqGuard_agg w op _ x y xs ys (by kernel_rfl)
section
variable {T0 : Gh} {fr : Fr} {M : List Own} {ops : Array Oper} {o : Oper}
theorem ay_eql_gu {x y : Operand} {a b : Guess} {t' : TypeId} (ho : o.op = .binOp .eql 65 x y t') (hx : Opd T0 fr x (aggA [R a.1.1, I a.1.2, B a.2])) (hy : Opd T0 fr y (aggA [R b.1.1, I b.1.2, B b.2])) : AY Tryz.prog T0 ops o fr M (B (decide (a = b))) := ay_of fun w0 G F a' w hs hf => by
  obtain ⟨us, h1, r1⟩ := (hx.use (o := o) (ops := ops) (by simp [ho, Op.operands]) hs.tab hf).agg
  obtain ⟨vs, h2, r2⟩ := (hy.use (o := o) (ops := ops) (by simp [ho, Op.operands]) hs.tab hf).agg
  obtain rfl := allRep_eq (zs := [.int .i32 a.1.1, .int .i64 a.1.2, .bool a.2]) r1
  obtain rfl := allRep_eq (zs := [.int .i32 b.1.1, .int .i64 b.1.2, .bool b.2]) r2
  have h3 := run_gu_eq 9997 a b w
  refine ⟨_, ?_, Rep.va _ _⟩
  simp only [execOp, ho, h1, h2, Sem.run_bind, eqg_gu, Result.andThen_ok, run_eql_struct, h3, Sem.run_pure]
theorem ay_neq_gu {x y : Operand} {a b : Guess} {t' : TypeId} (ho : o.op = .binOp .neq 65 x y t') (hx : Opd T0 fr x (aggA [R a.1.1, I a.1.2, B a.2])) (hy : Opd T0 fr y (aggA [R b.1.1, I b.1.2, B b.2])) : AY Tryz.prog T0 ops o fr M (B (!decide (a = b))) := ay_of fun w0 G F a' w hs hf => by
  obtain ⟨us, h1, r1⟩ := (hx.use (o := o) (ops := ops) (by simp [ho, Op.operands]) hs.tab hf).agg
  obtain ⟨vs, h2, r2⟩ := (hy.use (o := o) (ops := ops) (by simp [ho, Op.operands]) hs.tab hf).agg
  obtain rfl := allRep_eq (zs := [.int .i32 a.1.1, .int .i64 a.1.2, .bool a.2]) r1
  obtain rfl := allRep_eq (zs := [.int .i32 b.1.1, .int .i64 b.1.2, .bool b.2]) r2
  have h3 := run_gu_eq 9997 a b w
  refine ⟨_, ?_, Rep.va _ _⟩
  simp only [execOp, ho, h1, h2, Sem.run_bind, eqg_gu, Result.andThen_ok, run_neq_struct, h3, Sem.run_pure]
theorem ek_gu {a1 a2 b1 b2 : Int} {a3 b3 : Bool} : EqK Tryz.prog 65 (aggA [R a1, I a2, B a3]) (aggA [R b1, I b2, B b3]) (decide ((((a1, a2), a3) : Guess) = ((b1, b2), b3))) := fun _ _ _ _ _ _ _ _ hx hy => ⟨fun ho => ay_eql_gu (a := ((a1, a2), a3)) (b := ((b1, b2), b3)) ho hx hy, fun ho => ay_neq_gu (a := ((a1, a2), a3)) (b := ((b1, b2), b3)) ho hx hy⟩
end
/-! ### plainly -/
def gAt (l : List Guess) (i : Nat) : Guess := l[i]?.getD ((0, 0), false)
theorem g_in {l : List Guess} {i : Nat} (h : i < l.length) : l[i]? = some (gAt l i) := by simp [gAt, h]
theorem g_out {l : List Guess} {i : Nat} (h : l.length ≤ i) : gAt l i = ((0, 0), false) := by simp [gAt, h]
theorem gAt_ext {a b : List Guess} (hl : a.length = b.length) (h : ∀ i, i < a.length → gAt a i = gAt b i) : a = b := by
  apply List.ext_getElem? ; intro i
  by_cases hi : i < a.length
  · rw [g_in hi, g_in (l := b) (by omega), h i hi]
  · rw [List.getElem?_eq_none (by omega), List.getElem?_eq_none (by omega)]
theorem gAt_drop (l : List Guess) (a i : Nat) : gAt (l.drop a) i = gAt l (a + i) := by simp [gAt, List.getElem?_drop]
theorem gAt_take {l : List Guess} {n i : Nat} (h : i < n) : gAt (l.take n) i = gAt l i := by simp [gAt, List.getElem?_take, h]
theorem gAt_set (l : List Guess) (j i : Nat) (c : Guess) (hj : j < l.length) : gAt (l.set j c) i = if i = j then c else gAt l i := by
  unfold gAt; rw [List.getElem?_set]
  by_cases h : j = i
  · subst h; simp [hj]
  · simp [h, Ne.symm h]
theorem gAt_rep {n i : Nat} {c : Guess} (h : i < n) : gAt (List.replicate n c) i = c := by simp [gAt, List.getElem?_replicate, h]
theorem gAt_app {a b : List Guess} {i : Nat} : gAt (a ++ b) i = if i < a.length then gAt a i else gAt b (i - a.length) := by
  unfold gAt
  split
  · rename_i h; rw [List.getElem?_append_left h]
  · rename_i h; rw [List.getElem?_append_right (by omega)]
theorem gAt_map {l : List Cell} {i : Nat} (h : i < l.length) : gAt (l.map fun c => (c, true)) i = (cAt l i, true) := by simp [gAt, cAt, h]
theorem gAt_ovr {l c : List Guess} {off i : Nat} (h : off + c.length ≤ l.length) : gAt (ovr l off c) i = if i < off then gAt l i else if i < off + c.length then gAt c (i - off) else gAt l i := by
  unfold gAt ovr
  have h1 : (l.take off).length = off := by rw [List.length_take]; omega
  by_cases h2 : i < off
  · rw [if_pos h2, List.append_assoc, List.getElem?_append_left (by omega), List.getElem?_take, if_pos h2]
  · rw [if_neg h2]
    by_cases h3 : i < off + c.length
    · rw [if_pos h3, List.getElem?_append_left (by rw [List.length_append]; omega), List.getElem?_append_right (by omega), h1]
    · rw [if_neg h3, List.getElem?_append_right (by rw [List.length_append]; omega), List.getElem?_drop, List.length_append, h1]
      congr 2; omega
/-- is the guess at i of a row right? -/
def rowG (l : List Guess) (i : Nat) : Bool :=
  if (gAt l i).2 = false then decide (gAt l i = ((0, 0), false))
  else isCell (gAt l i).1 && (if (gAt l i).1.2 = 1 then decide (i + 1 < l.length) && (!(gAt l (i + 1)).2 || decide (gAt l (i + 1) = (((gAt l i).1.1, 2), true))) else if (gAt l i).1.2 = 2 then decide (1 ≤ i) && (!(gAt l (i - 1)).2 || decide (gAt l (i - 1) = (((gAt l i).1.1, 1), true))) else true)
def rowGs (l : List Guess) : Bool := (List.range l.length).all (rowG l)
theorem rowGs_iff {l : List Guess} : rowGs l = true ↔ ∀ i, i < l.length → rowG l i = true := by simp [rowGs]
/-- is the guess at i of a belief that is w wide right? -/
def gsOk (w : Nat) (l : List Guess) (i : Nat) : Bool :=
  if (gAt l i).2 = false then decide (gAt l i = ((0, 0), false))
  else isCell (gAt l i).1 && (if (gAt l i).1.2 = 1 then decide (i % w < w - 1) && (!(gAt l (i + 1)).2 || decide (gAt l (i + 1) = (((gAt l i).1.1, 2), true))) else if (gAt l i).1.2 = 2 then decide (0 < i % w) && (!(gAt l (i - 1)).2 || decide (gAt l (i - 1) = (((gAt l i).1.1, 1), true))) else true)
abbrev rowOf (w : Nat) (l : List Guess) (y : Nat) : List Guess := (l.drop (y * w)).take w
theorem rowOf_len {w h y : Nat} {l : List Guess} (hl : l.length = w * h) (hy : y < h) : (rowOf w l y).length = w := by
  have h1 : (y + 1) * w ≤ h * w := Nat.mul_le_mul_right _ hy
  rw [Nat.add_mul, Nat.one_mul] at h1
  rw [List.length_take, List.length_drop, hl, Nat.mul_comm w h]; omega
theorem rowOf_at {w y x : Nat} {l : List Guess} (hx : x < w) : gAt (rowOf w l y) x = gAt l (y * w + x) := by rw [gAt_take hx, gAt_drop]
theorem rowG_at {w h y x : Nat} {l : List Guess} (hl : l.length = w * h) (hy : y < h) (hx : x < w) : rowG (rowOf w l y) x = gsOk w l (y * w + x) := by
  have hm : (y * w + x) % w = x := by rw [Nat.add_comm, Nat.add_mul_mod_self_right, Nat.mod_eq_of_lt hx]
  unfold rowG gsOk
  rw [rowOf_at hx, hm, rowOf_len hl hy]
  split
  · rfl
  · congr 1
    split
    · by_cases h1 : x + 1 < w
      · rw [rowOf_at h1, ← Nat.add_assoc, show decide (x + 1 < w) = decide (x < w - 1) by congr 1; simp; omega]
      · rw [show decide (x + 1 < w) = false by simpa using h1, show decide (x < w - 1) = false by simp; omega]; rfl
    · split
      · by_cases h1 : 1 ≤ x
        · rw [rowOf_at (show x - 1 < w by omega), show y * w + (x - 1) = y * w + x - 1 by omega]; rfl
        · rw [show decide (1 ≤ x) = false by simpa using h1, show decide (0 < x) = false by simp; omega]; rfl
      · rfl
theorem rows_gs {w h : Nat} {l : List Guess} (hw : 1 ≤ w) (hl : l.length = w * h) : (∀ y, y < h → rowGs (rowOf w l y) = true) ↔ ∀ i, i < l.length → gsOk w l i = true := by
  constructor
  · intro H i hi
    have hy : i / w < h := by rw [Nat.div_lt_iff_lt_mul (by omega), Nat.mul_comm]; omega
    have hx : i % w < w := Nat.mod_lt _ (by omega)
    have hd : i / w * w + i % w = i := by rw [Nat.mul_comm]; exact Nat.div_add_mod i w
    have := rowGs_iff.1 (H _ hy) (i % w) (by rw [rowOf_len hl hy]; exact hx)
    rwa [rowG_at hl hy hx, hd] at this
  · intro H y hy
    rw [rowGs_iff, rowOf_len hl hy]
    intro x hx
    rw [rowG_at hl hy hx]
    refine H _ ?_
    have h1 : (y + 1) * w ≤ h * w := Nat.mul_le_mul_right _ hy
    rw [Nat.add_mul, Nat.one_mul] at h1
    rw [hl, Nat.mul_comm w h]; omega
/-- a belief: its sides, guesses, cursor, does the next sign begin a row, is the cursor sure? -/
abbrev Bel := Int × Int × List Guess × Int × Int × Bool × Bool
abbrev blA (b : Bel) : AV := belA b.1 b.2.1 b.2.2.1 b.2.2.2.1 b.2.2.2.2.1 b.2.2.2.2.2.1 b.2.2.2.2.2.2
def curB (w h x y : Int) (b s : Bool) : Bool := if s then decide (0 ≤ x) && decide (x < w) && decide (0 ≤ y) && decide (y < h) && (!b || decide (x = w - 1)) else decide (x = 0) && decide (y = 0) && !b
/-- right guesses -/
def OkL (w h : Int) (l : List Guess) : Prop := (2 ≤ w ∧ w ≤ 80 ∧ 1 ≤ h ∧ h ≤ 24) ∧ (l.length : Int) = w * h ∧ ∀ i, i < l.length → gsOk w.toNat l i = true
noncomputable instance (w h : Int) (l : List Guess) : Decidable (OkL w h l) := Classical.propDecidable _
noncomputable def okBe (w h : Int) (l : List Guess) (x y : Int) (b s : Bool) : Bool := decide (OkL w h l) && curB w h x y b s
theorem okL_nat {w h : Int} {l : List Guess} (hs : OkL w h l) : ∃ w' h' : Nat, w = w' ∧ h = h' ∧ 2 ≤ w' ∧ w' ≤ 80 ∧ 1 ≤ h' ∧ h' ≤ 24 ∧ l.length = w' * h' ∧ l.length ≤ 1920 ∧ ∀ i, i < l.length → gsOk w' l i = true := by
  obtain ⟨⟨a, b, c, d⟩, e, f⟩ := hs
  obtain ⟨w', rfl⟩ := Int.eq_ofNat_of_zero_le (show 0 ≤ w by omega)
  obtain ⟨h', rfl⟩ := Int.eq_ofNat_of_zero_le (show 0 ≤ h by omega)
  have hl : l.length = w' * h' := by rw [← Int.natCast_mul] at e; omega
  exact ⟨w', h', rfl, rfl, by omega, by omega, by omega, by omega, hl, by have := side_le (w := w') (h := h') (by omega) (by omega); omega, by simpa using f⟩
end Go.Proofs.YtockidoncngdbaaGreatDoor
