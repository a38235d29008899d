/- Layer 27 (belief): guesses and beliefs, as types; what a right belief is, plainly. No condition. -/
import Derived.Test.YtgfmjmfphmjdkaaDoorR2ZT
import Derived.Test.YtgfmjmfphmjdkaaDoorR2ZG
import Derived.Test.YtgfmjmfphmjdkaaDoorR2ZV
import Derived.Test.YtgfmjmfphmjdkaaDoorR2ZM
namespace Go.Proofs.YtgfmjmfphmjdkaaDoor
set_option linter.unusedSimpArgs false
set_option linter.unusedVariables false
set_option linter.unusedSectionVars false
set_option maxHeartbeats 4000000
open Go Go.RowKit
set_option maxRecDepth 100000
/-! ### guesses -/
abbrev Guess := Cell × Bool
def guT : Ty Guess := { enc := fun g => [.int .i32 g.1.1, .int .i64 g.1.2, .bool g.2], k := 3, len := fun _ => rfl }
def guA (g : Guess) : AV := aggA [R g.1.1, I g.1.2, B g.2]
theorem us_gu : Tryd.prog.underlying 44 = some (.struct #[{ name := "C", type := 42, offset := 0, embedded := false, tag := "", pkgPath := "", byteOffset := 0 }, { name := "Sure", type := 4, offset := 2, embedded := false, tag := "", pkgPath := "", byteOffset := 16 }]) := Tryd.underlying44
instance cStGu : StC 44 [R 0, I 0, B false] [(0, 2), (2, 1)] := ⟨StT.mk' _ [.int .i32 0, .int .i64 0, .bool false] us_gu (by kernel_rfl) (by kernel_rfl)⟩
instance cFlGu0 : FldC 44 0 0 42 := ⟨_, _, us_gu, rfl, rfl, rfl⟩
instance cFlGu1 : FldC 44 1 2 4 := ⟨_, _, us_gu, rfl, rfl, rfl⟩
instance cAgGu : AggC 44 true := ⟨agg_yes (by kernel_rfl)⟩
instance cSzGu : SzC 44 3 := ⟨size_of (by kernel_rfl)⟩
instance cSpCe : SpC 42 := ⟨size_pos (n := 1) (by kernel_rfl)⟩
instance cAlGu : AlC 44 (.agg #[.int .i32 0, .int .i64 0, .bool false]) [.int .i32 0, .int .i64 0, .bool false] [R 0, I 0, B false] := ⟨by kernel_rfl, rfl, rfl⟩
theorem el_gu : El Tryd.prog guT 44 ((0, 0), false) 24 guA := ⟨⟨.agg #[.int .i32 0, .int .i64 0, .bool false], by kernel_rfl, rfl⟩, by decide, fun x v hv => by simp [guT] at hv; rcases hv with rfl | rfl | rfl <;> rfl, .inl ⟨agg_yes (by kernel_rfl), fun x => rfl⟩⟩
instance cElGu : ElC 44 guT ((0, 0), false) 24 guA := ⟨el_gu⟩
theorem un_gus : Tryd.prog.underlying 22 = some (.slice 44) := Tryd.underlying22
instance cUnGus : UnC 22 (.slice 44) := ⟨un_gus⟩
instance cAgGus : AggC 22 false := ⟨agg_no (by kernel_rfl)⟩
instance cSzGus : SzC 22 1 := ⟨size_of (by kernel_rfl)⟩
instance cSpGus : SpC 22 := ⟨size_pos (n := 0) (by kernel_rfl)⟩
instance cSzBo : SzC 4 1 := ⟨size_of (by kernel_rfl)⟩
/-! ### beliefs -/
theorem us_be : Tryd.prog.underlying 24 = some (.struct #[{ name := "W", type := 3, offset := 0, embedded := false, tag := "", pkgPath := "", byteOffset := 0 }, { name := "H", type := 3, offset := 1, embedded := false, tag := "", pkgPath := "", byteOffset := 8 }, { name := "L", type := 22, offset := 2, embedded := false, tag := "", pkgPath := "", byteOffset := 16 }, { name := "X", type := 3, offset := 3, embedded := false, tag := "", pkgPath := "", byteOffset := 40 }, { name := "Y", type := 3, offset := 4, embedded := false, tag := "", pkgPath := "", byteOffset := 48 }, { name := "Wrap", type := 4, offset := 5, embedded := false, tag := "", pkgPath := "", byteOffset := 56 }, { name := "Sure", type := 4, offset := 6, embedded := false, tag := "", pkgPath := "", byteOffset := 57 }]) := Tryd.underlying24
abbrev belA (w h : Int) (l : List Guess) (x y : Int) (b s : Bool) : AV := aggA [I w, I h, slA guT l, I x, I y, B b, B s]
instance cStBe : StC 24 [I 0, I 0, vA (.slice none 0 0), I 0, I 0, B false, B false] [(0, 1), (1, 1), (2, 1), (3, 1), (4, 1), (5, 1), (6, 1)] := ⟨StT.mk' _ [.int .i64 0, .int .i64 0, .slice none 0 0, .int .i64 0, .int .i64 0, .bool false, .bool false] us_be (by kernel_rfl) (by kernel_rfl)⟩
instance cFlBe0 : FldC 24 0 0 3 := ⟨_, _, us_be, rfl, rfl, rfl⟩
instance cFlBe1 : FldC 24 1 1 3 := ⟨_, _, us_be, rfl, rfl, rfl⟩
instance cFlBe2 : FldC 24 2 2 22 := ⟨_, _, us_be, rfl, rfl, rfl⟩
instance cFlBe3 : FldC 24 3 3 3 := ⟨_, _, us_be, rfl, rfl, rfl⟩
instance cFlBe4 : FldC 24 4 4 3 := ⟨_, _, us_be, rfl, rfl, rfl⟩
instance cFlBe5 : FldC 24 5 5 4 := ⟨_, _, us_be, rfl, rfl, rfl⟩
instance cFlBe6 : FldC 24 6 6 4 := ⟨_, _, us_be, rfl, rfl, rfl⟩
instance cAgBe : AggC 24 true := ⟨agg_yes (by kernel_rfl)⟩
instance cSzBe : SzC 24 7 := ⟨size_of (by kernel_rfl)⟩
instance cAlBe : AlC 24 (.agg #[.int .i64 0, .int .i64 0, .slice none 0 0, .int .i64 0, .int .i64 0, .bool false, .bool false]) [.int .i64 0, .int .i64 0, .slice none 0 0, .int .i64 0, .int .i64 0, .bool false, .bool false] [I 0, I 0, vA (.slice none 0 0), I 0, I 0, B false, B false] := ⟨by kernel_rfl, rfl, rfl⟩
/-- guesses are compared -/
theorem fl_gu : (Tryd.prog.fieldsOf 44).toList = [{ name := "C", type := 42, offset := 0, embedded := false, tag := "", pkgPath := "", byteOffset := 0 }, { name := "Sure", type := 4, offset := 2, embedded := false, tag := "", pkgPath := "", byteOffset := 16 }] := by kernel_rfl
theorem eq_boolB (d : Nat) (a b : Bool) (w : World) : (Op.equalIn (d + 1) 4 (.bool a) (.bool b)).run Tryd.prog w = .ok (a == b) w := run_equalIn_bool w d _ a b Tryd.underlying4
theorem run_gu_eq (d : Nat) (a b : Guess) (w : World) : (Op.equalIn (d + 3) 44 (.agg #[.int .i32 a.1.1, .int .i64 a.1.2, .bool a.2]) (.agg #[.int .i32 b.1.1, .int .i64 b.1.2, .bool b.2])).run Tryd.prog w = .ok (decide (a = b)) w := by
  rw [run_equalIn_agg _ _ _ _ _ (by kernel_rfl) (by kernel_rfl), fl_gu]
  obtain ⟨⟨a1, a2⟩, a3⟩ := a
  obtain ⟨⟨b1, b2⟩, b3⟩ := b
  have hc := run_cell_eq d (a1, a2) (b1, b2) w
  simp [Op.eqFields, part, na_bool, eq_boolB, ya_cell, sz_cell, hc]
  by_cases h1 : a1 = b1 <;> by_cases h2 : a2 = b2 <;> by_cases h3 : a3 = b3 <;> simp [h1, h2, h3]
theorem eqg_gu (op : BinOp) (x y : Operand) (xs ys : Array Value) (w : World) : (eqGuard op 44 x y (.agg xs) (.agg ys)).run Tryd.prog w = .ok () w := run_eqGuard_agg w op _ x y xs ys (by kernel_rfl)
section
variable {T0 : Gh} {fr : Fr} {M : List Own} {ops : Array Oper} {o : Oper}
theorem ay_eql_gu {x y : Operand} {a b : Guess} {t' : TypeId} (ho : o.op = .binOp .eql 44 x y t') (hx : Opd T0 fr x (aggA [R a.1.1, I a.1.2, B a.2])) (hy : Opd T0 fr y (aggA [R b.1.1, I b.1.2, B b.2])) : AY Tryd.prog T0 ops o fr M (B (decide (a = b))) := ay_of fun w0 G F a' w hs hf => by
  obtain ⟨us, h1, r1⟩ := (hx.use (o := o) (ops := ops) (by simp [ho, Op.operands]) hs.tab hf).agg
  obtain ⟨vs, h2, r2⟩ := (hy.use (o := o) (ops := ops) (by simp [ho, Op.operands]) hs.tab hf).agg
  obtain rfl := allRep_eq (zs := [.int .i32 a.1.1, .int .i64 a.1.2, .bool a.2]) r1
  obtain rfl := allRep_eq (zs := [.int .i32 b.1.1, .int .i64 b.1.2, .bool b.2]) r2
  have h3 := run_gu_eq 9997 a b w
  refine ⟨_, ?_, Rep.va _ _⟩
  simp only [execOp, ho, h1, h2, Sem.run_bind, eqg_gu, Result.andThen_ok, run_eql_struct, h3, Sem.run_pure]
theorem ay_neq_gu {x y : Operand} {a b : Guess} {t' : TypeId} (ho : o.op = .binOp .neq 44 x y t') (hx : Opd T0 fr x (aggA [R a.1.1, I a.1.2, B a.2])) (hy : Opd T0 fr y (aggA [R b.1.1, I b.1.2, B b.2])) : AY Tryd.prog T0 ops o fr M (B (!decide (a = b))) := ay_of fun w0 G F a' w hs hf => by
  obtain ⟨us, h1, r1⟩ := (hx.use (o := o) (ops := ops) (by simp [ho, Op.operands]) hs.tab hf).agg
  obtain ⟨vs, h2, r2⟩ := (hy.use (o := o) (ops := ops) (by simp [ho, Op.operands]) hs.tab hf).agg
  obtain rfl := allRep_eq (zs := [.int .i32 a.1.1, .int .i64 a.1.2, .bool a.2]) r1
  obtain rfl := allRep_eq (zs := [.int .i32 b.1.1, .int .i64 b.1.2, .bool b.2]) r2
  have h3 := run_gu_eq 9997 a b w
  refine ⟨_, ?_, Rep.va _ _⟩
  simp only [execOp, ho, h1, h2, Sem.run_bind, eqg_gu, Result.andThen_ok, run_neq_struct, h3, Sem.run_pure]
theorem ek_gu {a1 a2 b1 b2 : Int} {a3 b3 : Bool} : EqK Tryd.prog 44 (aggA [R a1, I a2, B a3]) (aggA [R b1, I b2, B b3]) (decide ((((a1, a2), a3) : Guess) = ((b1, b2), b3))) := fun _ _ _ _ _ _ _ _ hx hy => ⟨fun ho => ay_eql_gu (a := ((a1, a2), a3)) (b := ((b1, b2), b3)) ho hx hy, fun ho => ay_neq_gu (a := ((a1, a2), a3)) (b := ((b1, b2), b3)) ho hx hy⟩
end
/-! ### plainly -/
def gAt (l : List Guess) (i : Nat) : Guess := l[i]?.getD ((0, 0), false)
theorem g_in {l : List Guess} {i : Nat} (h : i < l.length) : l[i]? = some (gAt l i) := by simp [gAt, h]
theorem g_out {l : List Guess} {i : Nat} (h : l.length ≤ i) : gAt l i = ((0, 0), false) := by simp [gAt, h]
theorem gAt_drop (l : List Guess) (a i : Nat) : gAt (l.drop a) i = gAt l (a + i) := by simp [gAt, List.getElem?_drop]
theorem gAt_take {l : List Guess} {n i : Nat} (h : i < n) : gAt (l.take n) i = gAt l i := by simp [gAt, List.getElem?_take, h]
theorem gAt_set (l : List Guess) (j i : Nat) (c : Guess) (hj : j < l.length) : gAt (l.set j c) i = if i = j then c else gAt l i := by
  unfold gAt; rw [List.getElem?_set]
  by_cases h : j = i
  · subst h; simp [hj]
  · simp [h, Ne.symm h]
theorem gAt_rep {n i : Nat} {c : Guess} (h : i < n) : gAt (List.replicate n c) i = c := by simp [gAt, List.getElem?_replicate, h]
theorem gAt_app {a b : List Guess} {i : Nat} : gAt (a ++ b) i = if i < a.length then gAt a i else gAt b (i - a.length) := by
  unfold gAt
  split
  · rename_i h; rw [List.getElem?_append_left h]
  · rename_i h; rw [List.getElem?_append_right (by omega)]
theorem gAt_map {l : List Cell} {i : Nat} (h : i < l.length) : gAt (l.map fun c => (c, true)) i = (cAt l i, true) := by simp [gAt, cAt, h]
theorem gAt_ovr {l c : List Guess} {off i : Nat} (h : off + c.length ≤ l.length) : gAt (ovr l off c) i = if i < off then gAt l i else if i < off + c.length then gAt c (i - off) else gAt l i := by
  unfold gAt ovr
  have h1 : (l.take off).length = off := by rw [List.length_take]; omega
  by_cases h2 : i < off
  · rw [if_pos h2, List.append_assoc, List.getElem?_append_left (by omega), List.getElem?_take, if_pos h2]
  · rw [if_neg h2]
    by_cases h3 : i < off + c.length
    · rw [if_pos h3, List.getElem?_append_left (by rw [List.length_append]; omega), List.getElem?_append_right (by omega), h1]
    · rw [if_neg h3, List.getElem?_append_right (by rw [List.length_append]; omega), List.getElem?_drop, List.length_append, h1]
      congr 2; omega
/-- is the guess at i of a row right? -/
def rowG (l : List Guess) (i : Nat) : Bool :=
  if (gAt l i).2 = false then decide (gAt l i = ((0, 0), false))
  else isCell (gAt l i).1 && (if (gAt l i).1.2 = 1 then decide (i + 1 < l.length) && (!(gAt l (i + 1)).2 || decide (gAt l (i + 1) = (((gAt l i).1.1, 2), true))) else if (gAt l i).1.2 = 2 then decide (1 ≤ i) && (!(gAt l (i - 1)).2 || decide (gAt l (i - 1) = (((gAt l i).1.1, 1), true))) else true)
def rowGs (l : List Guess) : Bool := (List.range l.length).all (rowG l)
theorem rowGs_iff {l : List Guess} : rowGs l = true ↔ ∀ i, i < l.length → rowG l i = true := by simp [rowGs]
/-- is the guess at i of a belief that is w wide right? -/
def gsOk (w : Nat) (l : List Guess) (i : Nat) : Bool :=
  if (gAt l i).2 = false then decide (gAt l i = ((0, 0), false))
  else isCell (gAt l i).1 && (if (gAt l i).1.2 = 1 then decide (i % w < w - 1) && (!(gAt l (i + 1)).2 || decide (gAt l (i + 1) = (((gAt l i).1.1, 2), true))) else if (gAt l i).1.2 = 2 then decide (0 < i % w) && (!(gAt l (i - 1)).2 || decide (gAt l (i - 1) = (((gAt l i).1.1, 1), true))) else true)
abbrev rowOf (w : Nat) (l : List Guess) (y : Nat) : List Guess := (l.drop (y * w)).take w
theorem rowOf_len {w h y : Nat} {l : List Guess} (hl : l.length = w * h) (hy : y < h) : (rowOf w l y).length = w := by
  have h1 : (y + 1) * w ≤ h * w := Nat.mul_le_mul_right _ hy
  rw [Nat.add_mul, Nat.one_mul] at h1
  rw [List.length_take, List.length_drop, hl, Nat.mul_comm w h]; omega
theorem rowOf_at {w y x : Nat} {l : List Guess} (hx : x < w) : gAt (rowOf w l y) x = gAt l (y * w + x) := by rw [gAt_take hx, gAt_drop]
theorem rowG_at {w h y x : Nat} {l : List Guess} (hl : l.length = w * h) (hy : y < h) (hx : x < w) : rowG (rowOf w l y) x = gsOk w l (y * w + x) := by
  have hm : (y * w + x) % w = x := by rw [Nat.add_comm, Nat.add_mul_mod_self_right, Nat.mod_eq_of_lt hx]
  unfold rowG gsOk
  rw [rowOf_at hx, hm, rowOf_len hl hy]
  split
  · rfl
  · congr 1
    split
    · by_cases h1 : x + 1 < w
      · rw [rowOf_at h1, ← Nat.add_assoc, show decide (x + 1 < w) = decide (x < w - 1) by congr 1; simp; omega]
      · rw [show decide (x + 1 < w) = false by simpa using h1, show decide (x < w - 1) = false by simp; omega]; rfl
    · split
      · by_cases h1 : 1 ≤ x
        · rw [rowOf_at (show x - 1 < w by omega), show y * w + (x - 1) = y * w + x - 1 by omega]; rfl
        · rw [show decide (1 ≤ x) = false by simpa using h1, show decide (0 < x) = false by simp; omega]; rfl
      · rfl
theorem rows_gs {w h : Nat} {l : List Guess} (hw : 1 ≤ w) (hl : l.length = w * h) : (∀ y, y < h → rowGs (rowOf w l y) = true) ↔ ∀ i, i < l.length → gsOk w l i = true := by
  constructor
  · intro H i hi
    have hy : i / w < h := by rw [Nat.div_lt_iff_lt_mul (by omega), Nat.mul_comm]; omega
    have hx : i % w < w := Nat.mod_lt _ (by omega)
    have hd : i / w * w + i % w = i := by rw [Nat.mul_comm]; exact Nat.div_add_mod i w
    have := rowGs_iff.1 (H _ hy) (i % w) (by rw [rowOf_len hl hy]; exact hx)
    rwa [rowG_at hl hy hx, hd] at this
  · intro H y hy
    rw [rowGs_iff, rowOf_len hl hy]
    intro x hx
    rw [rowG_at hl hy hx]
    refine H _ ?_
    have h1 : (y + 1) * w ≤ h * w := Nat.mul_le_mul_right _ hy
    rw [Nat.add_mul, Nat.one_mul] at h1
    rw [hl, Nat.mul_comm w h]; omega
/-- a belief: its sides, guesses, cursor, does the next sign begin a row, is the cursor sure? -/
abbrev Bel := Int × Int × List Guess × Int × Int × Bool × Bool
abbrev blA (b : Bel) : AV := belA b.1 b.2.1 b.2.2.1 b.2.2.2.1 b.2.2.2.2.1 b.2.2.2.2.2.1 b.2.2.2.2.2.2
def curB (w h x y : Int) (b s : Bool) : Bool := if s then decide (0 ≤ x) && decide (x < w) && decide (0 ≤ y) && decide (y < h) && (!b || decide (x = w - 1)) else decide (x = 0) && decide (y = 0) && !b
/-- right guesses -/
def OkL (w h : Int) (l : List Guess) : Prop := (2 ≤ w ∧ w ≤ 80 ∧ 1 ≤ h ∧ h ≤ 24) ∧ (l.length : Int) = w * h ∧ ∀ i, i < l.length → gsOk w.toNat l i = true
noncomputable instance (w h : Int) (l : List Guess) : Decidable (OkL w h l) := Classical.propDecidable _
noncomputable def okBe (w h : Int) (l : List Guess) (x y : Int) (b s : Bool) : Bool := decide (OkL w h l) && curB w h x y b s
theorem okL_nat {w h : Int} {l : List Guess} (hs : OkL w h l) : ∃ w' h' : Nat, w = w' ∧ h = h' ∧ 2 ≤ w' ∧ w' ≤ 80 ∧ 1 ≤ h' ∧ h' ≤ 24 ∧ l.length = w' * h' ∧ l.length ≤ 1920 ∧ ∀ i, i < l.length → gsOk w' l i = true := by
  obtain ⟨⟨a, b, c, d⟩, e, f⟩ := hs
  obtain ⟨w', rfl⟩ := Int.eq_ofNat_of_zero_le (show 0 ≤ w by omega)
  obtain ⟨h', rfl⟩ := Int.eq_ofNat_of_zero_le (show 0 ≤ h by omega)
  have hl : l.length = w' * h' := by rw [← Int.natCast_mul] at e; omega
  exact ⟨w', h', rfl, rfl, by omega, by omega, by omega, by omega, hl, by have := side_le (w := w') (h := h') (by omega) (by omega); omega, by simpa using f⟩
end Go.Proofs.YtgfmjmfphmjdkaaDoor
namespace Go.Proofs.YtgfmjmfphmjdkaaDoor
set_option linter.unusedSimpArgs false
set_option linter.unusedVariables false
set_option linter.unusedSectionVars false
set_option maxHeartbeats 4000000
open Go Go.RowKit
variable {T0 : Gh} [TabS T0]
attribute [local irreducible] thenA inBlockA AW AL AO QY varO rowO rsA Opd OpdN vA gvA tupA aggA slA slcA ipA rpA EqK LnK IxK LdK FaK FdK
set_option maxRecDepth 100000
theorem f_sure (c : Cell) : AP Tryd.prog T0 35 [cellA c] (guA (c, true)) := by
  refine af_intro Tryd.func35 rfl (by decide) Tryd.ntmps35 rfl ?_
  repeat' (first
  | refine g1_ ?_ | (refine aw_if ?_ ?_ <;> intro hb <;> try exact no_) | (refine sx_ ?_ <;> intro bb) | (refine su_ ?_ <;> intro u hu1 hu2) | fail)
  exact ⟨_, [], rs_, List.nil_sublist _, Sub.refl _, rfl⟩
theorem f_bBlank : AP Tryd.prog T0 41 [] (cellA (32, 0)) := by
  refine af_intro Tryd.func41 rfl (by decide) Tryd.ntmps41 rfl ?_
  repeat' (first
  | refine g1_ ?_ | (refine aw_if ?_ ?_ <;> intro hb <;> try exact no_) | (refine sx_ ?_ <;> intro bb) | (refine su_ ?_ <;> intro u hu1 hu2) | fail)
  exact ⟨_, [], rs_, List.nil_sublist _, Sub.refl _, rfl⟩
theorem ay_ix0 {fr : Fr} {M : List Own} {ops : Array Oper} {o : Oper} {x y : Operand} {k : Bool} (ho : o.op = .indexAddr 22 x y) (hk : k = true) (h0 : k = false) : AY Tryd.prog T0 ops o fr M (ipA (guT.enc ((0, 0), false))) := by rw [h0] at hk; cases hk
theorem f_beRow (l : List Guess) (hl : l.length ≤ 100000) : AP Tryd.prog T0 37 [slA guT l] (B (rowGs l)) := by
  have bad : ∀ k, k < l.length → rowG l k = false → rowGs l = false := fun k hk h => by
    cases e : rowGs l with
    | false => rfl
    | true => rw [rowGs_iff.1 e k hk] at h; cases h
  refine af_intro Tryd.func37 rfl (by decide) Tryd.ntmps37 rfl ?_
  repeat' (first
  | refine g26_ ?_ | (refine aw_if ?_ ?_ <;> intro hb <;> try exact no_) | (refine sx_ ?_ <;> intro bb) | (refine su_ ?_ <;> intro u hu1 hu2) | fail)
  refine aw_lf (fun k : Nat => [(9, I k)]) (fun k => k ≤ l.length ∧ ∀ j, j < k → rowG l j = true) (fun k => l.length - k) 0 ⟨Nat.zero_le _, fun j hj => absurd hj (Nat.not_lt_zero _)⟩ ?_
  rintro k ⟨h1, h2⟩
  by_cases hlt : k < l.length
  · have hat := g_in hlt
    have hb0 := bad k hlt
    have nxt : rowG l k = true → ∀ j, j < k + 1 → rowG l j = true := fun h j hj => by
      by_cases e : j = k
      · subst e; exact h
      · exact h2 j (by omega)
    have hr : rowG l k = rowG l k := rfl
    conv at hr => rhs; unfold rowG
    have gn : k + 1 < l.length → l[k + 1]? = some (gAt l (k + 1)) := fun h => g_in h
    have gp : 1 ≤ k → l[k - 1]? = some (gAt l (k - 1)) := fun h => g_in (by omega)
    generalize gAt l (k + 1) = gx at *
    generalize gAt l (k - 1) = gy at *
    generalize rowG l k = rk at *
    generalize rowGs l = rl at *
    generalize gAt l k = g at *
    clear bad
    obtain ⟨⟨x1, x2⟩, x3⟩ := gx
    obtain ⟨⟨y1, y2⟩, y3⟩ := gy
    obtain ⟨⟨c1, c2⟩, s⟩ := g
    cases s with
    | false =>
      repeat' (first
      | refine g26_ ?_ | (refine aw_if ?_ ?_ <;> intro hb <;> try exact no_) | (refine sx_ ?_ <;> intro bb) | (refine su_ ?_ <;> intro u hu1 hu2) | fail)
      all_goals first | exact e2_ | skip
    | true =>
      by_cases hK1 : c2 = 1
      · subst hK1
        by_cases hn : k + 1 < l.length
        · have gn := gn hn
          cases x3 with
          | false =>
            repeat' (first
            | refine g26_ ?_ | (refine aw_if ?_ ?_ <;> intro hb <;> try exact no_) | (refine sx_ ?_ <;> intro bb) | (refine su_ ?_ <;> intro u hu1 hu2) | fail)
            all_goals first | exact e2_ | skip
          | true =>
            by_cases he : x1 = c1 ∧ x2 = 2
            · obtain ⟨rfl, rfl⟩ := he
              repeat' (first
              | refine g26_ ?_ | (refine aw_if ?_ ?_ <;> intro hb <;> try exact no_) | (refine sx_ ?_ <;> intro bb) | (refine su_ ?_ <;> intro u hu1 hu2) | fail)
              all_goals first | exact e2_ | skip
            · repeat' (first
              | refine g26_ ?_ | (refine aw_if ?_ ?_ <;> intro hb <;> try exact no_) | (refine sx_ ?_ <;> intro bb) | (refine su_ ?_ <;> intro u hu1 hu2) | fail)
              all_goals first | exact e2_ | skip
        · have he : l.length = k + 1 := by omega
          repeat' (first
          | refine g26_ ?_ | (refine aw_if ?_ ?_ <;> intro hb <;> try exact no_) | (refine sx_ ?_ <;> intro bb) | (refine su_ ?_ <;> intro u hu1 hu2) | fail)
          all_goals first | exact e2_ | skip
      · by_cases hK2 : c2 = 2
        · subst hK2
          by_cases h0 : 1 ≤ k
          · have gp := gp h0
            cases y3 with
            | false =>
              repeat' (first
              | refine g26_ ?_ | (refine aw_if ?_ ?_ <;> intro hb <;> try exact no_) | (refine sx_ ?_ <;> intro bb) | (refine su_ ?_ <;> intro u hu1 hu2) | fail)
              all_goals first | exact e2_ | skip
            | true =>
              by_cases he : y1 = c1 ∧ y2 = 1
              · obtain ⟨rfl, rfl⟩ := he
                repeat' (first
                | refine g26_ ?_ | (refine aw_if ?_ ?_ <;> intro hb <;> try exact no_) | (refine sx_ ?_ <;> intro bb) | (refine su_ ?_ <;> intro u hu1 hu2) | fail)
                all_goals first | exact e2_ | skip
              · repeat' (first
                | refine g26_ ?_ | (refine aw_if ?_ ?_ <;> intro hb <;> try exact no_) | (refine sx_ ?_ <;> intro bb) | (refine su_ ?_ <;> intro u hu1 hu2) | fail)
                all_goals first | exact e2_ | skip
          · obtain rfl : k = 0 := by omega
            repeat' (first
            | refine g26_ ?_ | (refine aw_if ?_ ?_ <;> intro hb <;> try exact no_) | (refine sx_ ?_ <;> intro bb) | (refine su_ ?_ <;> intro u hu1 hu2) | fail)
            all_goals first | exact ⟨_, [], rl_, List.nil_sublist _, Sub.eq (congrArg B (hb0 (by rw [hr]; simp_all)).symm), rfl⟩ | exact ⟨0 + 1, ⟨by omega, nxt (by rw [hr]; simp_all)⟩, by omega, wx_, sl_⟩ | skip
        · repeat' (first
          | refine g26_ ?_ | (refine aw_if ?_ ?_ <;> intro hb <;> try exact no_) | (refine sx_ ?_ <;> intro bb) | (refine su_ ?_ <;> intro u hu1 hu2) | fail)
          all_goals first | exact e2_ | skip
  · repeat' (first
    | refine g26_ ?_ | (refine aw_if ?_ ?_ <;> intro hb <;> try exact no_) | (refine sx_ ?_ <;> intro bb) | (refine su_ ?_ <;> intro u hu1 hu2) | fail)
    refine ⟨_, [], rl_, List.nil_sublist _, Sub.eq (congrArg B ?_), rfl⟩
    exact (rowGs_iff.2 fun i hi => h2 i (by omega)).symm
end Go.Proofs.YtgfmjmfphmjdkaaDoor
namespace Go.Proofs.YtgfmjmfphmjdkaaDoor
set_option linter.unusedSimpArgs false
set_option linter.unusedVariables false
set_option linter.unusedSectionVars false
set_option maxHeartbeats 4000000
open Go Go.RowKit
section
variable {T0 : Gh} {N : Fz} {Q : Post} {fr : Fr} {M : List Own} {ops : Array Oper} {o : Oper} {rest : List Oper} {x0 : Nat}
/-- a function value is made -/
theorem ay_mkfn {P : Program} {f : FuncId} {caps : Array Operand} {As : List AV} (ho : o.op = .makeFunc (.func f) #[] caps) (hx : OpdAll T0 fr caps.toList As) : AY P T0 ops o fr M (fnA f As) := ay_of fun w0 G F a w hs hf => by
  have hr := hx.use (o := o) (ops := ops) hs.tab (fun x hx => by simp only [ho, Op.operands]; simpa using hx) hf
  refine ⟨.func (.func f) #[] (caps.map a.eval), ?_, .of ⟨caps.toList.map a.eval, ?_, hr⟩⟩
  · simp only [execOp, ho, Sem.run_bind, show ∀ (fn : Fn) (first cap : Array Value), (Instr.makeFunc fn first cap).run P w = .ok (.func fn first cap) w from fun _ _ _ => rfl, Result.andThen_ok, Sem.run_pure]
    simp
  · rw [← Array.toList_map, Array.toArray_toList]
theorem s_yi {A : AV} (h : ALi Tryd.prog T0 N ops Q rest ((x0, A) :: fr) M) (hg : GK Tryd.prog T0 ops o fr true := by first | exact gk1_ | fail) (hy : AY Tryd.prog T0 ops o fr M A := by first | exact y_ | fail) (hx : o.dst = some x0 := by rfl) (hd : Nat.blt x0 N.n = true := by rfl) (hn : noDefB [o] = true := by rfl) : ALi Tryd.prog T0 N ops Q (o :: rest) fr M :=
  ali_y (OutK.t.qy (hg M A fun _ => hy)) hx hd hn h
theorem s_opi {A : AV} (h : ALi Tryd.prog T0 N ops Q rest ((x0, A) :: fr) M) (hg : GK Tryd.prog T0 ops o fr true := by first | exact gk1_ | fail) (hy : AY Tryd.prog T0 ops o fr M A) (hx : o.dst = some x0 := by rfl) (hd : Nat.blt x0 N.n = true := by rfl) (hn : noDefB [o] = true := by rfl) : ALi Tryd.prog T0 N ops Q (o :: rest) fr M :=
  ali_y (OutK.t.qy (hg M A fun _ => hy)) hx hd hn h
end
variable {T0 : Gh} [TabS T0]
attribute [local irreducible] thenA inBlockA AW AL AO QY varO rowO rsA Opd OpdN vA gvA tupA aggA slA slcA ipA rpA EqK LnK IxK LdK FaK FdK
set_option maxRecDepth 100000
abbrev bx (b : Nat) : AV := vA (.pointer (some ⟨b, 0, none⟩))
theorem f_chunk (l : List Guess) (n : Nat) (hn : 1 ≤ n) : AF Tryd.prog T0 36 [slA guT l, I n] [] (fun A M' => ∃ b2 b3, A = fnA 61 [bx b2, bx b3] ∧ M' = [varO b3 3 [I n], varO b2 22 [slA guT l]]) := by
  refine af_intro Tryd.func36 rfl (by decide) Tryd.ntmps36 rfl ?_
  repeat' (first
  | refine g25_ ?_ | (refine aw_if ?_ ?_ <;> intro hb <;> try exact no_) | (refine sx_ ?_ <;> intro bb) | (refine su_ ?_ <;> intro u hu1 hu2) | fail)
  all_goals first | exact e1_ | skip
  exact ⟨_, _, rl_, List.Sublist.refl _, _, _, rfl, rfl⟩
theorem take_range_map {α : Type} (f : Nat → α) {k h : Nat} (hk : k < h) : ((List.range h).map f).take k ++ f k :: ((List.range h).map f).drop (k + 1) = (List.range h).map f := by
  have e : ((List.range h).map f)[k]? = some (f k) := by simp [hk]
  have hlt : k < ((List.range h).map f).length := by simpa using hk
  have e2 : ((List.range h).map f)[k] = f k := by simp
  rw [← e2, ← List.drop_eq_getElem_cons hlt, List.take_append_drop]
theorem take_succ_map {α : Type} (f : Nat → α) {k h : Nat} (hk : k < h) : ((List.range h).map f).take (k + 1) = ((List.range h).map f).take k ++ [f k] := by
  rw [List.take_add_one]; simp [hk]
theorem x_chunk (l : List Guess) (w h b2 b3 : Nat) (hw1 : 1 ≤ w) (hw : w ≤ 80) (hl : l.length = w * h) (hl2 : l.length ≤ 1920) : IterC Tryd.prog 61 [bx b2, bx b3] [varO b3 3 [I w], varO b2 22 [slA guT l]] (slA guT) ((List.range h).map (rowOf w l)) := by
  refine it_intro Tryd.func61 rfl (by decide) Tryd.ntmps61 rfl rfl fun T1 lo Y X hY => ?_
  refine aw_seq ?_
  repeat' (first
  | refine aw_regionY (id := 4) ?_ | refine s_yi ?_ | refine s_opi ?_ (hy := by first | (apply k_ld rfl; exact oo_; exact v1_ (List.Mem.head _) rfl) | (apply k_ld rfl; exact oo_; exact v1_ (List.Mem.tail _ (List.Mem.head _)) rfl) | (apply ay_slice3 rfl un_ el_; exact oo_; exact lo_; exact on_; exact on_; exact le_; exact le_; done) | fail) | refine ali_nil ?_ | refine ali_yield _ _ _ [varO b3 3 [I w], varO b2 22 [slA guT l]] rfl rfl rfl (want_plain rfl) rfl rfl hA hY hf ?_ ?_ | refine g24_ ?_ | (refine aw_if ?_ ?_ <;> intro hb <;> try exact no_) | (refine sx_ ?_ <;> intro bb) | (refine su_ ?_ <;> intro u hu1 hu2) | fail)
  refine aw_fl (fun k : Nat => [(0, yA lo), (1, bx b2), (2, bx b3), (4, I (k * w : Nat))]) (fun k => [varO b3 3 [I w], varO b2 22 [slA guT l]] ++ Y (((List.range h).map (rowOf w l)).take k)) (fun k => k ≤ h) (fun k => h - k) 0 (Nat.zero_le _) (by rw [Nat.zero_mul]; exact wk_) (List.Sublist.refl _) ?_
  rintro k h1
  obtain ⟨p, hp⟩ : ∃ p, p = k * w := ⟨_, rfl⟩
  have hp1 : (k + 1) * w = p + w := by rw [Nat.add_mul, Nat.one_mul, hp]
  rw [← hp]
  simp only [List.cons_append, List.nil_append]
  by_cases hlt : k < h
  · have hle : (k + 1) * w ≤ h * w := Nat.mul_le_mul_right _ hlt
    rw [hp1, Nat.mul_comm h w, ← hl] at hle
    have hf := take_range_map (rowOf w l) hlt
    have hlen : ((l.drop p).take (l.length - p)).length = l.length - p := by simp
    have hA : Sub (slcA guT ((l.drop p).take (p + min w ((l.drop p).take (l.length - p)).length - p))) (slA guT (rowOf w l k)) := by
      rw [hlen, show min w (l.length - p) = w by omega, Nat.add_sub_cancel_left, hp]; exact sub_slc
    repeat' (first
    | refine aw_regionY (id := 4) ?_ | refine s_yi ?_ | refine s_opi ?_ (hy := by first | (apply k_ld rfl; exact oo_; exact v1_ (List.Mem.head _) rfl) | (apply k_ld rfl; exact oo_; exact v1_ (List.Mem.tail _ (List.Mem.head _)) rfl) | (apply ay_slice3 rfl un_ el_; exact oo_; exact lo_; exact on_; exact on_; exact le_; exact le_; done) | fail) | refine ali_nil ?_ | refine ali_yield _ _ _ [varO b3 3 [I w], varO b2 22 [slA guT l]] rfl rfl rfl (want_plain rfl) rfl rfl hA hY hf ?_ ?_ | refine g18_ ?_ | (apply aw_region1q (by rfl) (by kernel_rfl) (by kernel_rfl)) | refine g24_ ?_ | refine w_fzg ?_ | (refine aw_if ?_ ?_ <;> intro hb <;> try exact no_) | (refine sx_ ?_ <;> intro bb) | (refine su_ ?_ <;> intro u hu1 hu2) | fail)
    all_goals first | (exfalso; omega) | (exfalso; simp at hb; done) | skip
    · exact ⟨k + 1, by omega, by omega, by rw [hp1]; exact wk_, by rw [take_succ_map _ hlt]; exact List.Sublist.refl _⟩
    · exact .inr ⟨_, _, List.take_append_drop (k + 1) _, by rw [take_succ_map _ hlt]; exact List.Sublist.cons _ (List.Sublist.cons _ (List.Sublist.refl _))⟩
  · have hke : k = h := by omega
    have hpe : p = l.length := by rw [hp, hke, hl, Nat.mul_comm]
    repeat' (first
    | refine aw_regionY (id := 4) ?_ | refine s_yi ?_ | refine s_opi ?_ (hy := by first | (apply k_ld rfl; exact oo_; exact v1_ (List.Mem.head _) rfl) | (apply k_ld rfl; exact oo_; exact v1_ (List.Mem.tail _ (List.Mem.head _)) rfl) | (apply ay_slice3 rfl un_ el_; exact oo_; exact lo_; exact on_; exact on_; exact le_; exact le_; done) | fail) | refine ali_nil ?_ | refine ali_yield _ _ _ [varO b3 3 [I w], varO b2 22 [slA guT l]] rfl rfl rfl (want_plain rfl) rfl rfl hA hY hf ?_ ?_ | refine g24_ ?_ | (refine aw_if ?_ ?_ <;> intro hb <;> try exact no_) | (refine sx_ ?_ <;> intro bb) | (refine su_ ?_ <;> intro u hu1 hu2) | fail)
    all_goals first | exact e1_ | skip
    exact .inl (by rw [List.take_of_length_le (by simp; omega)]; exact List.Sublist.cons _ (List.Sublist.cons _ (List.Sublist.refl _)))
end Go.Proofs.YtgfmjmfphmjdkaaDoor
namespace Go.Proofs.YtgfmjmfphmjdkaaDoor
set_option linter.unusedSimpArgs false
set_option linter.unusedVariables false
set_option linter.unusedSectionVars false
set_option maxHeartbeats 4000000
open Go Go.RowKit
theorem resCell1 {T0 : Gh} {fr : Fr} {M : List Own} {P : Program} {fn : Func} {s t e b : Nat} {A : AV} (h : fn.results = #[.cell s t]) (ha : ∀ w, (isAgg t).run P w = .ok false w) (hs : fr.get s = some (vA (.pointer (some ⟨b, 0, none⟩)))) (hM : varO b e [A] ∈ M) : ResA P T0 fn fr M A := fun w0 G F tmps w st hr => by
  obtain ⟨cs, h3, h4⟩ := st.own _ (List.mem_append_left F hM)
  obtain ⟨u, rfl⟩ : ∃ u, cs = [u] := List.length_eq_one_iff.1 h4.len
  have h5 := (slot_get hr hs).eq
  have h6 := run_loadVar1 ha h3
  refine ⟨u, ?_, h4.1⟩
  have h' : fn.results = [ResultVar.cell s t].toArray := by rw [h]
  rw [results_rv, h', List.mapM_toArray]
  simp only [List.mapM_cons, List.mapM_nil, rvOf, Sem.run_bind, map_eq_pure_bind, bind_assoc, Sem.run_pure, h5, asAddr, h6, Result.andThen_ok, pure_bind]
  simp
theorem ibm_n {id : Nat} {f : List Deferred → Fr → List Own → Prop} {Q : PostM} {D : List Deferred} {fr : Fr} {M : List Own} (h : f D fr M) : inBlockA id (thenM f Q D) .normal fr M := h
theorem ibm_r {id : Nat} {f : List Deferred → Fr → List Own → Prop} {Q : PostM} {D : List Deferred} {fr : Fr} {M : List Own} (h : Q D .ret fr M) : inBlockA id (thenM f Q D) .ret fr M := h
variable {T0 : Gh} [TabS T0]
attribute [local irreducible] thenA inBlockA AW AL AO QY varO rowO rsA Opd OpdN vA gvA tupA aggA slA slcA ipA rpA EqK LnK IxK LdK FaK FdK
set_option maxRecDepth 100000
instance cAgBo : AggC 4 false := ⟨na_bool⟩
instance cAlBo : AlC 4 (.bool false) [.bool false] [B false] := ⟨by kernel_rfl, rfl, rfl⟩
theorem perm3 {α : Type _} (r a b c d : α) : List.Perm [r, a, b, c, d] [a, b, c, r, d] := (List.perm_middle (l₁ := [a, b, c]) (a := r) (l₂ := [d])).symm
theorem okBe_no {w h x y : Int} {l : List Guess} {b s : Bool} (hn : ¬ (sidesM w h = true ∧ (l.length : Int) = w * h)) : okBe w h l x y b s = false := by
  unfold okBe
  rw [show decide (OkL w h l) = false from decide_eq_false_iff_not.2 fun ⟨a, c, _⟩ => hn ⟨by simpa [sidesM, and_assoc] using a, c⟩]; rfl
theorem f_beIs0 (w h : Int) (l : List Guess) (x y : Int) (b s : Bool) (hs : sidesM w h ≠ true) : AP Tryd.prog T0 21 [belA w h l x y b s] (B (okBe w h l x y b s)) := by
  rw [okBe_no (fun h => hs h.1)]
  have c1 : AP Tryd.prog T0 32 [I w, I h] (tupA [gridA 0 0 [], I 4]) := (f_New w h).to (by simp only [newR, hs, grid2]; rfl)
  refine af_intro Tryd.func21 rfl (by decide) Tryd.ntmps21 rfl ?_
  repeat' (first
  | refine g4_ ?_ | (refine aw_if ?_ ?_ <;> intro hb <;> try exact no_) | (refine sx_ ?_ <;> intro bb) | (refine su_ ?_ <;> intro u hu1 hu2) | fail)
  all_goals first | exact ⟨_, [], resCell1 rfl agg_ rfl mem_, List.nil_sublist _, Sub.refl _, rfl⟩ | skip
theorem f_beIs1 (w h : Nat) (l : List Guess) (x y : Int) (b s : Bool) (h1 : 2 ≤ w) (h2 : w ≤ 80) (h3 : 1 ≤ h) (h4 : h ≤ 24) (hl : l.length ≠ w * h) : AP Tryd.prog T0 21 [belA w h l x y b s] (B (okBe w h l x y b s)) := by
  have hb := side_le h2 h4
  have hnn : (0 : Int) ≤ ((w * h : Nat) : Int) := Int.natCast_nonneg _
  rw [okBe_no (fun h => hl (by have := h.2; rw [← Int.natCast_mul] at this; omega))]
  have c1 : AP Tryd.prog T0 32 [I w, I h] (tupA [gridA w h (List.replicate (w * h) (32, 0)), I 0]) := (f_New w h).to (by rw [newR, if_pos (by simp [sidesM]; omega)]; rfl)
  generalize List.replicate (w * h) ((32, 0) : Cell) = g0 at *
  refine af_intro Tryd.func21 rfl (by decide) Tryd.ntmps21 rfl ?_
  repeat' (first
  | refine g4_ ?_ | (refine aw_if ?_ ?_ <;> intro hb <;> try exact no_) | (refine sx_ ?_ <;> intro bb) | (refine su_ ?_ <;> intro u hu1 hu2) | fail)
  all_goals first | exact ⟨_, [], resCell1 rfl agg_ rfl mem_, List.nil_sublist _, Sub.refl _, rfl⟩ | skip
theorem f_beIs2 (w h : Nat) (l : List Guess) (x y : Int) (b s : Bool) (h1 : 2 ≤ w) (h2 : w ≤ 80) (h3 : 1 ≤ h) (h4 : h ≤ 24) (hl : l.length = w * h) : AP Tryd.prog T0 21 [belA w h l x y b s] (B (okBe w h l x y b s)) := by
  have hb := side_le h2 h4
  have hnn : (0 : Int) ≤ ((w * h : Nat) : Int) := Int.natCast_nonneg _
  have c1 : AP Tryd.prog T0 32 [I w, I h] (tupA [gridA w h (List.replicate (w * h) (32, 0)), I 0]) := (f_New w h).to (by rw [newR, if_pos (by simp [sidesM]; omega)]; rfl)
  generalize List.replicate (w * h) ((32, 0) : Cell) = g0 at *
  have hall : okBe w h l x y b s = ((decide (∀ y, y < h → rowGs (rowOf w l y) = true)) && curB w h x y b s) := by
    unfold okBe; congr 1
    rw [decide_eq_decide, rows_gs (by omega) hl]
    exact ⟨fun k => by simpa using k.2.2, fun k => ⟨⟨by omega, by omega, by omega, by omega⟩, by rw [hl]; exact Int.natCast_mul w h, by simpa using k⟩⟩
  generalize okBe w h l x y b s = ok at *
  have hx := fun b2 b3 => x_chunk l w h b2 b3 (by omega) h2 hl (by omega)
  refine af_introM Tryd.func21 rfl (by decide) Tryd.ntmps21 rfl ?_
  refine awm_seq ?_
  repeat' (first
  | (apply al_call0 rfl rfl rfl rfl (c := f_chunk l w (by omega))
     case ha => exact os_
     rintro _ _ ⟨b2, b3, rfl, rfl⟩)
  | refine g23_ ?_ | (refine aw_if ?_ ?_ <;> intro hb <;> try exact no_) | (refine sx_ ?_ <;> intro bb) | (refine su_ ?_ <;> intro u hu1 hu2) | fail)
  refine awm_seq ?_
  repeat' (first
  | (apply al_call0 rfl rfl rfl rfl (c := f_chunk l w (by omega))
     case ha => exact os_
     rintro _ _ ⟨b2, b3, rfl, rfl⟩)
  | refine g23_ ?_ | (refine aw_if ?_ ?_ <;> intro hb <;> try exact no_) | (refine sx_ ?_ <;> intro bb) | (refine su_ ?_ <;> intro u hu1 hu2) | fail)
  all_goals first | (exfalso; omega) | (exfalso; simp at hb; omega) | skip
  refine awm_seqM ?_
  refine awm_seq ?_
  repeat' (first
  | (apply al_call0 rfl rfl rfl rfl (c := f_chunk l w (by omega))
     case ha => exact os_
     rintro _ _ ⟨b2, b3, rfl, rfl⟩)
  | refine g23_ ?_ | (refine aw_if ?_ ?_ <;> intro hb <;> try exact no_) | (refine sx_ ?_ <;> intro bb) | (refine su_ ?_ <;> intro u hu1 hu2) | fail)
  refine awm_block ?_
  rename_i a1 a2 a3 
  refine awm_range (fun pre => ∀ r ∈ pre, rowGs r = true) (fun pre => ∃ r ∈ pre, rowGs r = false) (fun _ => [varO a3 4 [B false]]) (fun _ => [varO a3 4 [B false]]) [_, _] [_, _] (fun _ hr => by cases hr) (perm3 _ _ _ _ _) rfl (hx _ _) rfl ?_ ?_ ?_
  · intro lo pre r t hpr hpre
    have hr : r.length ≤ 100000 := by
      have : r ∈ (List.range h).map (rowOf w l) := by rw [← hpr]; simp
      obtain ⟨yy, hy, rfl⟩ := List.mem_map.1 this
      rw [rowOf_len hl (by simpa using hy)]; omega
    repeat' (first
    | (apply al_call0 rfl rfl rfl rfl (c := f_chunk l w (by omega))
       case ha => exact os_
       rintro _ _ ⟨b2, b3, rfl, rfl⟩)
    | refine awr_seq ?_ | refine awr_block ?_ | refine awr_region0 rfl (by (repeat' (first | refine no_th ?_ | refine no_ib ?_)); first | exact noq_round | exact noq_no) ?_ | refine awr_region1 rfl (by kernel_rfl) rfl (by (repeat' (first | refine no_th ?_ | refine no_ib ?_)); first | exact noq_round | exact noq_no) ?_ | refine awr_skip ?_ | refine awr_ret ?_ | (refine awr_cond rfl ?_ ?_ <;> intro hb) | refine g23_ ?_ | (refine aw_if ?_ ?_ <;> intro hb <;> try exact no_) | (refine sx_ ?_ <;> intro bb) | (refine su_ ?_ <;> intro u hu1 hu2) | fail)
    · exact ⟨⟨r, by simp, by simpa using hb⟩, List.Sublist.refl _⟩
    · refine ⟨fun r' hr' => ?_, List.Sublist.refl _⟩
      rcases List.mem_append.1 hr' with h | h
      · exact hpre r' h
      · rw [List.mem_singleton.1 h]; simpa using hb
  · intro d hok
    have h0 : decide (∀ y, y < h → rowGs (rowOf w l y) = true) = true := decide_eq_true fun y hy => hok _ (List.mem_map.2 ⟨y, by simpa using hy, rfl⟩)
    rw [h0, Bool.true_and] at hall
    refine ibm_n (awm_aw ?_)
    repeat' (first
    | (apply al_call0 rfl rfl rfl rfl (c := f_chunk l w (by omega))
       case ha => exact os_
       rintro _ _ ⟨b2, b3, rfl, rfl⟩)
    | refine g23_ ?_ | (refine aw_if ?_ ?_ <;> intro hb <;> try exact no_) | (refine sx_ ?_ <;> intro bb) | (refine su_ ?_ <;> intro u hu1 hu2) | fail)
    · have hs : s = false := by simpa using hb
      refine retM_mark (resCell1 rfl agg_ rfl (List.Mem.head _)) (List.nil_sublist _) ⟨Sub.eq (congrArg B ?_), rfl⟩
      rw [hall, hs]; rfl
    · have hs : s = true := by simpa using hb
      refine retM_mark (resCell1 rfl agg_ rfl (List.Mem.head _)) (List.nil_sublist _) ⟨Sub.eq (congrArg B ?_), rfl⟩
      rw [hall, hs, show (((w - 1 : Nat) : Int)) = (w : Int) - 1 by omega]; rfl
  · intro d pre t hpr hbad
    obtain ⟨r, hr, hr2⟩ := hbad
    have h0 : decide (∀ y, y < h → rowGs (rowOf w l y) = true) = false := decide_eq_false fun k => by
      have : r ∈ (List.range h).map (rowOf w l) := by rw [← hpr]; exact List.mem_append_left _ hr
      obtain ⟨yy, hy, rfl⟩ := List.mem_map.1 this
      rw [k yy (by simpa using hy)] at hr2; cases hr2
    rw [h0, Bool.false_and] at hall
    refine ibm_r ?_
    refine retM_mark (resCell1 rfl agg_ rfl (List.Mem.head _)) (List.nil_sublist _) ⟨Sub.eq (congrArg B ?_), rfl⟩
    exact hall.symm
theorem f_beIs (w h : Int) (l : List Guess) (x y : Int) (b s : Bool) : AP Tryd.prog T0 21 [belA w h l x y b s] (B (okBe w h l x y b s)) := by
  by_cases hs : sidesM w h = true
  · obtain ⟨w, h, rfl, rfl, h1, h2, h3, h4⟩ := sides_nat hs
    by_cases hl : l.length = w * h
    · exact f_beIs2 w h l x y b s h1 h2 h3 h4 hl
    · exact f_beIs1 w h l x y b s h1 h2 h3 h4 hl
  · exact f_beIs0 w h l x y b s hs
end Go.Proofs.YtgfmjmfphmjdkaaDoor
namespace Go.Proofs.YtgfmjmfphmjdkaaDoor
set_option linter.unusedSimpArgs false
set_option linter.unusedVariables false
set_option linter.unusedSectionVars false
set_option maxHeartbeats 4000000
open Go Go.RowKit
set_option maxRecDepth 100000
abbrev gBlank : Guess := ((32, 0), true)
abbrev gZero : Guess := ((0, 0), false)
def layB (w : Nat) (l : List Guess) (p : Nat) (cs : List Cell) : List Guess :=
  let l1 := if 0 < p % w ∧ (gAt l (p - 1)).1.2 = 1 then l.set (p - 1) gBlank else l
  let l2 := if 0 < (p + cs.length) % w ∧ (gAt l (p + cs.length)).1.2 = 2 then l1.set (p + cs.length) gBlank else l1
  ovr l2 p (cs.map fun c => (c, true))
theorem layB_len {w : Nat} {l : List Guess} {p : Nat} {cs : List Cell} (h : p + cs.length ≤ l.length) : (layB w l p cs).length = l.length := by
  have e : ∀ (c : Prop) [Decidable c] (m : List Guess) (j : Nat), (if c then m.set j gBlank else m).length = m.length := fun c _ m j => by split <;> simp
  unfold layB
  simp only
  rw [ovr_len (by rw [List.length_map, e, e]; exact h), e, e]
theorem layB_at {w : Nat} {l : List Guess} {p : Nat} {cs : List Cell} (h : p + cs.length ≤ l.length) (h2 : 0 < (p + cs.length) % w → p + cs.length < l.length) (i : Nat) :
    gAt (layB w l p cs) i = if i < p then (if i + 1 = p ∧ 0 < p % w ∧ (gAt l i).1.2 = 1 then gBlank else gAt l i) else if i < p + cs.length then (cAt cs (i - p), true) else if i = p + cs.length ∧ 0 < (p + cs.length) % w ∧ (gAt l i).1.2 = 2 then gBlank else gAt l i := by
  have hp : 0 < p % w → 1 ≤ p := fun k => by
    rcases Nat.eq_zero_or_pos p with h | h
    · subst h; simp at k
    · exact h
  have e1 : ∀ j, gAt (if 0 < p % w ∧ (gAt l (p - 1)).1.2 = 1 then l.set (p - 1) gBlank else l) j = if j + 1 = p ∧ 0 < p % w ∧ (gAt l j).1.2 = 1 then gBlank else gAt l j := fun j => by
    by_cases k : 0 < p % w ∧ (gAt l (p - 1)).1.2 = 1
    · have := hp k.1
      rw [if_pos k, gAt_set _ _ _ _ (by omega)]
      by_cases hj : j = p - 1
      · rw [if_pos hj, if_pos ⟨by omega, k.1, by rw [hj]; exact k.2⟩]
      · rw [if_neg hj, if_neg (by omega)]
    · rw [if_neg k]
      by_cases hj : j + 1 = p ∧ 0 < p % w ∧ (gAt l j).1.2 = 1
      · exact absurd ⟨hj.2.1, by rw [show p - 1 = j by omega]; exact hj.2.2⟩ k
      · rw [if_neg hj]
  have len1 : (if 0 < p % w ∧ (gAt l (p - 1)).1.2 = 1 then l.set (p - 1) gBlank else l).length = l.length := by split <;> simp
  unfold layB
  simp only
  generalize (if 0 < p % w ∧ (gAt l (p - 1)).1.2 = 1 then l.set (p - 1) gBlank else l) = l1 at *
  have e2 : ∀ j, gAt (if 0 < (p + cs.length) % w ∧ (gAt l (p + cs.length)).1.2 = 2 then l1.set (p + cs.length) gBlank else l1) j = if j = p + cs.length ∧ 0 < (p + cs.length) % w ∧ (gAt l j).1.2 = 2 then gBlank else gAt l1 j := fun j => by
    by_cases k : 0 < (p + cs.length) % w ∧ (gAt l (p + cs.length)).1.2 = 2
    · have := h2 k.1
      rw [if_pos k, gAt_set _ _ _ _ (by omega)]
      by_cases hj : j = p + cs.length
      · rw [if_pos hj, if_pos ⟨hj, k.1, by rw [hj]; exact k.2⟩]
      · rw [if_neg hj, if_neg (fun x => hj x.1)]
    · rw [if_neg k, if_neg]
      rintro ⟨a, b, c⟩; exact k ⟨b, by rw [← a]; exact c⟩
  have len2 : (if 0 < (p + cs.length) % w ∧ (gAt l (p + cs.length)).1.2 = 2 then l1.set (p + cs.length) gBlank else l1).length = l.length := by split <;> simp [len1]
  rw [gAt_ovr (by rw [len2, List.length_map]; exact h), e2, e1, List.length_map]
  by_cases q1 : i < p
  · rw [if_pos q1, if_pos q1, if_neg (by omega)]
  · rw [if_neg q1, if_neg q1]
    by_cases q2 : i < p + cs.length
    · rw [if_pos q2, if_pos q2, gAt_map (by omega)]
    · rw [if_neg q2, if_neg q2]
      by_cases q3 : i = p + cs.length ∧ 0 < (p + cs.length) % w ∧ (gAt l i).1.2 = 2
      · rw [if_pos q3, if_pos q3]
      · rw [if_neg q3, if_neg q3, if_neg (by omega)]
/-- right guesses, place by place -/
def GOk (w : Nat) (l : List Guess) : Prop := ∀ i, i < l.length → gsOk w l i = true
theorem gsOk_iff {w : Nat} {l : List Guess} {i : Nat} : gsOk w l i = true ↔ ((gAt l i).2 = false → gAt l i = gZero) ∧ ((gAt l i).2 = true → isCell (gAt l i).1 = true ∧ ((gAt l i).1.2 = 1 → i % w < w - 1 ∧ ((gAt l (i + 1)).2 = true → gAt l (i + 1) = (((gAt l i).1.1, 2), true))) ∧ ((gAt l i).1.2 = 2 → 0 < i % w ∧ ((gAt l (i - 1)).2 = true → gAt l (i - 1) = (((gAt l i).1.1, 1), true)))) := by
  unfold gsOk
  cases h : (gAt l i).2 with
  | false => simp
  | true =>
    simp only [Bool.true_eq_false, if_false, Bool.and_eq_true, forall_const, false_implies, true_and, and_congr_right_iff]
    intro hc
    by_cases h1 : (gAt l i).1.2 = 1
    · rw [if_pos h1]
      cases h3 : (gAt l (i + 1)).2 <;> simp [h1]
    · rw [if_neg h1]
      by_cases h2 : (gAt l i).1.2 = 2
      · rw [if_pos h2]
        cases h3 : (gAt l (i - 1)).2 <;> simp [h2]
      · simp [h1, h2]
/-- what is not sure is nothing -/
theorem GOk.zero {w : Nat} {l : List Guess} (h : GOk w l) {i : Nat} (hi : (gAt l i).2 = false) : gAt l i = gZero := by
  by_cases hl : i < l.length
  · exact (gsOk_iff.1 (h i hl)).1 hi
  · exact g_out (by omega)
theorem GOk.half {w : Nat} {l : List Guess} (h : GOk w l) {i : Nat} (hi : (gAt l i).1.2 ≠ 0) : (gAt l i).2 = true := by
  cases e : (gAt l i).2 with
  | true => rfl
  | false => rw [h.zero e] at hi; exact absurd rfl hi
theorem GOk.left {w : Nat} {l : List Guess} (h : GOk w l) {i : Nat} (hi : (gAt l i).1.2 = 1) : i % w < w - 1 ∧ ((gAt l (i + 1)).2 = true → gAt l (i + 1) = (((gAt l i).1.1, 2), true)) := by
  by_cases hl : i < l.length
  · exact ((gsOk_iff.1 (h i hl)).2 (h.half (by rw [hi]; decide))).2.1 hi
  · rw [g_out (by omega)] at hi; simp at hi
theorem GOk.right {w : Nat} {l : List Guess} (h : GOk w l) {i : Nat} (hi : (gAt l i).1.2 = 2) : 0 < i % w ∧ ((gAt l (i - 1)).2 = true → gAt l (i - 1) = (((gAt l i).1.1, 1), true)) := by
  by_cases hl : i < l.length
  · exact ((gsOk_iff.1 (h i hl)).2 (h.half (by rw [hi]; decide))).2.2 hi
  · rw [g_out (by omega)] at hi; simp at hi
theorem GOk.cell {w : Nat} {l : List Guess} (h : GOk w l) {i : Nat} (hi : (gAt l i).2 = true) : isCell (gAt l i).1 = true := by
  by_cases hl : i < l.length
  · exact ((gsOk_iff.1 (h i hl)).2 hi).1
  · rw [g_out (by omega)] at hi; simp at hi
theorem gOk_of {w : Nat} {l : List Guess} (h : ∀ i, i < l.length → ((gAt l i).2 = false → gAt l i = gZero) ∧ ((gAt l i).2 = true → isCell (gAt l i).1 = true) ∧ ((gAt l i).1.2 = 1 → i % w < w - 1 ∧ ((gAt l (i + 1)).2 = true → gAt l (i + 1) = (((gAt l i).1.1, 2), true))) ∧ ((gAt l i).1.2 = 2 → 0 < i % w ∧ ((gAt l (i - 1)).2 = true → gAt l (i - 1) = (((gAt l i).1.1, 1), true)))) : GOk w l := fun i hi =>
  gsOk_iff.2 ⟨(h i hi).1, fun k => ⟨(h i hi).2.1 k, (h i hi).2.2.1, (h i hi).2.2.2⟩⟩
theorem mod_next {w i : Nat} (hw : 1 ≤ w) (h : (i + 1) % w = 0) : i % w = w - 1 := by
  have h1 := Nat.mod_lt i (show 0 < w by omega)
  have h2 := Nat.add_mod i 1 w
  rw [h] at h2
  by_cases e : i % w + 1 < w
  · have h3 : (i % w + 1 % w) % w = i % w + 1 := by
      rcases Nat.lt_or_ge 1 w with k | k
      · rw [Nat.mod_eq_of_lt k, Nat.mod_eq_of_lt e]
      · exfalso; omega
    omega
  · omega
/-- laying cells keeps guesses right -/
theorem layB_ok {w h : Nat} {l : List Guess} {p : Nat} {cs : List Cell} (hw : 2 ≤ w) (hl : l.length = w * h) (hk : GOk w l) (hp : p + cs.length ≤ l.length) (hc : ∀ j, j < cs.length → isCell (cAt cs j) = true) (hW : WholeIn w p cs) : GOk w (layB w l p cs) := by
  have h2 : 0 < (p + cs.length) % w → p + cs.length < l.length := fun k => by
    rcases Nat.lt_or_ge (p + cs.length) l.length with e | e
    · exact e
    · rw [show p + cs.length = w * h by omega, Nat.mul_mod_right] at k; omega
  have at_ := layB_at (w := w) hp h2
  generalize hL : layB w l p cs = L at *
  have hLl : L.length = l.length := by rw [← hL]; exact layB_len hp
  have blk : ∀ i, gAt L i = gBlank → ((gAt L i).2 = false → gAt L i = gZero) ∧ ((gAt L i).2 = true → isCell (gAt L i).1 = true) ∧ ((gAt L i).1.2 = 1 → i % w < w - 1 ∧ ((gAt L (i + 1)).2 = true → gAt L (i + 1) = (((gAt L i).1.1, 2), true))) ∧ ((gAt L i).1.2 = 2 → 0 < i % w ∧ ((gAt L (i - 1)).2 = true → gAt L (i - 1) = (((gAt L i).1.1, 1), true))) := fun i e => by
    rw [e]; exact ⟨fun h => (by simp at h), fun _ => isCell_blank, fun h => (by simp at h), fun h => (by simp at h)⟩
  refine gOk_of fun i hi => ?_
  rw [hLl] at hi
  by_cases q1 : i < p
  · by_cases q : i + 1 = p ∧ 0 < p % w ∧ (gAt l i).1.2 = 1
    · exact blk i (by rw [at_, if_pos q1, if_pos q])
    · have e : gAt L i = gAt l i := by rw [at_, if_pos q1, if_neg q]
      rw [e]
      refine ⟨fun h => hk.zero h, fun h => hk.cell h, fun h => ?_, fun h => ?_⟩
      · obtain ⟨a1, a2⟩ := hk.left h
        refine ⟨a1, ?_⟩
        rw [at_]
        have hne : i + 1 ≠ p := fun hne => by
          refine q ⟨hne, ?_, h⟩
          rcases Nat.eq_zero_or_pos (p % w) with z | z
          · have := mod_next (w := w) (i := i) (by omega) (by rw [hne]; exact z); omega
          · exact z
        rw [if_pos (show i + 1 < p by omega), if_neg]
        · exact a2
        · rintro ⟨_, _, b3⟩
          have := a2 (hk.half (by rw [b3]; decide)); rw [this] at b3; simp at b3
      · obtain ⟨a1, a2⟩ := hk.right h
        refine ⟨a1, ?_⟩
        have h1i : 1 ≤ i := by
          rcases Nat.eq_zero_or_pos i with z | z
          · subst z; simp at a1
          · exact z
        rw [at_, if_pos (show i - 1 < p by omega), if_neg (fun k => by have := k.1; omega)]
        exact a2
  · by_cases q2 : i < p + cs.length
    · have e : gAt L i = (cAt cs (i - p), true) := by rw [at_, if_neg q1, if_pos q2]
      have hW' := hW (i - p) (by omega)
      rw [e]
      refine ⟨fun h => (by simp at h), fun _ => hc _ (by omega), fun h => ?_, fun h => ?_⟩
      · obtain ⟨b1, b2, b3⟩ := hW'.1 h
        rw [show p + (i - p) = i by omega] at b3
        have := Nat.mod_lt i (show 0 < w by omega)
        refine ⟨by omega, fun _ => ?_⟩
        rw [at_, if_neg (by omega), if_pos (by omega), show i + 1 - p = i - p + 1 by omega, b2]
      · obtain ⟨b1, b2, b3⟩ := hW'.2 h
        rw [show p + (i - p) = i by omega] at b3
        refine ⟨by omega, fun _ => ?_⟩
        rw [at_, if_neg (by omega), if_pos (by omega), show i - 1 - p = i - p - 1 by omega, b2]
    · by_cases q : i = p + cs.length ∧ 0 < (p + cs.length) % w ∧ (gAt l i).1.2 = 2
      · exact blk i (by rw [at_, if_neg q1, if_neg q2, if_pos q])
      · have e : gAt L i = gAt l i := by rw [at_, if_neg q1, if_neg q2, if_neg q]
        rw [e]
        refine ⟨fun h => hk.zero h, fun h => hk.cell h, fun h => ?_, fun h => ?_⟩
        · obtain ⟨a1, a2⟩ := hk.left h
          refine ⟨a1, ?_⟩
          rw [at_, if_neg (by omega), if_neg (by omega), if_neg (by omega)]
          exact a2
        · obtain ⟨a1, a2⟩ := hk.right h
          refine ⟨a1, ?_⟩
          have hne : i ≠ p + cs.length := fun hne => q ⟨hne, by rw [← hne]; exact a1, h⟩
          rw [at_, if_neg (by omega), if_neg (by omega), if_neg]
          · exact a2
          · rintro ⟨_, _, b3⟩
            have := a2 (hk.half (by rw [b3]; decide)); rw [this] at b3; simp at b3
/-- the row above goes, and blanks come below -/
def upB (w : Nat) (l : List Guess) : List Guess := l.drop w ++ List.replicate w gBlank
theorem upB_len {w : Nat} {l : List Guess} (h : w ≤ l.length) : (upB w l).length = l.length := by simp [upB]; omega
theorem upB_at {w : Nat} {l : List Guess} (h : w ≤ l.length) {i : Nat} (hi : i < l.length) : gAt (upB w l) i = if i + w < l.length then gAt l (i + w) else gBlank := by
  unfold upB
  rw [gAt_app, List.length_drop]
  by_cases e : i + w < l.length
  · rw [if_pos (by omega), if_pos e, gAt_drop, Nat.add_comm]
  · rw [if_neg (by omega), if_neg e, gAt_rep (by omega)]
theorem upB_ok {w h : Nat} {l : List Guess} (hw : 2 ≤ w) (hh : 1 ≤ h) (hl : l.length = w * h) (hk : GOk w l) : GOk w (upB w l) := by
  have hwl : w ≤ l.length := by rw [hl]; exact Nat.le_mul_of_pos_right w hh
  obtain ⟨k, rfl⟩ : ∃ k, h = k + 1 := ⟨h - 1, by omega⟩
  rw [Nat.mul_add, Nat.mul_one] at hl
  refine gOk_of fun i hi => ?_
  rw [upB_len hwl] at hi
  rw [upB_at hwl hi]
  by_cases e : i + w < l.length
  · rw [if_pos e]
    refine ⟨fun h => hk.zero h, fun h => hk.cell h, fun h => ?_, fun h => ?_⟩
    · obtain ⟨a1, a2⟩ := hk.left h
      rw [Nat.add_mod_right] at a1
      have : i + 1 + w < l.length := by
        rcases Nat.lt_or_ge (i + 1 + w) l.length with z | z
        · exact z
        · have := mod_next (w := w) (i := i) (by omega) (by rw [show i + 1 = w * k by omega, Nat.mul_mod_right]); omega
      refine ⟨a1, ?_⟩
      rw [upB_at hwl (by omega), if_pos this, show i + 1 + w = i + w + 1 by omega]; exact a2
    · obtain ⟨a1, a2⟩ := hk.right h
      rw [Nat.add_mod_right] at a1
      have h1 : 1 ≤ i := by
        rcases Nat.eq_zero_or_pos i with z | z
        · subst z; simp at a1
        · exact z
      refine ⟨a1, ?_⟩
      rw [upB_at hwl (by omega), if_pos (by omega), show i - 1 + w = i + w - 1 by omega]; exact a2
  · rw [if_neg e]
    exact ⟨fun h => (by simp at h), fun _ => isCell_blank, fun h => (by simp at h), fun h => (by simp at h)⟩
theorem rep_ok (w n : Nat) : GOk w (List.replicate n gZero) := by
  have at_ : ∀ i, gAt (List.replicate n gZero) i = gZero := fun i => by
    by_cases h : i < n
    · exact gAt_rep h
    · exact g_out (by simp; omega)
  refine gOk_of fun i hi => ?_
  rw [at_]; exact ⟨fun _ => rfl, fun h => (by simp at h), fun h => (by simp at h), fun h => (by simp at h)⟩
end Go.Proofs.YtgfmjmfphmjdkaaDoor
namespace Go.Proofs.YtgfmjmfphmjdkaaDoor
set_option linter.unusedSimpArgs false
set_option linter.unusedVariables false
set_option linter.unusedSectionVars false
set_option maxHeartbeats 4000000
open Go Go.RowKit
set_option maxRecDepth 100000
def noB : Bel := (0, 0, [], 0, 0, false, false)
def newB (w h : Int) : Bel × Int := if sidesM w h then ((w, h, List.replicate (w.toNat * h.toNat) gZero, 0, 0, false, false), 0) else (noB, 4)
noncomputable abbrev okBl (b : Bel) : Bool := okBe b.1 b.2.1 b.2.2.1 b.2.2.2.1 b.2.2.2.2.1 b.2.2.2.2.2.1 b.2.2.2.2.2.2
def chg (k : Int) : Bool := decide (k = 1) || decide (k = 7) || decide (k = 8) || decide (k = 10)
/-- where the cursor goes -/
noncomputable def curK (w h x y : Int) (b : Bool) (c : Cmd) : Int × Int × Bool := (doK w h [] x y b c).2.2.2
theorem ite_rel {α : Type} {R : α → α → Prop} {p : Prop} [Decidable p] {a b a' b' : α} (h1 : R a a') (h2 : R b b') : R (if p then a else b) (if p then a' else b') := by
  split
  · exact h1
  · exact h2
theorem downL_y (w h : Int) (l l' : List Cell) (y : Int) : (downL w h l y).2 = (downL w h l' y).2 := by
  unfold downL; split <;> rfl
theorem doK_rel (w h : Int) (l l' : List Cell) (x y : Int) (b : Bool) (c : Cmd) : (fun t t' : Tm => t.1 = w ∧ t.2.1 = h ∧ t.2.2.2 = t'.2.2.2) (doK w h l x y b c) (doK w h l' x y b c) := by
  unfold doK
  refine ite_rel (R := fun t t' : Tm => t.1 = w ∧ t.2.1 = h ∧ t.2.2.2 = t'.2.2.2) ?_ ?_
  · unfold textK
    refine ite_rel (R := fun t t' : Tm => t.1 = w ∧ t.2.1 = h ∧ t.2.2.2 = t'.2.2.2) ?_ ⟨rfl, rfl, rfl⟩
    rw [downL_y w h l l' y]; exact ⟨rfl, rfl, rfl⟩
  · refine ite_rel (R := fun t t' : Tm => t.1 = w ∧ t.2.1 = h ∧ t.2.2.2 = t'.2.2.2) ⟨rfl, rfl, rfl⟩ ?_
    repeat' (refine ite_rel (R := fun t t' : Tm => t.1 = w ∧ t.2.1 = h ∧ t.2.2.2 = t'.2.2.2) ?_ ?_)
    all_goals first | exact ⟨rfl, rfl, rfl⟩ | skip
    rw [downL_y w h l l' y]; exact ⟨rfl, rfl, rfl⟩
theorem doK_cur (w h : Int) (l : List Cell) (x y : Int) (b : Bool) (c : Cmd) : (doK w h l x y b c).2.2.2 = curK w h x y b c := (doK_rel w h l [] x y b c).2.2
theorem doK_sides (w h : Int) (l : List Cell) (x y : Int) (b : Bool) (c : Cmd) : (doK w h l x y b c).1 = w ∧ (doK w h l x y b c).2.1 = h := ⟨(doK_rel w h l [] x y b c).1, (doK_rel w h l [] x y b c).2.1⟩
/-- what becomes of the guesses -/
def textL (w h : Nat) (l : List Guess) (x y : Nat) (b : Bool) (cs : List Cell) : List Guess :=
  if b = true ∨ w < x + cs.length then (if y + 1 < h then layB w l ((y + 1) * w) cs else layB w (upB w l) (y * w) cs) else layB w l (y * w + x) cs
def listK (w h : Nat) (l : List Guess) (x y : Nat) (b : Bool) (c : Cmd) : List Guess :=
  if c.1 = 1 then textL w h l x y b (cellsM c.2.2.2)
  else if c.1 = 7 then layB w l (y * w + x) (List.replicate (w - x) (32, 0))
  else if c.1 = 8 then layB w l (y * w + x) (List.replicate (l.length - (y * w + x)) (32, 0))
  else if c.1 = 10 then (if y + 1 < h then l else upB w l)
  else l
noncomputable def doBK (w h : Int) (l : List Guess) (x y : Int) (b : Bool) (c : Cmd) : Bel :=
  (w, h, listK w.toNat h.toNat l x.toNat y.toNat b c, (curK w h x y b c).1, (curK w h x y b c).2.1, (curK w h x y b c).2.2, true)
noncomputable def doB (b : Bel) (c : Cmd) : Bel × Int :=
  if okBl b = true ∧ isCmd c = true then
    if b.2.2.2.2.2.2 = false ∧ chg c.1 = true then newB b.1 b.2.1
    else if (b.2.2.2.2.2.2 = false ∧ c.1 ≠ 2) ∨ c.1 = 12 then (b, 0)
    else (doBK b.1 b.2.1 b.2.2.1 b.2.2.2.1 b.2.2.2.2.1 b.2.2.2.2.2.1 c, 0)
  else (noB, 1)
theorem okBe_iff {w h : Int} {l : List Guess} {x y : Int} {b s : Bool} : okBe w h l x y b s = true ↔ ∃ w' h' : Nat, w = w' ∧ h = h' ∧ 2 ≤ w' ∧ w' ≤ 80 ∧ 1 ≤ h' ∧ h' ≤ 24 ∧ l.length = w' * h' ∧ GOk w' l ∧ (s = true → 0 ≤ x ∧ x < w' ∧ 0 ≤ y ∧ y < h' ∧ (b = true → x = w' - 1)) ∧ (s = false → x = 0 ∧ y = 0 ∧ b = false) := by
  have hcur : ∀ w' h' : Nat, curB w' h' x y b s = true ↔ (s = true → 0 ≤ x ∧ x < w' ∧ 0 ≤ y ∧ y < h' ∧ (b = true → x = w' - 1)) ∧ (s = false → x = 0 ∧ y = 0 ∧ b = false) := fun w' h' => by
    unfold curB
    cases s <;> cases b <;> simp [and_assoc]
  unfold okBe
  rw [Bool.and_eq_true, decide_eq_true_eq]
  constructor
  · rintro ⟨h1, h2⟩
    obtain ⟨w', h', rfl, rfl, a, b', c, d, e, f, g⟩ := okL_nat h1
    exact ⟨w', h', rfl, rfl, a, b', c, d, e, g, (hcur w' h').1 h2⟩
  · rintro ⟨w', h', rfl, rfl, a, b', c, d, e, g, k⟩
    exact ⟨⟨⟨by omega, by omega, by omega, by omega⟩, by rw [e]; exact Int.natCast_mul w' h', by simpa [GOk] using g⟩, (hcur w' h').2 k⟩
theorem side_leB {w h : Nat} (hw : w ≤ 80) (hh : h ≤ 24) : w * h ≤ 1920 := Nat.mul_le_mul hw hh
theorem newB_ok {w h : Int} (hs : sidesM w h = true) : okBl (newB w h).1 = true := by
  obtain ⟨w, h, rfl, rfl, h1, h2, h3, h4⟩ := sides_nat hs
  rw [newB, if_pos hs]
  exact okBe_iff.2 ⟨w, h, rfl, rfl, h1, h2, h3, h4, by simp, rep_ok _ _, fun h => (by cases h), fun _ => ⟨rfl, rfl, rfl⟩⟩
theorem row_in {w h x y n : Nat} (hy : y < h) (hx : x + n ≤ w) : y * w + x + n ≤ w * h := by
  have h1 : (y + 1) * w ≤ h * w := Nat.mul_le_mul_right w hy
  rw [Nat.add_mul, Nat.one_mul, Nat.mul_comm h w] at h1
  omega
theorem upB_len' {w h : Nat} {l : List Guess} (hh : 1 ≤ h) (hl : l.length = w * h) : (upB w l).length = w * h := by
  rw [upB_len (by rw [hl]; exact Nat.le_mul_of_pos_right w hh), hl]
/-- the guesses stay right -/
theorem textL_ok {w h : Nat} {l : List Guess} {x y : Nat} {b : Bool} {r : Int} (hw : 2 ≤ w) (hl : l.length = w * h) (hk : GOk w l) (hx : x < w) (hy : y < h) (hs : shown r = true) : (textL w h l x y b (cellsM r)).length = w * h ∧ GOk w (textL w h l x y b (cellsM r)) := by
  have hn := cellsM_rng hs
  have hc := isCell_cells hs
  have go : ∀ (m : List Guess) (X Y : Nat), m.length = w * h → GOk w m → Y < h → X + (cellsM r).length ≤ w → (layB w m (Y * w + X) (cellsM r)).length = w * h ∧ GOk w (layB w m (Y * w + X) (cellsM r)) := fun m X Y h1 h2 h3 h4 => by
    have := row_in h3 h4
    exact ⟨by rw [layB_len (by omega), h1], layB_ok hw h1 h2 (by omega) hc (cells_whole w Y X r hs h4)⟩
  unfold textL
  split
  · split
    · exact go l 0 (y + 1) hl hk (by omega) (by omega)
    · exact go (upB w l) 0 y (upB_len' (by omega) hl) (upB_ok hw (by omega) hl hk) hy (by omega)
  · exact go l x y hl hk hy (by omega)
theorem listK_ok {w h : Nat} {l : List Guess} {x y : Nat} {b : Bool} {c : Cmd} (hw : 2 ≤ w) (hl : l.length = w * h) (hk : GOk w l) (hx : x < w) (hy : y < h) (hc : isCmd c = true) : (listK w h l x y b c).length = w * h ∧ GOk w (listK w h l x y b c) := by
  have ha := row_in (n := w - x) hy (show x + (w - x) ≤ w by omega)
  rcases cmd_ways hc with ⟨r, rfl, hs⟩ | ⟨a, d, rfl, _⟩ | ⟨k, a, rfl, hk', _⟩ | ⟨k, rfl, hk'⟩
  · exact textL_ok hw hl hk hx hy hs
  · exact ⟨hl, hk⟩
  · rcases hk' with rfl | rfl | rfl | rfl <;> exact ⟨hl, hk⟩
  · rcases hk' with rfl | rfl | rfl | rfl | rfl | rfl
    · show (layB w l (y * w + x) (List.replicate (w - x) (32, 0))).length = w * h ∧ GOk w (layB w l (y * w + x) (List.replicate (w - x) (32, 0)))
      exact ⟨by rw [layB_len (by simp; omega), hl], layB_ok hw hl hk (by simp; omega) (isCell_rep _) (whole_rep _ _ _)⟩
    · show (layB w l (y * w + x) (List.replicate (l.length - (y * w + x)) (32, 0))).length = w * h ∧ GOk w (layB w l (y * w + x) (List.replicate (l.length - (y * w + x)) (32, 0)))
      exact ⟨by rw [layB_len (by simp; omega), hl], layB_ok hw hl hk (by simp; omega) (isCell_rep _) (whole_rep _ _ _)⟩
    · exact ⟨hl, hk⟩
    · show (if y + 1 < h then l else upB w l).length = w * h ∧ GOk w (if y + 1 < h then l else upB w l)
      split
      · exact ⟨hl, hk⟩
      · exact ⟨upB_len' (by omega) hl, upB_ok hw (by omega) hl hk⟩
    · exact ⟨hl, hk⟩
    · exact ⟨hl, hk⟩
/-- the cursor stays right -/
theorem curK_ok {w h x y : Int} {b : Bool} {c : Cmd} (hw : 2 ≤ w ∧ w ≤ 80 ∧ 1 ≤ h ∧ h ≤ 24) (hx : 0 ≤ x ∧ x < w) (hy : 0 ≤ y ∧ y < h) (hb : b = true → x = w - 1) (hc : isCmd c = true) : (0 ≤ (curK w h x y b c).1 ∧ (curK w h x y b c).1 < w ∧ 0 ≤ (curK w h x y b c).2.1 ∧ (curK w h x y b c).2.1 < h) ∧ ((curK w h x y b c).2.2 = true → (curK w h x y b c).1 = w - 1) := by
  obtain ⟨w', rfl⟩ := Int.eq_ofNat_of_zero_le (show 0 ≤ w by omega)
  obtain ⟨h', rfl⟩ := Int.eq_ofNat_of_zero_le (show 0 ≤ h by omega)
  have hn : okT w' h' (List.replicate (w' * h') (32, 0)) x y b = true := okT_iff.2 ⟨newR_ok (by omega) (by omega) (by omega) (by omega), ⟨hx.1, hx.2, hy.1, hy.2⟩, hb⟩
  have h1 := doK_ok hn hc
  have h2 := doK_cur w' h' (List.replicate (w' * h') (32, 0)) x y b c
  have h3 := doK_sides w' h' (List.replicate (w' * h') (32, 0)) x y b c
  obtain ⟨_, k2, k3⟩ := okT_iff.1 h1
  rw [h3.1, h3.2, h2] at k2
  rw [h3.1, h2] at k3
  exact ⟨k2, k3⟩
theorem doB_no {b : Bel} {c : Cmd} (h : ¬ (okBl b = true ∧ isCmd c = true)) : doB b c = (noB, 1) := if_neg h
theorem doB_err {b : Bel} {c : Cmd} (h1 : okBl b = true) (h2 : isCmd c = true) : (doB b c).2 = 0 := by
  obtain ⟨w, h, l, x, y, bb, s⟩ := b
  rw [doB, if_pos ⟨h1, h2⟩]
  obtain ⟨w', h', rfl, rfl, a1, a2, a3, a4, _⟩ := okBe_iff.1 h1
  split
  · show (newB w' h').2 = 0
    rw [newB, if_pos (by simp [sidesM]; omega)]
  · split <;> rfl
theorem doBK_ok {w h : Int} {l : List Guess} {x y : Int} {b s : Bool} {c : Cmd} (h1 : okBe w h l x y b s = true) (hc : isCmd c = true) : okBl (doBK w h l x y b c) = true := by
  obtain ⟨w, h, rfl, rfl, w2, w3, w4, w5, hl, hk, p1, p2⟩ := okBe_iff.1 h1
  obtain ⟨hx, hy, hb⟩ : (0 ≤ x ∧ x < w) ∧ (0 ≤ y ∧ y < h) ∧ (b = true → x = w - 1) := by
    cases s with
    | true => obtain ⟨a, b, c, d, e⟩ := p1 rfl; exact ⟨⟨a, b⟩, ⟨c, d⟩, e⟩
    | false => obtain ⟨rfl, rfl, rfl⟩ := p2 rfl; exact ⟨⟨by omega, by omega⟩, ⟨by omega, by omega⟩, fun h => by cases h⟩
  obtain ⟨k1, k2⟩ := listK_ok (b := b) (x := x.toNat) (y := y.toNat) w2 hl hk (by omega) (by omega) hc
  obtain ⟨c1, c2⟩ := curK_ok (w := w) (h := h) (x := x) (y := y) (b := b) ⟨by omega, by omega, by omega, by omega⟩ hx hy hb hc
  refine okBe_iff.2 ⟨w, h, rfl, rfl, w2, w3, w4, w5, ?_, ?_, fun _ => ⟨c1.1, c1.2.1, c1.2.2.1, c1.2.2.2, c2⟩, fun h => by cases h⟩
  · show (listK (w : Int).toNat (h : Int).toNat l x.toNat y.toNat b c).length = w * h
    simpa using k1
  · show GOk w (listK (w : Int).toNat (h : Int).toNat l x.toNat y.toNat b c)
    simpa using k2
theorem doB_ok {b : Bel} {c : Cmd} (h1 : okBl b = true) (h2 : isCmd c = true) : okBl (doB b c).1 = true := by
  obtain ⟨w, h, l, x, y, bb, s⟩ := b
  rw [doB, if_pos ⟨h1, h2⟩]
  split
  · obtain ⟨w', h', rfl, rfl, a1, a2, a3, a4, _⟩ := okBe_iff.1 h1
    exact newB_ok (by simp [sidesM]; omega)
  · split
    · exact h1
    · exact doBK_ok h1 h2
end Go.Proofs.YtgfmjmfphmjdkaaDoor
namespace Go.Proofs.YtgfmjmfphmjdkaaDoor
set_option linter.unusedSimpArgs false
set_option linter.unusedVariables false
set_option linter.unusedSectionVars false
set_option maxHeartbeats 4000000
open Go Go.RowKit
set_option maxRecDepth 100000
/-- what a command touches -/
def goesDown (w x : Int) (b : Bool) (c : Cmd) : Bool := decide (c.1 = 10) || (decide (c.1 = 1) && (b || decide (w < x + (cellsM c.2.2.2).length)))
noncomputable def touchB (b : Bel) (c : Cmd) : Int × Int :=
  if ¬ (okBl b = true ∧ isCmd c = true ∧ chg c.1 = true) then (0, 0)
  else if b.2.2.2.2.2.2 = false ∨ (goesDown b.1 b.2.2.2.1 b.2.2.2.2.2.1 c = true ∧ b.2.2.2.2.1 = b.2.1 - 1) then (0, b.1 * b.2.1)
  else if c.1 = 10 then (0, 0)
  else
    let y := if goesDown b.1 b.2.2.2.1 b.2.2.2.2.2.1 c = true then b.2.2.2.2.1 + 1 else b.2.2.2.2.1
    let x := if goesDown b.1 b.2.2.2.1 b.2.2.2.2.2.1 c = true then 0 else b.2.2.2.1
    (y * b.1 + max (x - 1) 0, if c.1 = 7 then (y + 1) * b.1 else if c.1 = 8 then b.1 * b.2.1 else y * b.1 + min b.1 (x + (cellsM c.2.2.2).length + 1))
/-- the belief of a terminal -/
def ofL (l : List Cell) : List Guess := l.map fun c => (c, true)
noncomputable def ofB (t : Tm) : Bel × Int := if okTm t = true then ((t.1, t.2.1, ofL t.2.2.1, t.2.2.2.1, t.2.2.2.2.1, t.2.2.2.2.2, true), 0) else (noB, 1)
theorem ofL_at {l : List Cell} {i : Nat} (h : i < l.length) : gAt (ofL l) i = (cAt l i, true) := gAt_map h
theorem ofL_len (l : List Cell) : (ofL l).length = l.length := by simp [ofL]
theorem of_ok {t : Tm} (h : okTm t = true) : okBl (ofB t).1 = true := by
  obtain ⟨w, h', l, x, y, b⟩ := t
  rw [ofB, if_pos h]
  obtain ⟨g1, ⟨g2, g3, g4, g5⟩, g6⟩ := okT_iff.1 h
  obtain ⟨w, h', rfl, rfl, w2, w3, w4, w5, hlen, hall⟩ := okG_nat g1
  refine okBe_iff.2 ⟨w, h', rfl, rfl, w2, w3, w4, w5, by rw [ofL_len]; exact hlen, gOk_of fun i hi => ?_, fun _ => ⟨g2, g3, g4, g5, g6⟩, fun z => (by cases z)⟩
  rw [ofL_len] at hi
  have hc := hall i hi
  have hm := Nat.mod_lt i (show 0 < w by omega)
  have hlo := lost_false.1 hc.2
  rw [ofL_at hi]
  refine ⟨fun z => (by simp at z), fun _ => hc.1, fun z => ?_, fun z => ?_⟩
  · obtain ⟨a1, a2⟩ := hlo.1 z
    refine ⟨by omega, fun _ => ?_⟩
    rw [ofL_at (ok_right (h := h') (by omega) w4 hlen hi hc.2 z), a2]
  · obtain ⟨a1, a2⟩ := hlo.2 z
    refine ⟨by omega, fun _ => ?_⟩
    rw [ofL_at (by omega), a2]
end Go.Proofs.YtgfmjmfphmjdkaaDoor
