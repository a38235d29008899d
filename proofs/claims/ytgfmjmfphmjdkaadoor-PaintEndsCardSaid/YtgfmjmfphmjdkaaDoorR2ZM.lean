/- Several texts in one: see the comment ahead of each. No condition. -/
import Derived.Test.YtgfmjmfphmjdkaaDoorR2ZG
import Derived.Test.YtgfmjmfphmjdkaaDoorR2ZS
import Derived.Test.YtgfmjmfphmjdkaaDoorR2ZB
/- Layer 7 (term): terminals, as types, and what commands do to them, plainly. No condition. -/
namespace Go.Proofs.YtgfmjmfphmjdkaaDoor
set_option linter.unusedSimpArgs false
set_option linter.unusedVariables false
set_option linter.unusedSectionVars false
set_option maxHeartbeats 4000000
section
open Go Go.RowKit
set_option maxRecDepth 100000
theorem us_term : Tryd.prog.underlying 29 = some (.struct #[{ name := "G", type := 27, offset := 0, embedded := false, tag := "", pkgPath := "", byteOffset := 0 }, { name := "X", type := 3, offset := 3, embedded := false, tag := "", pkgPath := "", byteOffset := 40 }, { name := "Y", type := 3, offset := 4, embedded := false, tag := "", pkgPath := "", byteOffset := 48 }, { name := "Wrap", type := 4, offset := 5, embedded := false, tag := "", pkgPath := "", byteOffset := 56 }]) := Tryd.underlying29
abbrev termA (w h : Int) (l : List Cell) (x y : Int) (b : Bool) : AV := aggA [I w, I h, slA cellT l, I x, I y, B b]
instance cStTm : StC 29 [I 0, I 0, vA (.slice none 0 0), I 0, I 0, B false] [(0, 3), (3, 1), (4, 1), (5, 1)] := ⟨StT.mk' _ [.int .i64 0, .int .i64 0, .slice none 0 0, .int .i64 0, .int .i64 0, .bool false] us_term (by kernel_rfl) (by kernel_rfl)⟩
instance cFlTm0 : FldC 29 0 0 27 := ⟨_, _, us_term, rfl, rfl, rfl⟩
instance cFlTm1 : FldC 29 1 3 3 := ⟨_, _, us_term, rfl, rfl, rfl⟩
instance cFlTm2 : FldC 29 2 4 3 := ⟨_, _, us_term, rfl, rfl, rfl⟩
instance cFlTm3 : FldC 29 3 5 4 := ⟨_, _, us_term, rfl, rfl, rfl⟩
instance cAgTm : AggC 29 true := ⟨agg_yes (by kernel_rfl)⟩
instance cSzTm : SzC 29 6 := ⟨size_of (by kernel_rfl)⟩
instance cSpTm : SpC 29 := ⟨size_pos (n := 5) (by kernel_rfl)⟩
instance cAlTm : AlC 29 (.agg #[.int .i64 0, .int .i64 0, .slice none 0 0, .int .i64 0, .int .i64 0, .bool false]) [.int .i64 0, .int .i64 0, .slice none 0 0, .int .i64 0, .int .i64 0, .bool false] [I 0, I 0, vA (.slice none 0 0), I 0, I 0, B false] := ⟨by kernel_rfl, rfl, rfl⟩
instance cSzBool : SzC 4 1 := ⟨size_of (by kernel_rfl)⟩
theorem us_scr : Tryd.prog.underlying 98 = some (.struct #[{ name := "t", type := 29, offset := 0, embedded := false, tag := "", pkgPath := "typebar/term", byteOffset := 0 }]) := Tryd.underlying98
instance cStSc : StC 98 [I 0, I 0, vA (.slice none 0 0), I 0, I 0, B false] [(0, 6)] := ⟨StT.mk' _ [.int .i64 0, .int .i64 0, .slice none 0 0, .int .i64 0, .int .i64 0, .bool false] us_scr (by kernel_rfl) (by kernel_rfl)⟩
instance cFlSc0 : FldC 98 0 0 29 := ⟨_, _, us_scr, rfl, rfl, rfl⟩
instance cSzSc : SzC 98 6 := ⟨size_of (by kernel_rfl)⟩
instance cAlSc : AlC 98 (.agg #[.int .i64 0, .int .i64 0, .slice none 0 0, .int .i64 0, .int .i64 0, .bool false]) [.int .i64 0, .int .i64 0, .slice none 0 0, .int .i64 0, .int .i64 0, .bool false] [I 0, I 0, vA (.slice none 0 0), I 0, I 0, B false] := ⟨by kernel_rfl, rfl, rfl⟩
/-- a screen that is at work -/
abbrev scO (p : Nat) (w h : Int) (l : List Cell) (x y : Int) (b : Bool) : Own := varO p 98 [I w, I h, slA cellT l, I x, I y, B b]
/-! ### plain laws -/
abbrev Tm := Int × Int × List Cell × Int × Int × Bool
abbrev tmA (t : Tm) : AV := termA t.1 t.2.1 t.2.2.1 t.2.2.2.1 t.2.2.2.2.1 t.2.2.2.2.2
/-- is a terminal right? -/
noncomputable def okT (w h : Int) (l : List Cell) (x y : Int) (b : Bool) : Bool := okG w h l && decide (0 ≤ x ∧ x < w ∧ 0 ≤ y ∧ y < h) && (!b || decide (x = w - 1))
theorem okT_iff {w h : Int} {l : List Cell} {x y : Int} {b : Bool} : okT w h l x y b = true ↔ okG w h l = true ∧ (0 ≤ x ∧ x < w ∧ 0 ≤ y ∧ y < h) ∧ (b = true → x = w - 1) := by
  simp only [okT, Bool.and_eq_true, decide_eq_true_eq, Bool.or_eq_true, Bool.not_eq_true']
  cases b <;> simp [and_assoc]
def inM (n most : Int) : Int := max 0 (min n most)
theorem inM_rng {n most : Int} (h : 0 ≤ most) : 0 ≤ inM n most ∧ inM n most ≤ most := by unfold inM; omega
theorem inM_in {n most : Int} (h1 : 0 ≤ n) (h2 : n ≤ most) : inM n most = n := by unfold inM; omega
noncomputable def downL (w h : Int) (l : List Cell) (y : Int) : List Cell × Int := if y = h - 1 then (scrollR w h l, y) else (l, y + 1)
noncomputable def textAt (w h : Int) (l : List Cell) (x y r : Int) : Tm := (w, h, (putR w h l x y r).1.2.2, inM (x + (cellsM r).length) (w - 1), y, decide (x + (cellsM r).length = w))
noncomputable def textK (w h : Int) (l : List Cell) (x y : Int) (b : Bool) (r : Int) : Tm :=
  if b = true ∨ w < x + (cellsM r).length then textAt w h (downL w h l y).1 0 (downL w h l y).2 r else textAt w h l x y r
def goK (w h : Int) (l : List Cell) (x y : Int) : Tm := (w, h, l, inM x (w - 1), inM y (h - 1), false)
/-- what a right command does to a right terminal -/
noncomputable def doK (w h : Int) (l : List Cell) (x y : Int) (b : Bool) (c : Cmd) : Tm :=
  if c.1 = 1 then textK w h l x y b c.2.2.2
  else if c.1 = 12 then (w, h, l, x, y, b)
  else if c.1 = 2 then goK w h l c.2.2.1 c.2.1
  else if c.1 = 3 then goK w h l x (y - c.2.1)
  else if c.1 = 4 then goK w h l x (y + c.2.1)
  else if c.1 = 5 then goK w h l (x + c.2.1) y
  else if c.1 = 6 then goK w h l (x - c.2.1) y
  else if c.1 = 7 then (w, h, (blankR w h l (y * w + x) ((y + 1) * w)).1.2.2, x, y, false)
  else if c.1 = 8 then (w, h, (blankR w h l (y * w + x) l.length).1.2.2, x, y, false)
  else if c.1 = 9 then goK w h l 0 y
  else if c.1 = 10 then (w, h, (downL w h l y).1, x, (downL w h l y).2, false)
  else goK w h l (x - 1) y
def noT : Tm := (0, 0, [], 0, 0, false)
noncomputable def doT (t : Tm) (c : Cmd) : Tm × Int := if okT t.1 t.2.1 t.2.2.1 t.2.2.2.1 t.2.2.2.2.1 t.2.2.2.2.2 = true ∧ isCmd c = true then (doK t.1 t.2.1 t.2.2.1 t.2.2.2.1 t.2.2.2.2.1 t.2.2.2.2.2 c, 0) else (noT, 1)
noncomputable abbrev okTm (t : Tm) : Bool := okT t.1 t.2.1 t.2.2.1 t.2.2.2.1 t.2.2.2.2.1 t.2.2.2.2.2
theorem doT_ok {t : Tm} {c : Cmd} (h1 : okTm t = true) (h2 : isCmd c = true) : doT t c = (doK t.1 t.2.1 t.2.2.1 t.2.2.2.1 t.2.2.2.2.1 t.2.2.2.2.2 c, 0) := if_pos ⟨h1, h2⟩
theorem doT_no {t : Tm} {c : Cmd} (h : ¬ (okTm t = true ∧ isCmd c = true)) : doT t c = (noT, 1) := if_neg h
/-! ### what comes of a right terminal is right -/
theorem okG_len {w h : Int} {l : List Cell} (hok : okG w h l = true) : (l.length : Int) = w * h ∧ l.length ≤ 1920 ∧ 2 ≤ w ∧ w ≤ 80 ∧ 1 ≤ h ∧ h ≤ 24 := by
  obtain ⟨w', h', rfl, rfl, h1, h2, h3, h4, h5, _⟩ := okG_nat hok
  have : w' * h' ≤ 80 * 24 := Nat.mul_le_mul h2 h4
  exact ⟨by rw [h5]; simp, by omega, by omega, by omega, by omega, by omega⟩
theorem downL_ok {w h : Int} {l : List Cell} {y : Int} (hok : okG w h l = true) (hy : 0 ≤ y ∧ y < h) : okG w h (downL w h l y).1 = true ∧ 0 ≤ (downL w h l y).2 ∧ (downL w h l y).2 < h := by
  unfold downL
  split
  · exact ⟨(scrollR_facts w h l hok).2, hy.1, hy.2⟩
  · exact ⟨hok, by simp only; omega, by simp only; omega⟩
theorem cellsM_rng {r : Int} (hs : shown r = true) : 1 ≤ (cellsM r).length ∧ (cellsM r).length ≤ 2 := by
  rw [cellsM_shown hs]; split <;> simp
theorem putR_shown {w h : Int} {l : List Cell} {x y r : Int} (hok : okG w h l = true) (hx : 0 ≤ x ∧ x < w) (hy : 0 ≤ y ∧ y < h) (hs : shown r = true) (hk : x + (cellsM r).length ≤ w) : putR w h l x y r = ((w, h, layG l (y.toNat * w.toNat + x.toNat) (cellsM r)), 0) ∧ okG w h (layG l (y.toNat * w.toNat + x.toNat) (cellsM r)) = true := by
  have e : putR w h l x y r = ((w, h, layG l (y.toNat * w.toNat + x.toNat) (cellsM r)), 0) := if_pos ⟨⟨hok, hx.1, hx.2, hy.1, hy.2⟩, hs, hk⟩
  have := putR_ok w h l x y r (by rw [e])
  rw [e] at this
  exact ⟨e, this⟩
theorem textAt_ok {w h : Int} {l : List Cell} {x y r : Int} (hok : okG w h l = true) (hx : 0 ≤ x ∧ x < w) (hy : 0 ≤ y ∧ y < h) (hs : shown r = true) (hk : x + (cellsM r).length ≤ w) : okTm (textAt w h l x y r) = true := by
  obtain ⟨e1, e2⟩ := putR_shown hok hx hy hs hk
  have hl := cellsM_rng hs
  have hg := okG_len hok
  have hi := inM_rng (n := x + (cellsM r).length) (most := w - 1) (by omega)
  have : okT w h (layG l (y.toNat * w.toNat + x.toNat) (cellsM r)) (inM (x + (cellsM r).length) (w - 1)) y (decide (x + (cellsM r).length = w)) = true :=
    okT_iff.2 ⟨e2, ⟨hi.1, by omega, hy.1, hy.2⟩, fun h => by have := of_decide_eq_true h; unfold inM; omega⟩
  unfold textAt
  rw [e1]
  exact this
theorem textK_ok {w h : Int} {l : List Cell} {x y : Int} {b : Bool} {r : Int} (hok : okT w h l x y b = true) (hs : shown r = true) : okTm (textK w h l x y b r) = true := by
  obtain ⟨h1, ⟨h2, h3, h4, h5⟩, h6⟩ := okT_iff.1 hok
  have hl := cellsM_rng hs
  have hg := okG_len h1
  unfold textK
  split
  · obtain ⟨d1, d2, d3⟩ := downL_ok h1 ⟨h4, h5⟩
    exact textAt_ok d1 ⟨by omega, by omega⟩ ⟨d2, d3⟩ hs (by omega)
  · exact textAt_ok h1 ⟨h2, h3⟩ ⟨h4, h5⟩ hs (by omega)
theorem goK_ok {w h : Int} {l : List Cell} (hok : okG w h l = true) (x y : Int) : okTm (goK w h l x y) = true := by
  have hg := okG_len hok
  unfold goK
  have h1 := inM_rng (n := x) (most := w - 1) (by omega)
  have h2 := inM_rng (n := y) (most := h - 1) (by omega)
  have : okT w h l (inM x (w - 1)) (inM y (h - 1)) false = true := okT_iff.2 ⟨hok, ⟨h1.1, by omega, h2.1, by omega⟩, fun h => by cases h⟩
  exact this
/-- the place of a right terminal's cursor -/
theorem at_in {w h x y : Int} (hx : 0 ≤ x ∧ x < w) (hy : 0 ≤ y ∧ y < h) : 0 ≤ y * w + x ∧ y * w + x < (y + 1) * w ∧ (y + 1) * w ≤ w * h := by
  obtain ⟨w', rfl⟩ := Int.eq_ofNat_of_zero_le (show 0 ≤ w by omega)
  obtain ⟨h', rfl⟩ := Int.eq_ofNat_of_zero_le (show 0 ≤ h by omega)
  obtain ⟨x', rfl⟩ := Int.eq_ofNat_of_zero_le hx.1
  obtain ⟨y', rfl⟩ := Int.eq_ofNat_of_zero_le hy.1
  have h1 : (y' + 1) * w' ≤ h' * w' := Nat.mul_le_mul_right w' (by omega)
  have h2 : (y' + 1) * w' = y' * w' + w' := Nat.succ_mul y' w'
  have h3 : w' * h' = h' * w' := Nat.mul_comm _ _
  refine ⟨by omega, ?_, ?_⟩
  · have : (((y' + 1) * w' : Nat) : Int) = ((y' : Int) + 1) * w' := by simp
    have e2 : ((y' * w' : Nat) : Int) = (y' : Int) * w' := by simp
    omega
  · have : (((y' + 1) * w' : Nat) : Int) = ((y' : Int) + 1) * w' := by simp
    have e2 : ((w' * h' : Nat) : Int) = (w' : Int) * h' := by simp
    omega
theorem blankR_in {w h : Int} {l : List Cell} {a b : Int} (hok : okG w h l = true) (h1 : 0 ≤ a) (h2 : a ≤ b) (h3 : b ≤ l.length) : blankR w h l a b = ((w, h, layG l a.toNat (List.replicate (b - a).toNat (32, 0))), 0) ∧ okG w h (layG l a.toNat (List.replicate (b - a).toNat (32, 0))) = true := by
  have e : blankR w h l a b = ((w, h, layG l a.toNat (List.replicate (b - a).toNat (32, 0))), 0) := if_pos ⟨hok, h1, h2, h3⟩
  have := blankR_ok w h l a b (by rw [e])
  rw [e] at this
  exact ⟨e, this⟩
/-- the ways of a right command -/
theorem cmd_ways {c : Cmd} (h : isCmd c = true) : (∃ r, c = (1, 0, 0, r) ∧ shown r = true) ∨ (∃ a b, c = (2, a, b, 0) ∧ 0 ≤ a ∧ a < 24 ∧ 0 ≤ b ∧ b < 80) ∨ (∃ k a, c = (k, a, 0, 0) ∧ (k = 3 ∨ k = 4 ∨ k = 5 ∨ k = 6) ∧ 1 ≤ a ∧ a ≤ 80) ∨ (∃ k, c = (k, 0, 0, 0) ∧ (k = 7 ∨ k = 8 ∨ k = 9 ∨ k = 10 ∨ k = 11 ∨ k = 12)) := by
  have hs := shape_of h
  generalize bytesB c = l at hs
  cases hs with
  | text n hs => exact .inl ⟨_, rfl, hs⟩
  | go a b ha hb => exact .inr (.inl ⟨_, _, rfl, by omega, by omega, by omega, by omega⟩)
  | one k hk => exact .inr (.inr (.inl ⟨_, _, rfl, by omega, by omega, by omega⟩))
  | move k a hk ha => exact .inr (.inr (.inl ⟨_, _, rfl, by omega, by omega, by omega⟩))
  | form k hk => exact .inr (.inr (.inr ⟨_, rfl, by omega⟩))
theorem doK_ok {w h : Int} {l : List Cell} {x y : Int} {b : Bool} {c : Cmd} (hok : okT w h l x y b = true) (hc : isCmd c = true) : okTm (doK w h l x y b c) = true := by
  obtain ⟨h1, ⟨h2, h3, h4, h5⟩, h6⟩ := okT_iff.1 hok
  have hg := okG_len h1
  have hat := at_in ⟨h2, h3⟩ ⟨h4, h5⟩
  have go := goK_ok h1
  rcases cmd_ways hc with ⟨r, rfl, hs⟩ | ⟨a, d, rfl, _⟩ | ⟨k, a, rfl, hk, _⟩ | ⟨k, rfl, hk⟩
  · exact textK_ok hok hs
  · exact go _ _
  · rcases hk with rfl | rfl | rfl | rfl <;> exact go _ _
  · rcases hk with rfl | rfl | rfl | rfl | rfl | rfl
    · obtain ⟨e1, e2⟩ := blankR_in (a := y * w + x) (b := (y + 1) * w) h1 hat.1 (by omega) (by omega)
      show okTm (w, h, (blankR w h l (y * w + x) ((y + 1) * w)).1.2.2, x, y, false) = true
      rw [e1]; exact okT_iff.2 ⟨e2, ⟨h2, h3, h4, h5⟩, fun h => by cases h⟩
    · obtain ⟨e1, e2⟩ := blankR_in (a := y * w + x) (b := l.length) h1 hat.1 (by omega) (by omega)
      show okTm (w, h, (blankR w h l (y * w + x) l.length).1.2.2, x, y, false) = true
      rw [e1]; exact okT_iff.2 ⟨e2, ⟨h2, h3, h4, h5⟩, fun h => by cases h⟩
    · exact go _ _
    · obtain ⟨d1, d2, d3⟩ := downL_ok h1 ⟨h4, h5⟩
      exact okT_iff.2 ⟨d1, ⟨h2, h3, d2, d3⟩, fun h => by cases h⟩
    · exact go _ _
    · exact hok
end
/- Layer 7 (term): the program's New, Is, and what a screen at work does. No condition. -/
section
open Go Go.RowKit
variable {T0 : Gh} [TabS T0]
set_option maxRecDepth 200000
attribute [local irreducible] thenA inBlockA AW AL AO QY varO rowO rsA Opd OpdN vA gvA tupA aggA slA slcA ipA rpA EqK LnK IxK LdK FaK FdK
theorem f_termNew (w h : Int) : AP Tryd.prog T0 18 [I w, I h] (tupA [termA (newR w h).1.1 (newR w h).1.2.1 (newR w h).1.2.2 0 0 false, I (newR w h).2]) := by
  have c1 : AP Tryd.prog T0 32 [I w, I h] (tupA [gridA (newR w h).1.1 (newR w h).1.2.1 (newR w h).1.2.2, I (newR w h).2]) := f_New w h
  refine af_intro Tryd.func18 rfl (by decide) Tryd.ntmps18 rfl ?_
  repeat' (first
  | (apply aw_regionN; (case hn => rfl); (case hm => kernel_rfl)) | refine g5_ ?_ | (apply an_all; (case hL => rfl); (case hne => rfl)) | exact ai_nil | apply ai_cons | (apply at_i; (case ho => rfl)) | (apply j_first; exact ext1_) | (apply j_next; (case h => exact ext_); (case hk => exact wk_); (case hc => rfl)) | refine g20_ ?_
    | refine s_op ?_ (hy := by first | (apply ay_nilp rfl; exact oo_; done) | (apply ay_nilp rfl; exact oog_; done)
                                       | (apply ay_maxi rfl; exact oo_; exact oo_) | (apply ay_mini rfl; exact oo_; exact oo_) | fail)
  | refine g21_ ?_
    | refine s_opg ?_ (hy := by intro hk hk2; first | (apply ay_nilp rfl; exact oo_; done) | (apply ay_nilp rfl; exact oog_; done)
                                                      | (apply ay_maxi rfl; exact oo_; exact oo_) | (apply ay_mini rfl; exact oo_; exact oo_) | fail)
  | refine sw_ ?_ | (refine aw_if ?_ ?_ <;> intro hb <;> try exact no_) | (refine sx_ ?_ <;> intro bb) | (refine su_ ?_ <;> intro u hu1 hu2) | fail)
  exact ⟨_, [], rl_, List.nil_sublist _, Sub.refl _, rfl⟩
theorem okT_bool (w h : Int) (l : List Cell) (x y : Int) (b : Bool) : okT w h l x y b = (okG w h l && decide (0 ≤ x) && decide (x < w) && decide (0 ≤ y) && decide (y < h) && (!b || decide (x = w - 1))) := by
  rw [Bool.eq_iff_iff]
  simp only [okT, Bool.and_eq_true, decide_eq_true_eq, and_assoc]
theorem f_termIs (w h : Int) (l : List Cell) (x y : Int) (b : Bool) : AP Tryd.prog T0 30 [termA w h l x y b] (B (okT w h l x y b)) := by
  cases hg : okG w h l with
  | false =>
    have c1 : AP Tryd.prog T0 46 [gridA w h l] (B false) := hg ▸ f_IsA w h l
    have e : okT w h l x y b = false := by rw [okT, hg]; rfl
    rw [e]
    refine af_intro Tryd.func30 rfl (by decide) Tryd.ntmps30 rfl ?_
    repeat' (first
    | (apply aw_regionN; (case hn => rfl); (case hm => kernel_rfl)) | refine g5_ ?_ | (apply an_all; (case hL => rfl); (case hne => rfl)) | exact ai_nil | apply ai_cons | (apply at_i; (case ho => rfl)) | (apply j_first; exact ext1_) | (apply j_next; (case h => exact ext_); (case hk => exact wk_); (case hc => rfl)) | refine g20_ ?_
      | refine s_op ?_ (hy := by first | (apply ay_nilp rfl; exact oo_; done) | (apply ay_nilp rfl; exact oog_; done)
                                         | (apply ay_maxi rfl; exact oo_; exact oo_) | (apply ay_mini rfl; exact oo_; exact oo_) | fail)
    | refine g21_ ?_
      | refine s_opg ?_ (hy := by intro hk hk2; first | (apply ay_nilp rfl; exact oo_; done) | (apply ay_nilp rfl; exact oog_; done)
                                                        | (apply ay_maxi rfl; exact oo_; exact oo_) | (apply ay_mini rfl; exact oo_; exact oo_) | fail)
    | refine sw_ ?_ | (refine aw_if ?_ ?_ <;> intro hb <;> try exact no_) | (refine sx_ ?_ <;> intro bb) | (refine su_ ?_ <;> intro u hu1 hu2) | fail)
    all_goals first | exact ⟨_, [], rl_, List.nil_sublist _, Sub.refl _, rfl⟩ | (exfalso; simp at hb; done)
  | true =>
    have c1 : AP Tryd.prog T0 46 [gridA w h l] (B true) := hg ▸ f_IsA w h l
    have hl := okG_len hg
    refine af_intro Tryd.func30 rfl (by decide) Tryd.ntmps30 rfl ?_
    repeat' (first
    | (apply aw_regionN; (case hn => rfl); (case hm => kernel_rfl)) | refine g5_ ?_ | (apply an_all; (case hL => rfl); (case hne => rfl)) | exact ai_nil | apply ai_cons | (apply at_i; (case ho => rfl)) | (apply j_first; exact ext1_) | (apply j_next; (case h => exact ext_); (case hk => exact wk_); (case hc => rfl)) | refine g20_ ?_
      | refine s_op ?_ (hy := by first | (apply ay_nilp rfl; exact oo_; done) | (apply ay_nilp rfl; exact oog_; done)
                                         | (apply ay_maxi rfl; exact oo_; exact oo_) | (apply ay_mini rfl; exact oo_; exact oo_) | fail)
    | refine g21_ ?_
      | refine s_opg ?_ (hy := by intro hk hk2; first | (apply ay_nilp rfl; exact oo_; done) | (apply ay_nilp rfl; exact oog_; done)
                                                        | (apply ay_maxi rfl; exact oo_; exact oo_) | (apply ay_mini rfl; exact oo_; exact oo_) | fail)
    | refine sw_ ?_ | (refine aw_if ?_ ?_ <;> intro hb <;> try exact no_) | (refine sx_ ?_ <;> intro bb) | (refine su_ ?_ <;> intro u hu1 hu2) | fail)
    all_goals first | (exfalso; simp at hb; done) | (refine ⟨_, [], rl_, List.nil_sublist _, Sub.eq (congrArg B ?_), rfl⟩; rw [okT_bool, hg]; first | (simp; omega) | (cases b <;> simp <;> omega))
/-- the cursor is set -/
theorem f_to (p : Nat) (w h : Int) (l : List Cell) (x y : Int) (b : Bool) (X Y : Int) (hr : 2 ≤ w ∧ w ≤ 80 ∧ 1 ≤ h ∧ h ≤ 24) : AF Tryd.prog T0 73 [ptA p, I X, I Y] [scO p w h l x y b] (fun _ M' => M' = [scO p w h l (inM X (w - 1)) (inM Y (h - 1)) b]) := by
  have c1 : True := trivial
  refine af_intro Tryd.func73 rfl (by decide) Tryd.ntmps73 rfl ?_
  repeat' (first
  | (apply aw_regionN; (case hn => rfl); (case hm => kernel_rfl)) | refine g5_ ?_ | (apply an_all; (case hL => rfl); (case hne => rfl)) | exact ai_nil | apply ai_cons | (apply at_i; (case ho => rfl)) | (apply j_first; exact ext1_) | (apply j_next; (case h => exact ext_); (case hk => exact wk_); (case hc => rfl)) | refine g20_ ?_
    | refine s_op ?_ (hy := by first | (apply ay_nilp rfl; exact oo_; done) | (apply ay_nilp rfl; exact oog_; done)
                                       | (apply ay_maxi rfl; exact oo_; exact oo_) | (apply ay_mini rfl; exact oo_; exact oo_) | fail)
  | refine g21_ ?_
    | refine s_opg ?_ (hy := by intro hk hk2; first | (apply ay_nilp rfl; exact oo_; done) | (apply ay_nilp rfl; exact oog_; done)
                                                      | (apply ay_maxi rfl; exact oo_; exact oo_) | (apply ay_mini rfl; exact oo_; exact oo_) | fail)
  | refine sw_ ?_ | (refine aw_if ?_ ?_ <;> intro hb <;> try exact no_) | (refine sx_ ?_ <;> intro bb) | (refine su_ ?_ <;> intro u hu1 hu2) | fail)
  exact ⟨_, _, rl_, sl_, rfl⟩
theorem f_termDown (p : Nat) (w h : Int) (l : List Cell) (x y : Int) (b : Bool) (c : Cmd) (hg : okG w h l = true) (hy : 0 ≤ y ∧ y < h) : AF Tryd.prog T0 59 [ptA p, cmdA c] [scO p w h l x y b] (fun _ M' => M' = [scO p w h (downL w h l y).1 x (downL w h l y).2 b]) := by
  have hl := okG_len hg
  have c1 := f_Scroll (T0 := T0) w h l (by omega)
  by_cases e : y = h - 1
  · rw [downL, if_pos e]
    refine af_intro Tryd.func59 rfl (by decide) Tryd.ntmps59 rfl ?_
    repeat' (first
    | (apply aw_regionN; (case hn => rfl); (case hm => kernel_rfl)) | refine g5_ ?_ | (apply an_all; (case hL => rfl); (case hne => rfl)) | exact ai_nil | apply ai_cons | (apply at_i; (case ho => rfl)) | (apply j_first; exact ext1_) | (apply j_next; (case h => exact ext_); (case hk => exact wk_); (case hc => rfl)) | refine g20_ ?_
      | refine s_op ?_ (hy := by first | (apply ay_nilp rfl; exact oo_; done) | (apply ay_nilp rfl; exact oog_; done)
                                         | (apply ay_maxi rfl; exact oo_; exact oo_) | (apply ay_mini rfl; exact oo_; exact oo_) | fail)
    | refine g21_ ?_
      | refine s_opg ?_ (hy := by intro hk hk2; first | (apply ay_nilp rfl; exact oo_; done) | (apply ay_nilp rfl; exact oog_; done)
                                                        | (apply ay_maxi rfl; exact oo_; exact oo_) | (apply ay_mini rfl; exact oo_; exact oo_) | fail)
    | refine sw_ ?_ | (refine aw_if ?_ ?_ <;> intro hb <;> try exact no_) | (refine sx_ ?_ <;> intro bb) | (refine su_ ?_ <;> intro u hu1 hu2) | fail)
    all_goals first | (exfalso; omega) | exact ⟨_, _, rl_, .cons _ (.refl _), rfl⟩
  · rw [downL, if_neg e]
    refine af_intro Tryd.func59 rfl (by decide) Tryd.ntmps59 rfl ?_
    repeat' (first
    | (apply aw_regionN; (case hn => rfl); (case hm => kernel_rfl)) | refine g5_ ?_ | (apply an_all; (case hL => rfl); (case hne => rfl)) | exact ai_nil | apply ai_cons | (apply at_i; (case ho => rfl)) | (apply j_first; exact ext1_) | (apply j_next; (case h => exact ext_); (case hk => exact wk_); (case hc => rfl)) | refine g20_ ?_
      | refine s_op ?_ (hy := by first | (apply ay_nilp rfl; exact oo_; done) | (apply ay_nilp rfl; exact oog_; done)
                                         | (apply ay_maxi rfl; exact oo_; exact oo_) | (apply ay_mini rfl; exact oo_; exact oo_) | fail)
    | refine g21_ ?_
      | refine s_opg ?_ (hy := by intro hk hk2; first | (apply ay_nilp rfl; exact oo_; done) | (apply ay_nilp rfl; exact oog_; done)
                                                        | (apply ay_maxi rfl; exact oo_; exact oo_) | (apply ay_mini rfl; exact oo_; exact oo_) | fail)
    | refine sw_ ?_ | (refine aw_if ?_ ?_ <;> intro hb <;> try exact no_) | (refine sx_ ?_ <;> intro bb) | (refine su_ ?_ <;> intro u hu1 hu2) | fail)
    all_goals first | (exfalso; omega) | exact ⟨_, _, rl_, .cons _ (.refl _), rfl⟩
end
/- Layer 7 (term): the program's screen at work: signs, goings, blanks. No condition. -/
section
open Go Go.RowKit
variable {T0 : Gh} [TabS T0]
set_option maxRecDepth 200000
theorem AF.toM {f : FuncId} {As : List AV} {M : List Own} {m m' : Own} (h : AF Tryd.prog T0 f As M (fun _ M' => M' = [m])) (e : m = m') : AF Tryd.prog T0 f As M (fun _ M' => M' = [m']) := e ▸ h
attribute [local irreducible] thenA inBlockA AW AL AO QY varO rowO rsA Opd OpdN vA gvA tupA aggA slA slcA ipA rpA EqK LnK IxK LdK FaK FdK
theorem f_termText (p : Nat) (w h : Int) (l : List Cell) (x y : Int) (b : Bool) (k a d r : Int) (hok : okT w h l x y b = true) (hs : shown r = true) : AF Tryd.prog T0 50 [ptA p, cmdA (k, a, d, r)] [scO p w h l x y b]
    (fun _ M' => M' = [scO p w h (textK w h l x y b r).2.2.1 (textK w h l x y b r).2.2.2.1 (textK w h l x y b r).2.2.2.2.1 (textK w h l x y b r).2.2.2.2.2]) := by
  obtain ⟨h1, ⟨h2, h3, h4, h5⟩, h6⟩ := okT_iff.1 hok
  have hl := cellsM_rng hs
  have hg := okG_len h1
  by_cases hw : b = true ∨ w < x + (cellsM r).length
  · obtain ⟨d1, d2, d3⟩ := downL_ok h1 ⟨h4, h5⟩
    have hg2 := okG_len d1
    have cd := f_termDown (T0 := T0) p w h l x y b (k, a, d, r) h1 ⟨h4, h5⟩
    rw [textK, if_pos hw]
    obtain ⟨⟨l1, y1⟩, e1⟩ : ∃ z, z = downL w h l y := ⟨_, rfl⟩
    rw [← e1] at cd d1 d2 d3 hg2 ⊢
    simp only at cd d1 d2 d3 hg2 ⊢
    obtain ⟨e2, e3⟩ := putR_shown (l := l1) (x := 0) (y := y1) (r := r) d1 ⟨by omega, by omega⟩ ⟨d2, d3⟩ hs (by omega)
    obtain ⟨l2, hl2⟩ : ∃ z, z = layG l1 (y1.toNat * w.toNat + (0 : Int).toNat) (cellsM r) := ⟨_, rfl⟩
    rw [← hl2] at e2 e3
    have c1 : AP Tryd.prog T0 72 [gridA w h l1, I 0, I y1, R r] (tupA [gridA w h l2, I 0]) := (f_Put w h l1 0 y1 r (by omega)).to (by rw [e2]; rfl)
    have ct : AF Tryd.prog T0 73 [ptA p, I (0 + (cellsM r).length : Int), I y1] [scO p w h l2 0 y1 b] (fun _ M' => M' = [scO p w h l2 (inM (0 + (cellsM r).length) (w - 1)) y1 b]) := (f_to p w h l2 0 y1 b (0 + (cellsM r).length) y1 (by omega)).toM (by rw [inM_in d2 (by omega)])
    rw [textAt, e2]
    simp only
    have cw := f_Width (T0 := T0) r
    generalize (cellsM r).length = n at *
    clear e2 e3 hl2 e1
    refine af_intro Tryd.func50 rfl (by decide) Tryd.ntmps50 rfl ?_
    repeat' (first
    | (apply al_call1 rfl rfl rfl rfl (c := cd)
       case ha => exact os_
       case hM => exact pick_
       rintro _ _ rfl
       simp only [List.cons_append, List.nil_append, List.append_eq])
      | (apply al_call1 rfl rfl rfl rfl (c := ct)
         case ha => exact os_
         case hM => exact pick_
         rintro _ _ rfl
         simp only [List.cons_append, List.nil_append, List.append_eq])
    | (apply aw_regionD 21 25; (case hN => decide +kernel); (case hD => decide +kernel); (case hB => kernel_rfl); (case hm => kernel_rfl); (case hod => rfl); (case hl => rfl); (case hn => rfl); (case hsd => rfl); (case hb => rfl)) | (apply endD_; (case h2 => exact delf_)) | (apply aw_regionS; (case h2 => rfl); (case hD => decide +kernel); (case hB => decide +kernel); (case hg => decide +kernel); (case hm => kernel_rfl); (case hoL => rfl); (case hod => rfl)) | refine endS_ ?_ | (apply aw_regionN; (case hn => rfl); (case hm => kernel_rfl)) | refine g5_ ?_ | (apply an_all; (case hL => rfl); (case hne => rfl)) | exact ai_nil | apply ai_cons | (apply at_i; (case ho => rfl)) | (apply j_first; exact ext1_) | (apply j_next; (case h => exact ext_); (case hk => exact wk_); (case hc => rfl)) | refine g18_ ?_ | (apply aw_region1q (by rfl) (by kernel_rfl) (by kernel_rfl)) | refine g19_ ?_ | (refine aw_if ?_ ?_ <;> intro hb <;> try exact no_) | (refine sx_ ?_ <;> intro bb) | (refine su_ ?_ <;> intro u hu1 hu2) | fail)
    all_goals first | (exfalso; omega) | exact absurd hb hw | (exfalso; rcases hw with e | e <;> simp [e] at hb; done) | (exfalso; simp at hb; omega) | (refine ⟨_, _, rl_, (List.Sublist.cons_cons _ (List.nil_sublist _)), ?_⟩; first | rfl | (simp; done))
  · rw [textK, if_neg hw]
    have hk : x + (cellsM r).length ≤ w := by omega
    obtain ⟨e2, e3⟩ := putR_shown (l := l) (x := x) (y := y) (r := r) h1 ⟨h2, h3⟩ ⟨h4, h5⟩ hs hk
    obtain ⟨l2, hl2⟩ : ∃ z, z = layG l (y.toNat * w.toNat + x.toNat) (cellsM r) := ⟨_, rfl⟩
    rw [← hl2] at e2 e3
    have c1 : AP Tryd.prog T0 72 [gridA w h l, I x, I y, R r] (tupA [gridA w h l2, I 0]) := (f_Put w h l x y r (by omega)).to (by rw [e2]; rfl)
    have ct : AF Tryd.prog T0 73 [ptA p, I (x + (cellsM r).length), I y] [scO p w h l2 x y b] (fun _ M' => M' = [scO p w h l2 (inM (x + (cellsM r).length) (w - 1)) y b]) := (f_to p w h l2 x y b (x + (cellsM r).length) y (by omega)).toM (by rw [inM_in h4 (by omega)])
    have cd : True := trivial
    rw [textAt, e2]
    simp only
    have cw := f_Width (T0 := T0) r
    generalize (cellsM r).length = n at *
    clear e2 e3 hl2
    refine af_intro Tryd.func50 rfl (by decide) Tryd.ntmps50 rfl ?_
    repeat' (first
    | (apply al_call1 rfl rfl rfl rfl (c := cd)
       case ha => exact os_
       case hM => exact pick_
       rintro _ _ rfl
       simp only [List.cons_append, List.nil_append, List.append_eq])
      | (apply al_call1 rfl rfl rfl rfl (c := ct)
         case ha => exact os_
         case hM => exact pick_
         rintro _ _ rfl
         simp only [List.cons_append, List.nil_append, List.append_eq])
    | (apply aw_regionD 21 25; (case hN => decide +kernel); (case hD => decide +kernel); (case hB => kernel_rfl); (case hm => kernel_rfl); (case hod => rfl); (case hl => rfl); (case hn => rfl); (case hsd => rfl); (case hb => rfl)) | (apply endD_; (case h2 => exact delf_)) | (apply aw_regionS; (case h2 => rfl); (case hD => decide +kernel); (case hB => decide +kernel); (case hg => decide +kernel); (case hm => kernel_rfl); (case hoL => rfl); (case hod => rfl)) | refine endS_ ?_ | (apply aw_regionN; (case hn => rfl); (case hm => kernel_rfl)) | refine g5_ ?_ | (apply an_all; (case hL => rfl); (case hne => rfl)) | exact ai_nil | apply ai_cons | (apply at_i; (case ho => rfl)) | (apply j_first; exact ext1_) | (apply j_next; (case h => exact ext_); (case hk => exact wk_); (case hc => rfl)) | refine g18_ ?_ | (apply aw_region1q (by rfl) (by kernel_rfl) (by kernel_rfl)) | refine g19_ ?_ | (refine aw_if ?_ ?_ <;> intro hb <;> try exact no_) | (refine sx_ ?_ <;> intro bb) | (refine su_ ?_ <;> intro u hu1 hu2) | fail)
    all_goals first | (exfalso; omega) | exact absurd hb hw | (exfalso; rcases hw with e | e <;> simp [e] at hb; done) | (exfalso; simp at hb; omega) | (refine ⟨_, _, rl_, (List.Sublist.cons_cons _ (List.nil_sublist _)), ?_⟩; first | rfl | (simp; done))
end
/- Layer 7 (term): the program's screen at work: each kind of command. No condition. -/
section
open Go Go.RowKit
variable {T0 : Gh} [TabS T0]
set_option maxRecDepth 200000
theorem mul_rng {w h y : Int} (hw : 2 ≤ w ∧ w ≤ 80) (hh : h ≤ 24) (hy : 0 ≤ y ∧ y < h) : 0 ≤ y * w ∧ y * w ≤ 1920 ∧ 0 ≤ (y + 1) * w ∧ (y + 1) * w ≤ 1920 := by
  obtain ⟨w', rfl⟩ := Int.eq_ofNat_of_zero_le (show 0 ≤ w by omega)
  obtain ⟨y', rfl⟩ := Int.eq_ofNat_of_zero_le hy.1
  have h1 : (y' + 1) * w' ≤ 24 * 80 := Nat.mul_le_mul (by omega) (by omega)
  have h2 : (y' + 1) * w' = y' * w' + w' := Nat.succ_mul y' w'
  have e1 : (((y' + 1) * w' : Nat) : Int) = ((y' : Int) + 1) * w' := by simp
  have e2 : ((y' * w' : Nat) : Int) = (y' : Int) * w' := by simp
  omega
attribute [local irreducible] thenA inBlockA AW AL AO QY varO rowO rsA Opd OpdN vA gvA tupA aggA slA slcA ipA rpA EqK LnK IxK LdK FaK FdK
theorem f_termBlank (p : Nat) (w h : Int) (l : List Cell) (x y : Int) (b : Bool) (n : Int) (hg : okG w h l = true) (hx : 0 ≤ x ∧ x < w) (hy : 0 ≤ y ∧ y < h) (h1 : y * w + x ≤ n) (h2 : n ≤ l.length) : AF Tryd.prog T0 74 [ptA p, I n] [scO p w h l x y b]
    (fun _ M' => M' = [scO p w h (blankR w h l (y * w + x) n).1.2.2 x y b]) := by
  have hl := okG_len hg
  have hm := mul_rng (y := y) (h := h) ⟨hl.2.2.1, hl.2.2.2.1⟩ hl.2.2.2.2.2 hy
  obtain ⟨e1, e2⟩ := blankR_in (a := y * w + x) (b := n) hg (by omega) h1 h2
  obtain ⟨l2, hl2⟩ : ∃ z, z = layG l (y * w + x).toNat (List.replicate (n - (y * w + x)).toNat (32, 0)) := ⟨_, rfl⟩
  rw [← hl2] at e1
  have c1 : AP Tryd.prog T0 87 [gridA w h l, I (y * w + x), I n] (tupA [gridA w h l2, I 0]) := (f_Blank w h l (y * w + x) n (by omega)).to (by rw [e1]; rfl)
  have ct : True := trivial
  rw [e1]
  clear e1 e2 hl2
  refine af_intro Tryd.func74 rfl (by decide) Tryd.ntmps74 rfl ?_
  repeat' (first
  | (apply al_call1 rfl rfl rfl rfl (c := ct)
     case ha => exact os_
     case hM => exact pick_
     rintro _ _ rfl
     simp only [List.cons_append, List.nil_append, List.append_eq])
  | (apply aw_regionD 28 32; (case hN => decide +kernel); (case hD => decide +kernel); (case hB => kernel_rfl); (case hm => kernel_rfl); (case hod => rfl); (case hl => rfl); (case hn => rfl); (case hsd => rfl); (case hb => rfl)) | (apply endD_; (case h2 => exact delf_)) | (apply aw_regionS; (case h2 => rfl); (case hD => decide +kernel); (case hB => decide +kernel); (case hg => decide +kernel); (case hm => kernel_rfl); (case hoL => rfl); (case hod => rfl)) | refine endS_ ?_ | (apply aw_regionN; (case hn => rfl); (case hm => kernel_rfl)) | refine g5_ ?_ | (apply an_all; (case hL => rfl); (case hne => rfl)) | exact ai_nil | apply ai_cons | (apply at_i; (case ho => rfl)) | (apply j_first; exact ext1_) | (apply j_next; (case h => exact ext_); (case hk => exact wk_); (case hc => rfl)) | refine g18_ ?_ | (apply aw_region1q (by rfl) (by kernel_rfl) (by kernel_rfl)) | refine g17_ ?_ | (refine aw_if ?_ ?_ <;> intro hb <;> try exact no_) | (refine sx_ ?_ <;> intro bb) | (refine su_ ?_ <;> intro u hu1 hu2) | fail)
  all_goals exact ⟨_, _, rl_, .refl _, rfl⟩
section
variable (p : Nat) (w h : Int) (l : List Cell) (x y : Int) (b : Bool) (hok : okT w h l x y b = true)
include hok
theorem f_goes (a d : Int) : AF Tryd.prog T0 51 [ptA p, aggA [I 2, I a, I d, R 0]] [scO p w h l x y b] (fun _ M' => M' = [scO p w h l (inM d (w - 1)) (inM a (h - 1)) b]) := by
  obtain ⟨h1, ⟨h2, h3, h4, h5⟩, h6⟩ := okT_iff.1 hok
  have hg := okG_len h1
  have ct := f_to (T0 := T0) p w h l x y b d a (by omega)
  refine af_intro Tryd.func51 rfl (by decide) Tryd.ntmps51 rfl ?_
  repeat' (first
  | (apply al_call1 rfl rfl rfl rfl (c := ct)
     case ha => exact os_
     case hM => exact pick_
     rintro _ _ rfl
     simp only [List.cons_append, List.nil_append, List.append_eq])
  | (apply aw_regionN; (case hn => rfl); (case hm => kernel_rfl)) | refine g5_ ?_ | (apply an_all; (case hL => rfl); (case hne => rfl)) | exact ai_nil | apply ai_cons | (apply at_i; (case ho => rfl)) | (apply j_first; exact ext1_) | (apply j_next; (case h => exact ext_); (case hk => exact wk_); (case hc => rfl)) | refine g17_ ?_ | (refine aw_if ?_ ?_ <;> intro hb <;> try exact no_) | (refine sx_ ?_ <;> intro bb) | (refine su_ ?_ <;> intro u hu1 hu2) | fail)
  all_goals exact ⟨_, _, rl_, (List.Sublist.cons_cons _ (List.nil_sublist _)), rfl⟩
theorem f_up (a : Int) (ha : 1 ≤ a ∧ a ≤ 80) : AF Tryd.prog T0 52 [ptA p, aggA [I 3, I a, I 0, R 0]] [scO p w h l x y b] (fun _ M' => M' = [scO p w h l (inM x (w - 1)) (inM (y - a) (h - 1)) b]) := by
  obtain ⟨h1, ⟨h2, h3, h4, h5⟩, h6⟩ := okT_iff.1 hok
  have hg := okG_len h1
  have ct := f_to (T0 := T0) p w h l x y b x (y - a) (by omega)
  refine af_intro Tryd.func52 rfl (by decide) Tryd.ntmps52 rfl ?_
  repeat' (first
  | (apply al_call1 rfl rfl rfl rfl (c := ct)
     case ha => exact os_
     case hM => exact pick_
     rintro _ _ rfl
     simp only [List.cons_append, List.nil_append, List.append_eq])
  | (apply aw_regionN; (case hn => rfl); (case hm => kernel_rfl)) | refine g5_ ?_ | (apply an_all; (case hL => rfl); (case hne => rfl)) | exact ai_nil | apply ai_cons | (apply at_i; (case ho => rfl)) | (apply j_first; exact ext1_) | (apply j_next; (case h => exact ext_); (case hk => exact wk_); (case hc => rfl)) | refine g17_ ?_ | (refine aw_if ?_ ?_ <;> intro hb <;> try exact no_) | (refine sx_ ?_ <;> intro bb) | (refine su_ ?_ <;> intro u hu1 hu2) | fail)
  all_goals exact ⟨_, _, rl_, (List.Sublist.cons_cons _ (List.nil_sublist _)), rfl⟩
theorem f_lower (a : Int) (ha : 1 ≤ a ∧ a ≤ 80) : AF Tryd.prog T0 53 [ptA p, aggA [I 4, I a, I 0, R 0]] [scO p w h l x y b] (fun _ M' => M' = [scO p w h l (inM x (w - 1)) (inM (y + a) (h - 1)) b]) := by
  obtain ⟨h1, ⟨h2, h3, h4, h5⟩, h6⟩ := okT_iff.1 hok
  have hg := okG_len h1
  have ct := f_to (T0 := T0) p w h l x y b x (y + a) (by omega)
  refine af_intro Tryd.func53 rfl (by decide) Tryd.ntmps53 rfl ?_
  repeat' (first
  | (apply al_call1 rfl rfl rfl rfl (c := ct)
     case ha => exact os_
     case hM => exact pick_
     rintro _ _ rfl
     simp only [List.cons_append, List.nil_append, List.append_eq])
  | (apply aw_regionN; (case hn => rfl); (case hm => kernel_rfl)) | refine g5_ ?_ | (apply an_all; (case hL => rfl); (case hne => rfl)) | exact ai_nil | apply ai_cons | (apply at_i; (case ho => rfl)) | (apply j_first; exact ext1_) | (apply j_next; (case h => exact ext_); (case hk => exact wk_); (case hc => rfl)) | refine g17_ ?_ | (refine aw_if ?_ ?_ <;> intro hb <;> try exact no_) | (refine sx_ ?_ <;> intro bb) | (refine su_ ?_ <;> intro u hu1 hu2) | fail)
  all_goals exact ⟨_, _, rl_, (List.Sublist.cons_cons _ (List.nil_sublist _)), rfl⟩
theorem f_right (a : Int) (ha : 1 ≤ a ∧ a ≤ 80) : AF Tryd.prog T0 54 [ptA p, aggA [I 5, I a, I 0, R 0]] [scO p w h l x y b] (fun _ M' => M' = [scO p w h l (inM (x + a) (w - 1)) (inM y (h - 1)) b]) := by
  obtain ⟨h1, ⟨h2, h3, h4, h5⟩, h6⟩ := okT_iff.1 hok
  have hg := okG_len h1
  have ct := f_to (T0 := T0) p w h l x y b (x + a) y (by omega)
  refine af_intro Tryd.func54 rfl (by decide) Tryd.ntmps54 rfl ?_
  repeat' (first
  | (apply al_call1 rfl rfl rfl rfl (c := ct)
     case ha => exact os_
     case hM => exact pick_
     rintro _ _ rfl
     simp only [List.cons_append, List.nil_append, List.append_eq])
  | (apply aw_regionN; (case hn => rfl); (case hm => kernel_rfl)) | refine g5_ ?_ | (apply an_all; (case hL => rfl); (case hne => rfl)) | exact ai_nil | apply ai_cons | (apply at_i; (case ho => rfl)) | (apply j_first; exact ext1_) | (apply j_next; (case h => exact ext_); (case hk => exact wk_); (case hc => rfl)) | refine g17_ ?_ | (refine aw_if ?_ ?_ <;> intro hb <;> try exact no_) | (refine sx_ ?_ <;> intro bb) | (refine su_ ?_ <;> intro u hu1 hu2) | fail)
  all_goals exact ⟨_, _, rl_, (List.Sublist.cons_cons _ (List.nil_sublist _)), rfl⟩
theorem f_left (a : Int) (ha : 1 ≤ a ∧ a ≤ 80) : AF Tryd.prog T0 55 [ptA p, aggA [I 6, I a, I 0, R 0]] [scO p w h l x y b] (fun _ M' => M' = [scO p w h l (inM (x - a) (w - 1)) (inM y (h - 1)) b]) := by
  obtain ⟨h1, ⟨h2, h3, h4, h5⟩, h6⟩ := okT_iff.1 hok
  have hg := okG_len h1
  have ct := f_to (T0 := T0) p w h l x y b (x - a) y (by omega)
  refine af_intro Tryd.func55 rfl (by decide) Tryd.ntmps55 rfl ?_
  repeat' (first
  | (apply al_call1 rfl rfl rfl rfl (c := ct)
     case ha => exact os_
     case hM => exact pick_
     rintro _ _ rfl
     simp only [List.cons_append, List.nil_append, List.append_eq])
  | (apply aw_regionN; (case hn => rfl); (case hm => kernel_rfl)) | refine g5_ ?_ | (apply an_all; (case hL => rfl); (case hne => rfl)) | exact ai_nil | apply ai_cons | (apply at_i; (case ho => rfl)) | (apply j_first; exact ext1_) | (apply j_next; (case h => exact ext_); (case hk => exact wk_); (case hc => rfl)) | refine g17_ ?_ | (refine aw_if ?_ ?_ <;> intro hb <;> try exact no_) | (refine sx_ ?_ <;> intro bb) | (refine su_ ?_ <;> intro u hu1 hu2) | fail)
  all_goals exact ⟨_, _, rl_, (List.Sublist.cons_cons _ (List.nil_sublist _)), rfl⟩
theorem f_home : AF Tryd.prog T0 58 [ptA p, aggA [I 9, I 0, I 0, R 0]] [scO p w h l x y b] (fun _ M' => M' = [scO p w h l (inM 0 (w - 1)) (inM y (h - 1)) b]) := by
  obtain ⟨h1, ⟨h2, h3, h4, h5⟩, h6⟩ := okT_iff.1 hok
  have hg := okG_len h1
  have ct := f_to (T0 := T0) p w h l x y b 0 y (by omega)
  refine af_intro Tryd.func58 rfl (by decide) Tryd.ntmps58 rfl ?_
  repeat' (first
  | (apply al_call1 rfl rfl rfl rfl (c := ct)
     case ha => exact os_
     case hM => exact pick_
     rintro _ _ rfl
     simp only [List.cons_append, List.nil_append, List.append_eq])
  | (apply aw_regionN; (case hn => rfl); (case hm => kernel_rfl)) | refine g5_ ?_ | (apply an_all; (case hL => rfl); (case hne => rfl)) | exact ai_nil | apply ai_cons | (apply at_i; (case ho => rfl)) | (apply j_first; exact ext1_) | (apply j_next; (case h => exact ext_); (case hk => exact wk_); (case hc => rfl)) | refine g17_ ?_ | (refine aw_if ?_ ?_ <;> intro hb <;> try exact no_) | (refine sx_ ?_ <;> intro bb) | (refine su_ ?_ <;> intro u hu1 hu2) | fail)
  all_goals exact ⟨_, _, rl_, (List.Sublist.cons_cons _ (List.nil_sublist _)), rfl⟩
theorem f_back : AF Tryd.prog T0 60 [ptA p, aggA [I 11, I 0, I 0, R 0]] [scO p w h l x y b] (fun _ M' => M' = [scO p w h l (inM (x - 1) (w - 1)) (inM y (h - 1)) b]) := by
  obtain ⟨h1, ⟨h2, h3, h4, h5⟩, h6⟩ := okT_iff.1 hok
  have hg := okG_len h1
  have ct := f_to (T0 := T0) p w h l x y b (x - 1) y (by omega)
  refine af_intro Tryd.func60 rfl (by decide) Tryd.ntmps60 rfl ?_
  repeat' (first
  | (apply al_call1 rfl rfl rfl rfl (c := ct)
     case ha => exact os_
     case hM => exact pick_
     rintro _ _ rfl
     simp only [List.cons_append, List.nil_append, List.append_eq])
  | (apply aw_regionN; (case hn => rfl); (case hm => kernel_rfl)) | refine g5_ ?_ | (apply an_all; (case hL => rfl); (case hne => rfl)) | exact ai_nil | apply ai_cons | (apply at_i; (case ho => rfl)) | (apply j_first; exact ext1_) | (apply j_next; (case h => exact ext_); (case hk => exact wk_); (case hc => rfl)) | refine g17_ ?_ | (refine aw_if ?_ ?_ <;> intro hb <;> try exact no_) | (refine sx_ ?_ <;> intro bb) | (refine su_ ?_ <;> intro u hu1 hu2) | fail)
  all_goals exact ⟨_, _, rl_, (List.Sublist.cons_cons _ (List.nil_sublist _)), rfl⟩
theorem f_termRow : AF Tryd.prog T0 56 [ptA p, aggA [I 7, I 0, I 0, R 0]] [scO p w h l x y b] (fun _ M' => M' = [scO p w h (blankR w h l (y * w + x) ((y + 1) * w)).1.2.2 x y b]) := by
  obtain ⟨h1, ⟨h2, h3, h4, h5⟩, h6⟩ := okT_iff.1 hok
  have hg := okG_len h1
  have hat := at_in ⟨h2, h3⟩ ⟨h4, h5⟩
  have hm := mul_rng (y := y) (h := h) ⟨hg.2.2.1, hg.2.2.2.1⟩ hg.2.2.2.2.2 ⟨h4, h5⟩
  have ct := f_termBlank (T0 := T0) p w h l x y b ((y + 1) * w) h1 ⟨h2, h3⟩ ⟨h4, h5⟩ (by omega) (by omega)
  generalize blankR w h l (y * w + x) ((y + 1) * w) = z at *
  refine af_intro Tryd.func56 rfl (by decide) Tryd.ntmps56 rfl ?_
  repeat' (first
  | (apply al_call1 rfl rfl rfl rfl (c := ct)
     case ha => exact os_
     case hM => exact pick_
     rintro _ _ rfl
     simp only [List.cons_append, List.nil_append, List.append_eq])
  | (apply aw_regionN; (case hn => rfl); (case hm => kernel_rfl)) | refine g5_ ?_ | (apply an_all; (case hL => rfl); (case hne => rfl)) | exact ai_nil | apply ai_cons | (apply at_i; (case ho => rfl)) | (apply j_first; exact ext1_) | (apply j_next; (case h => exact ext_); (case hk => exact wk_); (case hc => rfl)) | refine g17_ ?_ | (refine aw_if ?_ ?_ <;> intro hb <;> try exact no_) | (refine sx_ ?_ <;> intro bb) | (refine su_ ?_ <;> intro u hu1 hu2) | fail)
  all_goals exact ⟨_, _, rl_, (List.Sublist.cons_cons _ (List.nil_sublist _)), rfl⟩
theorem f_termAll : AF Tryd.prog T0 57 [ptA p, aggA [I 8, I 0, I 0, R 0]] [scO p w h l x y b] (fun _ M' => M' = [scO p w h (blankR w h l (y * w + x) l.length).1.2.2 x y b]) := by
  obtain ⟨h1, ⟨h2, h3, h4, h5⟩, h6⟩ := okT_iff.1 hok
  have hg := okG_len h1
  have hat := at_in ⟨h2, h3⟩ ⟨h4, h5⟩
  have ct := f_termBlank (T0 := T0) p w h l x y b l.length h1 ⟨h2, h3⟩ ⟨h4, h5⟩ (by omega) (by omega)
  generalize blankR w h l (y * w + x) l.length = z at *
  refine af_intro Tryd.func57 rfl (by decide) Tryd.ntmps57 rfl ?_
  repeat' (first
  | (apply al_call1 rfl rfl rfl rfl (c := ct)
     case ha => exact os_
     case hM => exact pick_
     rintro _ _ rfl
     simp only [List.cons_append, List.nil_append, List.append_eq])
  | (apply aw_regionN; (case hn => rfl); (case hm => kernel_rfl)) | refine g5_ ?_ | (apply an_all; (case hL => rfl); (case hne => rfl)) | exact ai_nil | apply ai_cons | (apply at_i; (case ho => rfl)) | (apply j_first; exact ext1_) | (apply j_next; (case h => exact ext_); (case hk => exact wk_); (case hc => rfl)) | refine g17_ ?_ | (refine aw_if ?_ ?_ <;> intro hb <;> try exact no_) | (refine sx_ ?_ <;> intro bb) | (refine su_ ?_ <;> intro u hu1 hu2) | fail)
  all_goals exact ⟨_, _, rl_, (List.Sublist.cons_cons _ (List.nil_sublist _)), rfl⟩
end
end
/- Layer 7 (term): the program's Do. No condition. -/
section
open Go Go.RowKit
variable {T0 : Gh} [TabS T0]
set_option maxRecDepth 200000
/-! ### calls of functions that stand in a table -/
section
variable {P : Program} {N : Fz} {Q : Post} {fr : Fr} {M M' : List Own} {ops : Array Oper} {o : Oper} {rest : List Oper} {x0 : Nat}
theorem al_callv1 {T0 : Gh} {x : Operand} {f : FuncId} {args : Array Operand} {ts : Array TypeId} {As : List AV} {m : Own} {K : AV → List Own → Prop} (hg : o.guard = none) (hd : o.dst = some x0) (hN : Nat.blt x0 N.n = true) (ho : o.op = .call { callee := .value x, args := args, argTypes := ts }) (hx : Opd T0 fr x (vA (.func (.func f) #[] #[]))) (ha : OpdAll T0 fr args.toList As) (c : AF P T0 f As [m] K) (hM : Pick m M M')
    (h : ∀ A M1, K A M1 → AL P T0 N false ops Q rest ((x0, A) :: fr) (M1 ++ M')) : AL P T0 N false ops Q (o :: rest) fr M := by
  refine al_ent (ent_perm2 hM.perm) ?_
  refine al_es hg (ao_callv (Cs := []) (caps := []) ho hx (fun _ => trivial) ha (by rw [List.append_nil]; exact c) rfl) hd hN (fun _ _ h => by obtain ⟨_, _, h⟩ := h; exact h.elim) ?_
  rintro A _ ⟨M1, rfl, k⟩
  exact h A M1 k
end
/-- functions, and none -/
def fnV : Option Nat → Value
  | some f => .func (.func f) #[] #[]
  | none => .nilFunc
def fnT : Ty (Option Nat) := { enc := fun x => [fnV x], k := 1, len := fun _ => rfl }
theorem el_fn : El Tryd.prog fnT 100 none 8 (fun x => vA (fnV x)) := ⟨⟨.nilFunc, by kernel_rfl, rfl⟩, by decide, fun x v hv => by simp [fnT] at hv; subst hv; cases x <;> rfl, .inr ⟨agg_no (by kernel_rfl), rfl, fun x v h => by simp [fnT] at h; rw [← h]⟩⟩
instance cElFn : ElC 100 fnT none 8 (fun x => vA (fnV x)) := ⟨el_fn⟩
theorem un_fns : Tryd.prog.underlying 102 = some (.slice 100) := by kernel_rfl
instance cUnFns : UnC 102 (.slice 100) := ⟨un_fns⟩
def doesL : List (Option Nat) := [none, none, some 51, some 52, some 53, some 54, some 55, some 56, some 57, some 58, some 59, some 60]
theorem sub_noTm {n : Int} : Sub (tupA [aggA [I 0, I 0, vA (.slice none 0 0), I 0, I 0, B false], I n]) (tupA [termA 0 0 [] 0 0 false, I n]) := sub_tup (subl1 (sub_agg (subl1 (Sub.refl _) (subl1 (Sub.refl _) (subl1 sub_nilG (subl1 (Sub.refl _) (subl1 (Sub.refl _) (subl1 (Sub.refl _) subl0))))))) (subl1 (Sub.refl _) subl0))
theorem okT_unwrap {w h : Int} {l : List Cell} {x y : Int} {b : Bool} (h1 : okT w h l x y b = true) : okT w h l x y false = true := by
  obtain ⟨a, c, _⟩ := okT_iff.1 h1
  exact okT_iff.2 ⟨a, c, fun h => by cases h⟩
attribute [local irreducible] thenA inBlockA AW AL AO QY varO rowO rsA Opd OpdN vA gvA tupA aggA slA slcA ipA rpA EqK LnK IxK LdK FaK FdK
theorem f_termDo (w h : Int) (l : List Cell) (x y : Int) (b : Bool) (c : Cmd) : AP Tryd.prog T0 34 [termA w h l x y b, cmdA c] (tupA [tmA (doT (w, h, l, x, y, b) c).1, I (doT (w, h, l, x, y, b) c).2]) := by
  have c1 := f_termIs (T0 := T0) w h l x y b
  have c2 := f_vtIs (T0 := T0) c
  by_cases hh : okT w h l x y b = true ∧ isCmd c = true
  · obtain ⟨hok, hc⟩ := hh
    rw [doT_ok hok hc]
    rw [hok] at c1
    rw [hc] at c2
    have hok2 := okT_unwrap hok
    obtain ⟨h1, ⟨h2, h3, h4, h5⟩, h6⟩ := okT_iff.1 hok
    rcases cmd_ways hc with ⟨r, rfl, hs⟩ | ⟨a, d, rfl, _⟩ | ⟨k, a, rfl, hk, ha⟩ | ⟨k, rfl, hk⟩
    · have ct := fun p => f_termText (T0 := T0) p w h l x y b 1 0 0 r hok hs
      have ck : True := trivial
      have hg := textK_ok hok hs
      show AP _ _ _ _ (tupA [tmA (textK w h l x y b r), I 0])
      have hw : (textK w h l x y b r).1 = w ∧ (textK w h l x y b r).2.1 = h := by unfold textK; split <;> exact ⟨rfl, rfl⟩
      obtain ⟨⟨w', h', l', x', y', b'⟩, hz⟩ : ∃ z, z = textK w h l x y b r := ⟨_, rfl⟩
      rw [← hz] at ct hw ⊢
      simp only at ct hw ⊢
      obtain ⟨rfl, rfl⟩ := hw
      refine af_intro Tryd.func34 rfl (by decide) Tryd.ntmps34 rfl ?_
      repeat' (first
      | (apply al_call1 rfl rfl rfl rfl (c := ct _)
         case ha => exact os_
         case hM => exact pick_
         rintro _ _ rfl
         simp only [List.cons_append, List.nil_append, List.append_eq])
        | (apply al_callv1 rfl rfl rfl rfl (c := ck _)
           case hx => exact oo_
           case ha => exact os_
           case hM => exact pick_
           rintro _ _ rfl
           simp only [List.cons_append, List.nil_append, List.append_eq])
      | refine g16_ ?_ | (refine aw_if ?_ ?_ <;> intro hb <;> try exact no_) | (refine sx_ ?_ <;> intro bb) | (refine su_ ?_ <;> intro u hu1 hu2) | fail)
      all_goals first | (exfalso; simp at hb; done) | exact ⟨_, [], rl_, List.nil_sublist _, Sub.refl _, rfl⟩ | exact ⟨_, [], rl_, List.nil_sublist _, sub_noTm, rfl⟩
    · have ct : True := trivial
      have ck := fun p => f_goes (T0 := T0) p w h l x y false hok2 a d
      show AP _ _ _ _ (tupA [termA w h l (inM d (w - 1)) (inM a (h - 1)) false, I 0])
      refine af_intro Tryd.func34 rfl (by decide) Tryd.ntmps34 rfl ?_
      repeat' (first
      | (apply al_call1 rfl rfl rfl rfl (c := ct _)
         case ha => exact os_
         case hM => exact pick_
         rintro _ _ rfl
         simp only [List.cons_append, List.nil_append, List.append_eq])
        | (apply al_callv1 rfl rfl rfl rfl (c := ck _)
           case hx => exact oo_
           case ha => exact os_
           case hM => exact pick_
           rintro _ _ rfl
           simp only [List.cons_append, List.nil_append, List.append_eq])
      | refine g16_ ?_ | (refine aw_if ?_ ?_ <;> intro hb <;> try exact no_) | (refine sx_ ?_ <;> intro bb) | (refine su_ ?_ <;> intro u hu1 hu2) | fail)
      all_goals first | (exfalso; simp at hb; done) | exact ⟨_, [], rl_, List.nil_sublist _, Sub.refl _, rfl⟩ | exact ⟨_, [], rl_, List.nil_sublist _, sub_noTm, rfl⟩
    · have ct : True := trivial
      rcases hk with rfl | rfl | rfl | rfl
      · have ck := fun p => f_up (T0 := T0) p w h l x y false hok2 a ha
        show AP _ _ _ _ (tupA [termA w h l (inM (x) (w - 1)) (inM (y - a) (h - 1)) false, I 0])
        refine af_intro Tryd.func34 rfl (by decide) Tryd.ntmps34 rfl ?_
        repeat' (first
        | (apply al_call1 rfl rfl rfl rfl (c := ct _)
           case ha => exact os_
           case hM => exact pick_
           rintro _ _ rfl
           simp only [List.cons_append, List.nil_append, List.append_eq])
          | (apply al_callv1 rfl rfl rfl rfl (c := ck _)
             case hx => exact oo_
             case ha => exact os_
             case hM => exact pick_
             rintro _ _ rfl
             simp only [List.cons_append, List.nil_append, List.append_eq])
        | refine g16_ ?_ | (refine aw_if ?_ ?_ <;> intro hb <;> try exact no_) | (refine sx_ ?_ <;> intro bb) | (refine su_ ?_ <;> intro u hu1 hu2) | fail)
        all_goals first | (exfalso; simp at hb; done) | exact ⟨_, [], rl_, List.nil_sublist _, Sub.refl _, rfl⟩ | exact ⟨_, [], rl_, List.nil_sublist _, sub_noTm, rfl⟩
      · have ck := fun p => f_lower (T0 := T0) p w h l x y false hok2 a ha
        show AP _ _ _ _ (tupA [termA w h l (inM (x) (w - 1)) (inM (y + a) (h - 1)) false, I 0])
        refine af_intro Tryd.func34 rfl (by decide) Tryd.ntmps34 rfl ?_
        repeat' (first
        | (apply al_call1 rfl rfl rfl rfl (c := ct _)
           case ha => exact os_
           case hM => exact pick_
           rintro _ _ rfl
           simp only [List.cons_append, List.nil_append, List.append_eq])
          | (apply al_callv1 rfl rfl rfl rfl (c := ck _)
             case hx => exact oo_
             case ha => exact os_
             case hM => exact pick_
             rintro _ _ rfl
             simp only [List.cons_append, List.nil_append, List.append_eq])
        | refine g16_ ?_ | (refine aw_if ?_ ?_ <;> intro hb <;> try exact no_) | (refine sx_ ?_ <;> intro bb) | (refine su_ ?_ <;> intro u hu1 hu2) | fail)
        all_goals first | (exfalso; simp at hb; done) | exact ⟨_, [], rl_, List.nil_sublist _, Sub.refl _, rfl⟩ | exact ⟨_, [], rl_, List.nil_sublist _, sub_noTm, rfl⟩
      · have ck := fun p => f_right (T0 := T0) p w h l x y false hok2 a ha
        show AP _ _ _ _ (tupA [termA w h l (inM (x + a) (w - 1)) (inM (y) (h - 1)) false, I 0])
        refine af_intro Tryd.func34 rfl (by decide) Tryd.ntmps34 rfl ?_
        repeat' (first
        | (apply al_call1 rfl rfl rfl rfl (c := ct _)
           case ha => exact os_
           case hM => exact pick_
           rintro _ _ rfl
           simp only [List.cons_append, List.nil_append, List.append_eq])
          | (apply al_callv1 rfl rfl rfl rfl (c := ck _)
             case hx => exact oo_
             case ha => exact os_
             case hM => exact pick_
             rintro _ _ rfl
             simp only [List.cons_append, List.nil_append, List.append_eq])
        | refine g16_ ?_ | (refine aw_if ?_ ?_ <;> intro hb <;> try exact no_) | (refine sx_ ?_ <;> intro bb) | (refine su_ ?_ <;> intro u hu1 hu2) | fail)
        all_goals first | (exfalso; simp at hb; done) | exact ⟨_, [], rl_, List.nil_sublist _, Sub.refl _, rfl⟩ | exact ⟨_, [], rl_, List.nil_sublist _, sub_noTm, rfl⟩
      · have ck := fun p => f_left (T0 := T0) p w h l x y false hok2 a ha
        show AP _ _ _ _ (tupA [termA w h l (inM (x - a) (w - 1)) (inM (y) (h - 1)) false, I 0])
        refine af_intro Tryd.func34 rfl (by decide) Tryd.ntmps34 rfl ?_
        repeat' (first
        | (apply al_call1 rfl rfl rfl rfl (c := ct _)
           case ha => exact os_
           case hM => exact pick_
           rintro _ _ rfl
           simp only [List.cons_append, List.nil_append, List.append_eq])
          | (apply al_callv1 rfl rfl rfl rfl (c := ck _)
             case hx => exact oo_
             case ha => exact os_
             case hM => exact pick_
             rintro _ _ rfl
             simp only [List.cons_append, List.nil_append, List.append_eq])
        | refine g16_ ?_ | (refine aw_if ?_ ?_ <;> intro hb <;> try exact no_) | (refine sx_ ?_ <;> intro bb) | (refine su_ ?_ <;> intro u hu1 hu2) | fail)
        all_goals first | (exfalso; simp at hb; done) | exact ⟨_, [], rl_, List.nil_sublist _, Sub.refl _, rfl⟩ | exact ⟨_, [], rl_, List.nil_sublist _, sub_noTm, rfl⟩
    · rcases hk with rfl | rfl | rfl | rfl | rfl | rfl
      · have ct : True := trivial
        have ck := fun p => f_termRow (T0 := T0) p w h l x y false hok2
        show AP _ _ _ _ (tupA [termA w h (blankR w h l (y * w + x) ((y + 1) * w)).1.2.2 x y false, I 0])
        refine af_intro Tryd.func34 rfl (by decide) Tryd.ntmps34 rfl ?_
        repeat' (first
        | (apply al_call1 rfl rfl rfl rfl (c := ct _)
           case ha => exact os_
           case hM => exact pick_
           rintro _ _ rfl
           simp only [List.cons_append, List.nil_append, List.append_eq])
          | (apply al_callv1 rfl rfl rfl rfl (c := ck _)
             case hx => exact oo_
             case ha => exact os_
             case hM => exact pick_
             rintro _ _ rfl
             simp only [List.cons_append, List.nil_append, List.append_eq])
        | refine g16_ ?_ | (refine aw_if ?_ ?_ <;> intro hb <;> try exact no_) | (refine sx_ ?_ <;> intro bb) | (refine su_ ?_ <;> intro u hu1 hu2) | fail)
        all_goals first | (exfalso; simp at hb; done) | exact ⟨_, [], rl_, List.nil_sublist _, Sub.refl _, rfl⟩ | exact ⟨_, [], rl_, List.nil_sublist _, sub_noTm, rfl⟩
      · have ct : True := trivial
        have ck := fun p => f_termAll (T0 := T0) p w h l x y false hok2
        show AP _ _ _ _ (tupA [termA w h (blankR w h l (y * w + x) l.length).1.2.2 x y false, I 0])
        refine af_intro Tryd.func34 rfl (by decide) Tryd.ntmps34 rfl ?_
        repeat' (first
        | (apply al_call1 rfl rfl rfl rfl (c := ct _)
           case ha => exact os_
           case hM => exact pick_
           rintro _ _ rfl
           simp only [List.cons_append, List.nil_append, List.append_eq])
          | (apply al_callv1 rfl rfl rfl rfl (c := ck _)
             case hx => exact oo_
             case ha => exact os_
             case hM => exact pick_
             rintro _ _ rfl
             simp only [List.cons_append, List.nil_append, List.append_eq])
        | refine g16_ ?_ | (refine aw_if ?_ ?_ <;> intro hb <;> try exact no_) | (refine sx_ ?_ <;> intro bb) | (refine su_ ?_ <;> intro u hu1 hu2) | fail)
        all_goals first | (exfalso; simp at hb; done) | exact ⟨_, [], rl_, List.nil_sublist _, Sub.refl _, rfl⟩ | exact ⟨_, [], rl_, List.nil_sublist _, sub_noTm, rfl⟩
      · have ct : True := trivial
        have ck := fun p => f_home (T0 := T0) p w h l x y false hok2
        show AP _ _ _ _ (tupA [termA w h l (inM 0 (w - 1)) (inM y (h - 1)) false, I 0])
        refine af_intro Tryd.func34 rfl (by decide) Tryd.ntmps34 rfl ?_
        repeat' (first
        | (apply al_call1 rfl rfl rfl rfl (c := ct _)
           case ha => exact os_
           case hM => exact pick_
           rintro _ _ rfl
           simp only [List.cons_append, List.nil_append, List.append_eq])
          | (apply al_callv1 rfl rfl rfl rfl (c := ck _)
             case hx => exact oo_
             case ha => exact os_
             case hM => exact pick_
             rintro _ _ rfl
             simp only [List.cons_append, List.nil_append, List.append_eq])
        | refine g16_ ?_ | (refine aw_if ?_ ?_ <;> intro hb <;> try exact no_) | (refine sx_ ?_ <;> intro bb) | (refine su_ ?_ <;> intro u hu1 hu2) | fail)
        all_goals first | (exfalso; simp at hb; done) | exact ⟨_, [], rl_, List.nil_sublist _, Sub.refl _, rfl⟩ | exact ⟨_, [], rl_, List.nil_sublist _, sub_noTm, rfl⟩
      · have ct : True := trivial
        have ck := fun p => f_termDown (T0 := T0) p w h l x y false (10, 0, 0, 0) h1 ⟨h4, h5⟩
        show AP _ _ _ _ (tupA [termA w h (downL w h l y).1 x (downL w h l y).2 false, I 0])
        refine af_intro Tryd.func34 rfl (by decide) Tryd.ntmps34 rfl ?_
        repeat' (first
        | (apply al_call1 rfl rfl rfl rfl (c := ct _)
           case ha => exact os_
           case hM => exact pick_
           rintro _ _ rfl
           simp only [List.cons_append, List.nil_append, List.append_eq])
          | (apply al_callv1 rfl rfl rfl rfl (c := ck _)
             case hx => exact oo_
             case ha => exact os_
             case hM => exact pick_
             rintro _ _ rfl
             simp only [List.cons_append, List.nil_append, List.append_eq])
        | refine g16_ ?_ | (refine aw_if ?_ ?_ <;> intro hb <;> try exact no_) | (refine sx_ ?_ <;> intro bb) | (refine su_ ?_ <;> intro u hu1 hu2) | fail)
        all_goals first | (exfalso; simp at hb; done) | exact ⟨_, [], rl_, List.nil_sublist _, Sub.refl _, rfl⟩ | exact ⟨_, [], rl_, List.nil_sublist _, sub_noTm, rfl⟩
      · have ct : True := trivial
        have ck := fun p => f_back (T0 := T0) p w h l x y false hok2
        show AP _ _ _ _ (tupA [termA w h l (inM (x - 1) (w - 1)) (inM y (h - 1)) false, I 0])
        refine af_intro Tryd.func34 rfl (by decide) Tryd.ntmps34 rfl ?_
        repeat' (first
        | (apply al_call1 rfl rfl rfl rfl (c := ct _)
           case ha => exact os_
           case hM => exact pick_
           rintro _ _ rfl
           simp only [List.cons_append, List.nil_append, List.append_eq])
          | (apply al_callv1 rfl rfl rfl rfl (c := ck _)
             case hx => exact oo_
             case ha => exact os_
             case hM => exact pick_
             rintro _ _ rfl
             simp only [List.cons_append, List.nil_append, List.append_eq])
        | refine g16_ ?_ | (refine aw_if ?_ ?_ <;> intro hb <;> try exact no_) | (refine sx_ ?_ <;> intro bb) | (refine su_ ?_ <;> intro u hu1 hu2) | fail)
        all_goals first | (exfalso; simp at hb; done) | exact ⟨_, [], rl_, List.nil_sublist _, Sub.refl _, rfl⟩ | exact ⟨_, [], rl_, List.nil_sublist _, sub_noTm, rfl⟩
      · have ct : True := trivial
        have ck : True := trivial
        show AP _ _ _ _ (tupA [termA w h l x y b, I 0])
        refine af_intro Tryd.func34 rfl (by decide) Tryd.ntmps34 rfl ?_
        repeat' (first
        | (apply al_call1 rfl rfl rfl rfl (c := ct _)
           case ha => exact os_
           case hM => exact pick_
           rintro _ _ rfl
           simp only [List.cons_append, List.nil_append, List.append_eq])
          | (apply al_callv1 rfl rfl rfl rfl (c := ck _)
             case hx => exact oo_
             case ha => exact os_
             case hM => exact pick_
             rintro _ _ rfl
             simp only [List.cons_append, List.nil_append, List.append_eq])
        | refine g16_ ?_ | (refine aw_if ?_ ?_ <;> intro hb <;> try exact no_) | (refine sx_ ?_ <;> intro bb) | (refine su_ ?_ <;> intro u hu1 hu2) | fail)
        all_goals first | (exfalso; simp at hb; done) | exact ⟨_, [], rl_, List.nil_sublist _, Sub.refl _, rfl⟩ | exact ⟨_, [], rl_, List.nil_sublist _, sub_noTm, rfl⟩
  · rw [doT_no hh]
    have ct : True := trivial
    have ck : True := trivial
    show AP _ _ _ _ (tupA [termA 0 0 [] 0 0 false, I 1])
    cases e1 : okT w h l x y b with
    | false =>
      rw [e1] at c1
      refine af_intro Tryd.func34 rfl (by decide) Tryd.ntmps34 rfl ?_
      repeat' (first
      | (apply al_call1 rfl rfl rfl rfl (c := ct _)
         case ha => exact os_
         case hM => exact pick_
         rintro _ _ rfl
         simp only [List.cons_append, List.nil_append, List.append_eq])
        | (apply al_callv1 rfl rfl rfl rfl (c := ck _)
           case hx => exact oo_
           case ha => exact os_
           case hM => exact pick_
           rintro _ _ rfl
           simp only [List.cons_append, List.nil_append, List.append_eq])
      | refine g16_ ?_ | (refine aw_if ?_ ?_ <;> intro hb <;> try exact no_) | (refine sx_ ?_ <;> intro bb) | (refine su_ ?_ <;> intro u hu1 hu2) | fail)
      all_goals first | (exfalso; simp at hb; done) | exact ⟨_, [], rl_, List.nil_sublist _, Sub.refl _, rfl⟩ | exact ⟨_, [], rl_, List.nil_sublist _, sub_noTm, rfl⟩
    | true =>
      have e2 : isCmd c = false := by
        cases e : isCmd c with
        | false => rfl
        | true => exact absurd ⟨e1, e⟩ hh
      rw [e1] at c1
      rw [e2] at c2
      refine af_intro Tryd.func34 rfl (by decide) Tryd.ntmps34 rfl ?_
      repeat' (first
      | (apply al_call1 rfl rfl rfl rfl (c := ct _)
         case ha => exact os_
         case hM => exact pick_
         rintro _ _ rfl
         simp only [List.cons_append, List.nil_append, List.append_eq])
        | (apply al_callv1 rfl rfl rfl rfl (c := ck _)
           case hx => exact oo_
           case ha => exact os_
           case hM => exact pick_
           rintro _ _ rfl
           simp only [List.cons_append, List.nil_append, List.append_eq])
      | refine g16_ ?_ | (refine aw_if ?_ ?_ <;> intro hb <;> try exact no_) | (refine sx_ ?_ <;> intro bb) | (refine su_ ?_ <;> intro u hu1 hu2) | fail)
      all_goals first | (exfalso; simp at hb; done) | exact ⟨_, [], rl_, List.nil_sublist _, Sub.refl _, rfl⟩ | exact ⟨_, [], rl_, List.nil_sublist _, sub_noTm, rfl⟩
end
/- Layer 7 (term): the reference's within, down, text and Do. No condition. -/
section
open Go Go.RowKit
variable {T0 : Gh} [TabS T0]
set_option maxRecDepth 200000
attribute [local irreducible] thenA inBlockA AW AL AO QY varO rowO rsA Opd OpdN vA gvA tupA aggA slA slcA ipA rpA EqK LnK IxK LdK FaK FdK
end
/- Layer 7 (term): the reference's Do. No condition. -/
section
open Go Go.RowKit
variable {T0 : Gh} [TabS T0]
set_option maxRecDepth 200000
attribute [local irreducible] thenA inBlockA AW AL AO QY varO rowO rsA Opd OpdN vA gvA tupA aggA slA slcA ipA rpA EqK LnK IxK LdK FaK FdK
end
end Go.Proofs.YtgfmjmfphmjdkaaDoor
