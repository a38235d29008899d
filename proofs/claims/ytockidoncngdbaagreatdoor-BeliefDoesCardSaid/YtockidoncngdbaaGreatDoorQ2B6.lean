/- Layer 27 (belief), plainly: what a command does to a belief; it stays right, and agrees as before. No condition. -/
import Derived.Test.YtockidoncngdbaaGreatDoorQ2B5
import Derived.Test.YtockidoncngdbaaGreatDoorQ2ZM
namespace Go.Proofs.YtockidoncngdbaaGreatDoor
set_option linter.unusedSimpArgs false
set_option linter.unusedVariables false
set_option linter.unusedSectionVars false
set_option maxHeartbeats 4000000
open Go Go.RowKit
set_option maxRecDepth 100000
def noB : Bel := (0, 0, [], 0, 0, false, false)
def newB (w h : Int) : Bel × Int := if sidesM w h then ((w, h, List.replicate (w.toNat * h.toNat) gZero, 0, 0, false, false), 0) else (noB, 4)
noncomputable abbrev okBl (b : Bel) : Bool := okBe b.1 b.2.1 b.2.2.1 b.2.2.2.1 b.2.2.2.2.1 b.2.2.2.2.2.1 b.2.2.2.2.2.2
def chg (k : Int) : Bool := decide (k = 1) || decide (k = 7) || decide (k = 8) || decide (k = 10)
/-- where the cursor goes -/
noncomputable def curK (w h x y : Int) (b : Bool) (c : Cmd) : Int × Int × Bool := (doK w h [] x y b c).2.2.2
theorem ite_rel {α : Type} {R : α → α → Prop} {p : Prop} [Decidable p] {a b a' b' : α} (h1 : R a a') (h2 : R b b') : R (if p then a else b) (if p then a' else b') := by
  split
  · exact h1
  · exact h2
theorem downL_y (w h : Int) (l l' : List Cell) (y : Int) : (downL w h l y).2 = (downL w h l' y).2 := by
  unfold downL; split <;> rfl
theorem doK_rel (w h : Int) (l l' : List Cell) (x y : Int) (b : Bool) (c : Cmd) : (fun t t' : Tm => t.1 = w ∧ t.2.1 = h ∧ t.2.2.2 = t'.2.2.2) (doK w h l x y b c) (doK w h l' x y b c) := by
  unfold doK
  refine ite_rel (R := fun t t' : Tm => t.1 = w ∧ t.2.1 = h ∧ t.2.2.2 = t'.2.2.2) ?_ ?_
  · unfold textK
    refine ite_rel (R := fun t t' : Tm => t.1 = w ∧ t.2.1 = h ∧ t.2.2.2 = t'.2.2.2) ?_ ⟨rfl, rfl, rfl⟩
    rw [downL_y w h l l' y]; exact ⟨rfl, rfl, rfl⟩
  · refine ite_rel (R := fun t t' : Tm => t.1 = w ∧ t.2.1 = h ∧ t.2.2.2 = t'.2.2.2) ⟨rfl, rfl, rfl⟩ ?_
    repeat' (refine ite_rel (R := fun t t' : Tm => t.1 = w ∧ t.2.1 = h ∧ t.2.2.2 = t'.2.2.2) ?_ ?_)
    all_goals first | exact ⟨rfl, rfl, rfl⟩ | skip
    rw [downL_y w h l l' y]; exact ⟨rfl, rfl, rfl⟩
theorem doK_cur (w h : Int) (l : List Cell) (x y : Int) (b : Bool) (c : Cmd) : (doK w h l x y b c).2.2.2 = curK w h x y b c := (doK_rel w h l [] x y b c).2.2
theorem doK_sides (w h : Int) (l : List Cell) (x y : Int) (b : Bool) (c : Cmd) : (doK w h l x y b c).1 = w ∧ (doK w h l x y b c).2.1 = h := ⟨(doK_rel w h l [] x y b c).1, (doK_rel w h l [] x y b c).2.1⟩
/-- what becomes of the guesses -/
def textL (w h : Nat) (l : List Guess) (x y : Nat) (b : Bool) (cs : List Cell) : List Guess :=
  if b = true ∨ w < x + cs.length then (if y + 1 < h then layB w l ((y + 1) * w) cs else layB w (upB w l) (y * w) cs) else layB w l (y * w + x) cs
def listK (w h : Nat) (l : List Guess) (x y : Nat) (b : Bool) (c : Cmd) : List Guess :=
  if c.1 = 1 then textL w h l x y b (cellsM c.2.2.2)
  else if c.1 = 7 then layB w l (y * w + x) (List.replicate (w - x) (32, 0))
  else if c.1 = 8 then layB w l (y * w + x) (List.replicate (l.length - (y * w + x)) (32, 0))
  else if c.1 = 10 then (if y + 1 < h then l else upB w l)
  else l
noncomputable def doBK (w h : Int) (l : List Guess) (x y : Int) (b : Bool) (c : Cmd) : Bel :=
  (w, h, listK w.toNat h.toNat l x.toNat y.toNat b c, (curK w h x y b c).1, (curK w h x y b c).2.1, (curK w h x y b c).2.2, true)
noncomputable def doB (b : Bel) (c : Cmd) : Bel × Int :=
  if okBl b = true ∧ isCmd c = true then
    if b.2.2.2.2.2.2 = false ∧ chg c.1 = true then newB b.1 b.2.1
    else if (b.2.2.2.2.2.2 = false ∧ c.1 ≠ 2) ∨ c.1 = 12 then (b, 0)
    else (doBK b.1 b.2.1 b.2.2.1 b.2.2.2.1 b.2.2.2.2.1 b.2.2.2.2.2.1 c, 0)
  else (noB, 1)
theorem okBe_iff {w h : Int} {l : List Guess} {x y : Int} {b s : Bool} : okBe w h l x y b s = true ↔ ∃ w' h' : Nat, w = w' ∧ h = h' ∧ 2 ≤ w' ∧ w' ≤ 80 ∧ 1 ≤ h' ∧ h' ≤ 24 ∧ l.length = w' * h' ∧ GOk w' l ∧ (s = true → 0 ≤ x ∧ x < w' ∧ 0 ≤ y ∧ y < h' ∧ (b = true → x = w' - 1)) ∧ (s = false → x = 0 ∧ y = 0 ∧ b = false) := by
  have hcur : ∀ w' h' : Nat, curB w' h' x y b s = true ↔ (s = true → 0 ≤ x ∧ x < w' ∧ 0 ≤ y ∧ y < h' ∧ (b = true → x = w' - 1)) ∧ (s = false → x = 0 ∧ y = 0 ∧ b = false) := fun w' h' => by
    unfold curB
    cases s <;> cases b <;> simp [and_assoc]
  unfold okBe
  rw [Bool.and_eq_true, decide_eq_true_eq]
  constructor
  · rintro ⟨h1, h2⟩
    obtain ⟨w', h', rfl, rfl, a, b', c, d, e, f, g⟩ := okL_nat h1
    exact ⟨w', h', rfl, rfl, a, b', c, d, e, g, (hcur w' h').1 h2⟩
  · rintro ⟨w', h', rfl, rfl, a, b', c, d, e, g, k⟩
    exact ⟨⟨⟨by omega, by omega, by omega, by omega⟩, by rw [e]; exact Int.natCast_mul w' h', by simpa [GOk] using g⟩, (hcur w' h').2 k⟩
theorem side_leB {w h : Nat} (hw : w ≤ 80) (hh : h ≤ 24) : w * h ≤ 1920 := Nat.mul_le_mul hw hh
theorem newB_ok {w h : Int} (hs : sidesM w h = true) : okBl (newB w h).1 = true := by
  obtain ⟨w, h, rfl, rfl, h1, h2, h3, h4⟩ := sides_nat hs
  rw [newB, if_pos hs]
  exact okBe_iff.2 ⟨w, h, rfl, rfl, h1, h2, h3, h4, by simp, rep_ok _ _, fun h => (by cases h), fun _ => ⟨rfl, rfl, rfl⟩⟩
theorem row_in {w h x y n : Nat} (hy : y < h) (hx : x + n ≤ w) : y * w + x + n ≤ w * h := by
  have h1 : (y + 1) * w ≤ h * w := Nat.mul_le_mul_right w hy
  rw [Nat.add_mul, Nat.one_mul, Nat.mul_comm h w] at h1
  omega
theorem upB_len' {w h : Nat} {l : List Guess} (hh : 1 ≤ h) (hl : l.length = w * h) : (upB w l).length = w * h := by
  rw [upB_len (by rw [hl]; exact Nat.le_mul_of_pos_right w hh), hl]
/-- the guesses stay right -/
theorem textL_ok {w h : Nat} {l : List Guess} {x y : Nat} {b : Bool} {r : Int} (hw : 2 ≤ w) (hl : l.length = w * h) (hk : GOk w l) (hx : x < w) (hy : y < h) (hs : shown r = true) : (textL w h l x y b (cellsM r)).length = w * h ∧ GOk w (textL w h l x y b (cellsM r)) := by
  have hn := cellsM_rng hs
  have hc := isCell_cells hs
  have go : ∀ (m : List Guess) (X Y : Nat), m.length = w * h → GOk w m → Y < h → X + (cellsM r).length ≤ w → (layB w m (Y * w + X) (cellsM r)).length = w * h ∧ GOk w (layB w m (Y * w + X) (cellsM r)) := fun m X Y h1 h2 h3 h4 => by
    have := row_in h3 h4
    exact ⟨by rw [layB_len (by omega), h1], layB_ok hw h1 h2 (by omega) hc (cells_whole w Y X r hs h4)⟩
  unfold textL
  split
  · split
    · exact go l 0 (y + 1) hl hk (by omega) (by omega)
    · exact go (upB w l) 0 y (upB_len' (by omega) hl) (upB_ok hw (by omega) hl hk) hy (by omega)
  · exact go l x y hl hk hy (by omega)
theorem listK_ok {w h : Nat} {l : List Guess} {x y : Nat} {b : Bool} {c : Cmd} (hw : 2 ≤ w) (hl : l.length = w * h) (hk : GOk w l) (hx : x < w) (hy : y < h) (hc : isCmd c = true) : (listK w h l x y b c).length = w * h ∧ GOk w (listK w h l x y b c) := by
  have ha := row_in (n := w - x) hy (show x + (w - x) ≤ w by omega)
  rcases cmd_ways hc with ⟨r, rfl, hs⟩ | ⟨a, d, rfl, _⟩ | ⟨k, a, rfl, hk', _⟩ | ⟨k, rfl, hk'⟩
  · exact textL_ok hw hl hk hx hy hs
  · exact ⟨hl, hk⟩
  · rcases hk' with rfl | rfl | rfl | rfl <;> exact ⟨hl, hk⟩
  · rcases hk' with rfl | rfl | rfl | rfl | rfl | rfl
    · show (layB w l (y * w + x) (List.replicate (w - x) (32, 0))).length = w * h ∧ GOk w (layB w l (y * w + x) (List.replicate (w - x) (32, 0)))
      exact ⟨by rw [layB_len (by simp; omega), hl], layB_ok hw hl hk (by simp; omega) (isCell_rep _) (whole_rep _ _ _)⟩
    · show (layB w l (y * w + x) (List.replicate (l.length - (y * w + x)) (32, 0))).length = w * h ∧ GOk w (layB w l (y * w + x) (List.replicate (l.length - (y * w + x)) (32, 0)))
      exact ⟨by rw [layB_len (by simp; omega), hl], layB_ok hw hl hk (by simp; omega) (isCell_rep _) (whole_rep _ _ _)⟩
    · exact ⟨hl, hk⟩
    · show (if y + 1 < h then l else upB w l).length = w * h ∧ GOk w (if y + 1 < h then l else upB w l)
      split
      · exact ⟨hl, hk⟩
      · exact ⟨upB_len' (by omega) hl, upB_ok hw (by omega) hl hk⟩
    · exact ⟨hl, hk⟩
    · exact ⟨hl, hk⟩
/-- the cursor stays right -/
theorem curK_ok {w h x y : Int} {b : Bool} {c : Cmd} (hw : 2 ≤ w ∧ w ≤ 80 ∧ 1 ≤ h ∧ h ≤ 24) (hx : 0 ≤ x ∧ x < w) (hy : 0 ≤ y ∧ y < h) (hb : b = true → x = w - 1) (hc : isCmd c = true) : (0 ≤ (curK w h x y b c).1 ∧ (curK w h x y b c).1 < w ∧ 0 ≤ (curK w h x y b c).2.1 ∧ (curK w h x y b c).2.1 < h) ∧ ((curK w h x y b c).2.2 = true → (curK w h x y b c).1 = w - 1) := by
  obtain ⟨w', rfl⟩ := Int.eq_ofNat_of_zero_le (show 0 ≤ w by omega)
  obtain ⟨h', rfl⟩ := Int.eq_ofNat_of_zero_le (show 0 ≤ h by omega)
  have hn : okT w' h' (List.replicate (w' * h') (32, 0)) x y b = true := okT_iff.2 ⟨newR_ok (by omega) (by omega) (by omega) (by omega), ⟨hx.1, hx.2, hy.1, hy.2⟩, hb⟩
  have h1 := doK_ok hn hc
  have h2 := doK_cur w' h' (List.replicate (w' * h') (32, 0)) x y b c
  have h3 := doK_sides w' h' (List.replicate (w' * h') (32, 0)) x y b c
  obtain ⟨_, k2, k3⟩ := okT_iff.1 h1
  rw [h3.1, h3.2, h2] at k2
  rw [h3.1, h2] at k3
  exact ⟨k2, k3⟩
/-- does a belief agree with a terminal? -/
def AgrP (b : Bel) (t : Tm) : Prop := okBl b = true ∧ okTm t = true ∧ b.1 = t.1 ∧ b.2.1 = t.2.1 ∧ Agr b.2.2.1 t.2.2.1 ∧ (b.2.2.2.2.2.2 = true → b.2.2.2.1 = t.2.2.2.1 ∧ b.2.2.2.2.1 = t.2.2.2.2.1 ∧ b.2.2.2.2.2.1 = t.2.2.2.2.2)
noncomputable instance (b : Bel) (t : Tm) : Decidable (AgrP b t) := Classical.propDecidable _
noncomputable def agrB (b : Bel) (t : Tm) : Bool := decide (AgrP b t)
theorem doB_no {b : Bel} {c : Cmd} (h : ¬ (okBl b = true ∧ isCmd c = true)) : doB b c = (noB, 1) := if_neg h
theorem doBK_ok {w h : Int} {l : List Guess} {x y : Int} {b s : Bool} {c : Cmd} (h1 : okBe w h l x y b s = true) (hc : isCmd c = true) : okBl (doBK w h l x y b c) = true := by
  obtain ⟨w, h, rfl, rfl, w2, w3, w4, w5, hl, hk, p1, p2⟩ := okBe_iff.1 h1
  obtain ⟨hx, hy, hb⟩ : (0 ≤ x ∧ x < w) ∧ (0 ≤ y ∧ y < h) ∧ (b = true → x = w - 1) := by
    cases s with
    | true => obtain ⟨a, b, c, d, e⟩ := p1 rfl; exact ⟨⟨a, b⟩, ⟨c, d⟩, e⟩
    | false => obtain ⟨rfl, rfl, rfl⟩ := p2 rfl; exact ⟨⟨by omega, by omega⟩, ⟨by omega, by omega⟩, fun h => by cases h⟩
  obtain ⟨k1, k2⟩ := listK_ok (b := b) (x := x.toNat) (y := y.toNat) w2 hl hk (by omega) (by omega) hc
  obtain ⟨c1, c2⟩ := curK_ok (w := w) (h := h) (x := x) (y := y) (b := b) ⟨by omega, by omega, by omega, by omega⟩ hx hy hb hc
  refine okBe_iff.2 ⟨w, h, rfl, rfl, w2, w3, w4, w5, ?_, ?_, fun _ => ⟨c1.1, c1.2.1, c1.2.2.1, c1.2.2.2, c2⟩, fun h => by cases h⟩
  · show (listK (w : Int).toNat (h : Int).toNat l x.toNat y.toNat b c).length = w * h
    simpa using k1
  · show GOk w (listK (w : Int).toNat (h : Int).toNat l x.toNat y.toNat b c)
    simpa using k2
theorem doB_ok {b : Bel} {c : Cmd} (h1 : okBl b = true) (h2 : isCmd c = true) : okBl (doB b c).1 = true := by
  obtain ⟨w, h, l, x, y, bb, s⟩ := b
  rw [doB, if_pos ⟨h1, h2⟩]
  split
  · obtain ⟨w', h', rfl, rfl, a1, a2, a3, a4, _⟩ := okBe_iff.1 h1
    exact newB_ok (by simp [sidesM]; omega)
  · split
    · exact h1
    · exact doBK_ok h1 h2
end Go.Proofs.YtockidoncngdbaaGreatDoor
