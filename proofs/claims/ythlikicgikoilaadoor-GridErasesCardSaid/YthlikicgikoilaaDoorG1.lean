/- Layer 3 (grid), plain laws: what a right grid is, and what is mended. No condition. -/
import Derived.Test.YthlikicgikoilaaDoorW5
namespace Go.Proofs.YthlikicgikoilaaDoor
set_option linter.unusedSimpArgs false
set_option linter.unusedVariables false
set_option maxHeartbeats 4000000
open Go Go.RowKit
set_option maxRecDepth 100000

def cAt (l : List Cell) (i : Nat) : Cell := l[i]?.getD (0, 0)
theorem c_in {l : List Cell} {i : Nat} (h : i < l.length) : l[i]? = some (cAt l i) := by simp [cAt, h]
theorem cAt_ext {a b : List Cell} (hl : a.length = b.length) (h : ∀ i, i < a.length → cAt a i = cAt b i) : a = b := by
  apply List.ext_getElem? ; intro i
  by_cases hi : i < a.length
  · rw [c_in hi, c_in (l := b) (by omega), h i hi]
  · rw [List.getElem?_eq_none (by omega), List.getElem?_eq_none (by omega)]
theorem cAt_drop (l : List Cell) (a i : Nat) : cAt (l.drop a) i = cAt l (a + i) := by simp [cAt, List.getElem?_drop]
theorem cAt_take {l : List Cell} {n i : Nat} (h : i < n) : cAt (l.take n) i = cAt l i := by simp [cAt, List.getElem?_take, h]
theorem cAt_set (l : List Cell) (j i : Nat) (c : Cell) (hj : j < l.length) : cAt (l.set j c) i = if i = j then c else cAt l i := by
  unfold cAt; rw [List.getElem?_set]
  by_cases h : j = i
  · subst h; simp [hj]
  · simp [h, Ne.symm h]
theorem cAt_rep {n i : Nat} {c : Cell} (h : i < n) : cAt (List.replicate n c) i = c := by simp [cAt, List.getElem?_replicate, h]
theorem cAt_ovr {l c : List Cell} {off i : Nat} (h : off + c.length ≤ l.length) : cAt (ovr l off c) i = if i < off then cAt l i else if i < off + c.length then cAt c (i - off) else cAt l i := by
  unfold cAt ovr
  have h1 : (l.take off).length = off := by rw [List.length_take]; omega
  by_cases h2 : i < off
  · rw [if_pos h2, List.append_assoc, List.getElem?_append_left (by omega), List.getElem?_take, if_pos h2]
  · rw [if_neg h2]
    by_cases h3 : i < off + c.length
    · rw [if_pos h3, List.getElem?_append_left (by rw [List.length_append]; omega), List.getElem?_append_right (by omega), h1]
    · rw [if_neg h3, List.getElem?_append_right (by rw [List.length_append]; omega), List.getElem?_drop, List.length_append, h1]
      congr 2; omega
theorem cAt_app {a b : List Cell} {i : Nat} : cAt (a ++ b) i = if i < a.length then cAt a i else cAt b (i - a.length) := by
  unfold cAt
  split
  · rename_i h; rw [List.getElem?_append_left h]
  · rename_i h; rw [List.getElem?_append_right (by omega)]

/-- is the cell at i a half without its other half? -/
def lostM (w : Nat) (l : List Cell) (i : Nat) : Bool :=
  if (cAt l i).2 = 1 then decide (i % w = w - 1) || !decide (cAt l (i + 1) = ((cAt l i).1, 2)) else if (cAt l i).2 = 2 then decide (i % w = 0) || !decide (cAt l (i - 1) = ((cAt l i).1, 1)) else false
def sidesM (w h : Int) : Bool := decide (2 ≤ w) && decide (w ≤ 80) && decide (1 ≤ h) && decide (h ≤ 24)
/-- a right grid -/
def OkG (w h : Int) (l : List Cell) : Prop := (2 ≤ w ∧ w ≤ 80 ∧ 1 ≤ h ∧ h ≤ 24) ∧ (l.length : Int) = w * h ∧ ∀ i, i < l.length → isCell (cAt l i) = true ∧ lostM w.toNat l i = false
noncomputable instance (w h : Int) (l : List Cell) : Decidable (OkG w h l) := Classical.propDecidable _
noncomputable def okG (w h : Int) (l : List Cell) : Bool := decide (OkG w h l)
def mendM (w : Nat) (l : List Cell) : List Cell := (List.range l.length).map fun i => if lostM w l i then (32, 0) else cAt l i
theorem mendM_len (w : Nat) (l : List Cell) : (mendM w l).length = l.length := by simp [mendM]
theorem mendM_at {w : Nat} {l : List Cell} {i : Nat} (h : i < l.length) : cAt (mendM w l) i = if lostM w l i then (32, 0) else cAt l i := by
  unfold mendM; rw [cAt, List.getElem?_map]; simp [h]
theorem isCell_blank : isCell (32, 0) = true := by decide
theorem isCell_kind {c : Cell} (h : isCell c = true) : c.2 = 0 ∨ c.2 = 1 ∨ c.2 = 2 := by
  simp only [isCell, Bool.and_eq_true] at h
  have h2 := h.2
  split at h2 <;> simp at h2 <;> omega

/-! ### a row, as the program reads it -/
def rowF : List Cell → Cell → Bool
  | [], want => decide (want = (0, 0))
  | c :: r, want => isCell c && !((!decide (want = (0, 0))) != decide (c.2 = 2) || (!decide (want = (0, 0))) && !decide (c = want)) && rowF r (if c.2 = 1 then (c.1, 2) else (0, 0))
/-- a row's cells are right, and its halves stand together; want stands ahead of it -/
def RowP (row : List Cell) (want : Cell) : Prop := (∀ j, j < row.length → isCell (cAt row j) = true ∧ ((cAt row j).2 = 1 → j + 1 < row.length ∧ cAt row (j + 1) = ((cAt row j).1, 2)) ∧ ((cAt row j).2 = 2 → (j = 0 ∧ want = cAt row j) ∨ (1 ≤ j ∧ cAt row (j - 1) = ((cAt row j).1, 1)))) ∧ (want ≠ (0, 0) → 0 < row.length ∧ cAt row 0 = want)
theorem cAt_cons0 (c : Cell) (r : List Cell) : cAt (c :: r) 0 = c := rfl
theorem cAt_consS (c : Cell) (r : List Cell) (j : Nat) : cAt (c :: r) (j + 1) = cAt r j := by simp [cAt]
theorem rowF_iff : ∀ (row : List Cell) (want : Cell), (want = (0, 0) ∨ want.2 = 2) → (rowF row want = true ↔ RowP row want)
  | [], want, _ => by
    simp only [rowF, decide_eq_true_eq, RowP, List.length_nil]
    constructor
    · intro h; exact ⟨fun j hj => absurd hj (by omega), fun hn => absurd h hn⟩
    · intro h
      by_cases hw : want = (0, 0)
      · exact hw
      · have := (h.2 hw).1; omega
  | c :: r, want, hw => by
    have ih := rowF_iff r (if c.2 = 1 then (c.1, 2) else (0, 0)) (by split <;> simp)
    simp only [rowF, Bool.and_eq_true, ih]
    have hwant : (!((!decide (want = (0, 0))) != decide (c.2 = 2) || (!decide (want = (0, 0))) && !decide (c = want))) = true ↔ (c.2 = 2 → want = c) ∧ (want ≠ (0, 0) → c = want) := by
      by_cases h0 : want = (0, 0)
      · subst h0
        by_cases h2 : c.2 = 2
        · simp [h2]; intro h; rw [← h] at h2; simp at h2
        · simp [h2]
      · by_cases h2 : c.2 = 2
        · simp [h0, h2]; exact fun h => h.symm
        · simp [h0, h2]
          intro h; subst h
          rcases hw with h | h
          · exact h0 h
          · exact h2 h
    rw [hwant]
    constructor
    · rintro ⟨⟨h1, h2, h3⟩, h4, h5⟩
      refine ⟨fun j hj => ?_, fun hn => ⟨by simp, by rw [cAt_cons0]; exact h3 hn⟩⟩
      cases j with
      | zero =>
        rw [cAt_cons0]
        refine ⟨h1, fun hk => ?_, fun hk => .inl ⟨rfl, h2 hk⟩⟩
        rw [if_pos hk] at h5
        have := h5 (by simp)
        rw [cAt_consS]
        exact ⟨by simp; omega, this.2⟩
      | succ j =>
        rw [cAt_consS]
        have hj' : j < r.length := by simpa using hj
        obtain ⟨a1, a2, a3⟩ := h4 j hj'
        refine ⟨a1, fun hk => ?_, fun hk => .inr ⟨by omega, ?_⟩⟩
        · have := a2 hk
          rw [cAt_consS]; exact ⟨by simp; omega, this.2⟩
        · rw [Nat.add_sub_cancel]
          rcases a3 hk with ⟨rfl, h⟩ | ⟨h6, h7⟩
          · rw [cAt_cons0]
            by_cases hc : c.2 = 1
            · rw [if_pos hc] at h
              rw [← h]; exact Prod.ext rfl hc
            · rw [if_neg hc] at h
              rw [← h] at hk; simp at hk
          · obtain ⟨j, rfl⟩ : ∃ k, j = k + 1 := ⟨j - 1, by omega⟩
            rw [cAt_consS]; simpa using h7
    · rintro ⟨h1, h2⟩
      have h0 := h1 0 (by simp)
      rw [cAt_cons0] at h0
      refine ⟨⟨h0.1, fun hk => ?_, fun hn => by have := (h2 hn).2; rwa [cAt_cons0] at this⟩, fun j hj => ?_, fun hn => ?_⟩
      · rcases h0.2.2 hk with ⟨_, h⟩ | ⟨h, _⟩
        · exact h
        · omega
      · have hj1 := h1 (j + 1) (by simpa using hj)
        rw [cAt_consS] at hj1
        obtain ⟨a1, a2, a3⟩ := hj1
        refine ⟨a1, fun hk => ?_, fun hk => ?_⟩
        · have := a2 hk
          rw [cAt_consS] at this; exact ⟨by have := this.1; simp at this; omega, this.2⟩
        · rcases a3 hk with ⟨h, _⟩ | ⟨_, h⟩
          · omega
          · rw [Nat.add_sub_cancel] at h
            cases j with
            | zero =>
              left; rw [cAt_cons0] at h
              have hc : c.2 = 1 := by rw [h]
              rw [if_pos hc]
              refine ⟨rfl, Prod.ext ?_ hk.symm⟩
              rw [h]
            | succ j => right; rw [cAt_consS] at h; exact ⟨by omega, by rw [Nat.add_sub_cancel]; exact h⟩
      · by_cases hc : c.2 = 1
        · rw [if_pos hc]
          have := h0.2.1 hc
          rw [cAt_consS] at this
          exact ⟨by have := this.1; simp at this; omega, this.2⟩
        · rw [if_neg hc] at hn; exact absurd rfl hn
def rowOk (row : List Cell) : Bool := rowF row (0, 0)
theorem rowOk_iff (row : List Cell) : rowOk row = true ↔ ∀ j, j < row.length → isCell (cAt row j) = true ∧ ((cAt row j).2 = 1 → j + 1 < row.length ∧ cAt row (j + 1) = ((cAt row j).1, 2)) ∧ ((cAt row j).2 = 2 → 1 ≤ j ∧ cAt row (j - 1) = ((cAt row j).1, 1)) := by
  rw [rowOk, rowF_iff row (0, 0) (.inl rfl)]
  constructor
  · rintro ⟨h, _⟩ j hj
    obtain ⟨a, b, c⟩ := h j hj
    refine ⟨a, b, fun hk => ?_⟩
    rcases c hk with ⟨_, e⟩ | e
    · rw [← e] at hk; simp at hk
    · exact e
  · intro h
    refine ⟨fun j hj => ?_, fun hn => absurd rfl hn⟩
    obtain ⟨a, b, c⟩ := h j hj
    exact ⟨a, b, fun hk => .inr (c hk)⟩
theorem lost_false {w : Nat} {l : List Cell} {i : Nat} : lostM w l i = false ↔ ((cAt l i).2 = 1 → i % w ≠ w - 1 ∧ cAt l (i + 1) = ((cAt l i).1, 2)) ∧ ((cAt l i).2 = 2 → i % w ≠ 0 ∧ cAt l (i - 1) = ((cAt l i).1, 1)) := by
  unfold lostM
  by_cases h1 : (cAt l i).2 = 1
  · simp [h1]
  · by_cases h2 : (cAt l i).2 = 2
    · simp [h2]
    · simp [h1, h2]
/-- right rows make a right grid -/
theorem rows_ok (w h : Nat) (l : List Cell) (hw : 2 ≤ w) (hl : l.length = w * h) : (∀ y, y < h → rowOk ((l.drop (y * w)).take ((y + 1) * w - y * w)) = true) ↔ ∀ i, i < l.length → isCell (cAt l i) = true ∧ lostM w l i = false := by
  have hlen : ∀ y, y < h → ((l.drop (y * w)).take ((y + 1) * w - y * w)).length = w := fun y hy => by
    have h1 : (y + 1) * w ≤ h * w := Nat.mul_le_mul_right _ hy
    have h2 : (y + 1) * w = y * w + w := by rw [Nat.add_mul, Nat.one_mul]
    rw [List.length_take, List.length_drop, hl, Nat.mul_comm w h]; omega
  have hat : ∀ y x, x < w → cAt ((l.drop (y * w)).take ((y + 1) * w - y * w)) x = cAt l (y * w + x) := fun y x hx => by
    have h2 : (y + 1) * w = y * w + w := by rw [Nat.add_mul, Nat.one_mul]
    rw [cAt_take (by omega), cAt_drop]
  constructor
  · intro H i hi
    have hy : i / w < h := by rw [Nat.div_lt_iff_lt_mul (by omega), Nat.mul_comm]; omega
    have hx : i % w < w := Nat.mod_lt _ (by omega)
    have hd : i / w * w + i % w = i := by rw [Nat.mul_comm]; exact Nat.div_add_mod i w
    obtain ⟨a, b, c⟩ := (rowOk_iff _).1 (H (i / w) hy) (i % w) (by rw [hlen _ hy]; exact hx)
    rw [hat _ _ hx, hd] at a b c
    rw [hlen _ hy] at b
    refine ⟨a, lost_false.2 ⟨fun hk => ?_, fun hk => ?_⟩⟩
    · obtain ⟨b1, b2⟩ := b hk
      rw [hat _ _ b1, ← Nat.add_assoc, hd] at b2
      exact ⟨by omega, b2⟩
    · obtain ⟨c1, c2⟩ := c hk
      rw [hat _ _ (by omega), show i / w * w + (i % w - 1) = i - 1 by omega] at c2
      exact ⟨by omega, c2⟩
  · intro H y hy
    rw [rowOk_iff]
    intro x hx
    rw [hlen y hy] at hx ⊢
    have hi : y * w + x < l.length := by
      have h1 : (y + 1) * w ≤ h * w := Nat.mul_le_mul_right _ hy
      rw [Nat.add_mul, Nat.one_mul] at h1
      rw [hl, Nat.mul_comm w h]; omega
    have hm : (y * w + x) % w = x := by rw [Nat.add_comm, Nat.add_mul_mod_self_right, Nat.mod_eq_of_lt hx]
    obtain ⟨a, b⟩ := H _ hi
    obtain ⟨b1, b2⟩ := lost_false.1 b
    rw [hat y x hx]
    rw [hm] at b1 b2
    refine ⟨a, fun hk => ?_, fun hk => ?_⟩
    · obtain ⟨c1, c2⟩ := b1 hk
      have hx1 : x + 1 < w := by omega
      exact ⟨hx1, by rw [hat y _ hx1, ← Nat.add_assoc]; exact c2⟩
    · obtain ⟨c1, c2⟩ := b2 hk
      exact ⟨by omega, by rw [hat y _ (by omega), show y * w + (x - 1) = y * w + x - 1 by omega]; exact c2⟩
theorem sub_nilG : Sub (vA (.slice none 0 0)) (slA cellT []) := fun _ _ h => by
  rw [h.eq]; exact .of ⟨none, 0, 0, rfl, rfl, Nat.le_refl _, Nat.zero_le _, fun _ => rfl, fun h => absurd rfl h⟩
theorem sub_noG {n : Int} : Sub (tupA [aggA [I 0, I 0, vA (.slice none 0 0)], I n]) (tupA [gridA 0 0 [], I n]) := sub_tup (subl1 (sub_agg (subl1 (Sub.refl _) (subl1 (Sub.refl _) (subl1 sub_nilG subl0)))) (subl1 (Sub.refl _) subl0))
end Go.Proofs.YthlikicgikoilaaDoor
