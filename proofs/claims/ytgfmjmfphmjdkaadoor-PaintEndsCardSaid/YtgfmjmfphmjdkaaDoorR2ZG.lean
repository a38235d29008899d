/- Several texts in one: see the comment ahead of each. No condition. -/
import Derived.Test.YtgfmjmfphmjdkaaDoorR2ZW
/- Layer 3 (grid), plain laws: what a right grid is, and what is mended. No condition. -/
namespace Go.Proofs.YtgfmjmfphmjdkaaDoor
set_option linter.unusedSimpArgs false
set_option linter.unusedVariables false
set_option linter.unusedSectionVars false
set_option maxHeartbeats 4000000
section
open Go Go.RowKit
set_option maxRecDepth 100000
def cAt (l : List Cell) (i : Nat) : Cell := l[i]?.getD (0, 0)
theorem c_in {l : List Cell} {i : Nat} (h : i < l.length) : l[i]? = some (cAt l i) := by simp [cAt, h]
theorem cAt_ext {a b : List Cell} (hl : a.length = b.length) (h : ∀ i, i < a.length → cAt a i = cAt b i) : a = b := by
  apply List.ext_getElem? ; intro i
  by_cases hi : i < a.length
  · rw [c_in hi, c_in (l := b) (by omega), h i hi]
  · rw [List.getElem?_eq_none (by omega), List.getElem?_eq_none (by omega)]
theorem cAt_drop (l : List Cell) (a i : Nat) : cAt (l.drop a) i = cAt l (a + i) := by simp [cAt, List.getElem?_drop]
theorem cAt_take {l : List Cell} {n i : Nat} (h : i < n) : cAt (l.take n) i = cAt l i := by simp [cAt, List.getElem?_take, h]
theorem cAt_set (l : List Cell) (j i : Nat) (c : Cell) (hj : j < l.length) : cAt (l.set j c) i = if i = j then c else cAt l i := by
  unfold cAt; rw [List.getElem?_set]
  by_cases h : j = i
  · subst h; simp [hj]
  · simp [h, Ne.symm h]
theorem cAt_rep {n i : Nat} {c : Cell} (h : i < n) : cAt (List.replicate n c) i = c := by simp [cAt, List.getElem?_replicate, h]
theorem cAt_ovr {l c : List Cell} {off i : Nat} (h : off + c.length ≤ l.length) : cAt (ovr l off c) i = if i < off then cAt l i else if i < off + c.length then cAt c (i - off) else cAt l i := by
  unfold cAt ovr
  have h1 : (l.take off).length = off := by rw [List.length_take]; omega
  by_cases h2 : i < off
  · rw [if_pos h2, List.append_assoc, List.getElem?_append_left (by omega), List.getElem?_take, if_pos h2]
  · rw [if_neg h2]
    by_cases h3 : i < off + c.length
    · rw [if_pos h3, List.getElem?_append_left (by rw [List.length_append]; omega), List.getElem?_append_right (by omega), h1]
    · rw [if_neg h3, List.getElem?_append_right (by rw [List.length_append]; omega), List.getElem?_drop, List.length_append, h1]
      congr 2; omega
theorem cAt_app {a b : List Cell} {i : Nat} : cAt (a ++ b) i = if i < a.length then cAt a i else cAt b (i - a.length) := by
  unfold cAt
  split
  · rename_i h; rw [List.getElem?_append_left h]
  · rename_i h; rw [List.getElem?_append_right (by omega)]
/-- is the cell at i a half without its other half? -/
def lostM (w : Nat) (l : List Cell) (i : Nat) : Bool :=
  if (cAt l i).2 = 1 then decide (i % w = w - 1) || !decide (cAt l (i + 1) = ((cAt l i).1, 2)) else if (cAt l i).2 = 2 then decide (i % w = 0) || !decide (cAt l (i - 1) = ((cAt l i).1, 1)) else false
def sidesM (w h : Int) : Bool := decide (2 ≤ w) && decide (w ≤ 80) && decide (1 ≤ h) && decide (h ≤ 24)
/-- a right grid -/
def OkG (w h : Int) (l : List Cell) : Prop := (2 ≤ w ∧ w ≤ 80 ∧ 1 ≤ h ∧ h ≤ 24) ∧ (l.length : Int) = w * h ∧ ∀ i, i < l.length → isCell (cAt l i) = true ∧ lostM w.toNat l i = false
noncomputable instance (w h : Int) (l : List Cell) : Decidable (OkG w h l) := Classical.propDecidable _
noncomputable def okG (w h : Int) (l : List Cell) : Bool := decide (OkG w h l)
def mendM (w : Nat) (l : List Cell) : List Cell := (List.range l.length).map fun i => if lostM w l i then (32, 0) else cAt l i
theorem mendM_len (w : Nat) (l : List Cell) : (mendM w l).length = l.length := by simp [mendM]
theorem mendM_at {w : Nat} {l : List Cell} {i : Nat} (h : i < l.length) : cAt (mendM w l) i = if lostM w l i then (32, 0) else cAt l i := by
  unfold mendM; rw [cAt, List.getElem?_map]; simp [h]
theorem isCell_blank : isCell (32, 0) = true := by decide
/-! ### a row, as the program reads it -/
def rowF : List Cell → Cell → Bool
  | [], want => decide (want = (0, 0))
  | c :: r, want => isCell c && !((!decide (want = (0, 0))) != decide (c.2 = 2) || (!decide (want = (0, 0))) && !decide (c = want)) && rowF r (if c.2 = 1 then (c.1, 2) else (0, 0))
/-- a row's cells are right, and its halves stand together; want stands ahead of it -/
def RowP (row : List Cell) (want : Cell) : Prop := (∀ j, j < row.length → isCell (cAt row j) = true ∧ ((cAt row j).2 = 1 → j + 1 < row.length ∧ cAt row (j + 1) = ((cAt row j).1, 2)) ∧ ((cAt row j).2 = 2 → (j = 0 ∧ want = cAt row j) ∨ (1 ≤ j ∧ cAt row (j - 1) = ((cAt row j).1, 1)))) ∧ (want ≠ (0, 0) → 0 < row.length ∧ cAt row 0 = want)
theorem cAt_cons0 (c : Cell) (r : List Cell) : cAt (c :: r) 0 = c := rfl
theorem cAt_consS (c : Cell) (r : List Cell) (j : Nat) : cAt (c :: r) (j + 1) = cAt r j := by simp [cAt]
theorem rowF_iff : ∀ (row : List Cell) (want : Cell), (want = (0, 0) ∨ want.2 = 2) → (rowF row want = true ↔ RowP row want)
  | [], want, _ => by
    simp only [rowF, decide_eq_true_eq, RowP, List.length_nil]
    constructor
    · intro h; exact ⟨fun j hj => absurd hj (by omega), fun hn => absurd h hn⟩
    · intro h
      by_cases hw : want = (0, 0)
      · exact hw
      · have := (h.2 hw).1; omega
  | c :: r, want, hw => by
    have ih := rowF_iff r (if c.2 = 1 then (c.1, 2) else (0, 0)) (by split <;> simp)
    simp only [rowF, Bool.and_eq_true, ih]
    have hwant : (!((!decide (want = (0, 0))) != decide (c.2 = 2) || (!decide (want = (0, 0))) && !decide (c = want))) = true ↔ (c.2 = 2 → want = c) ∧ (want ≠ (0, 0) → c = want) := by
      by_cases h0 : want = (0, 0)
      · subst h0
        by_cases h2 : c.2 = 2
        · simp [h2]; intro h; rw [← h] at h2; simp at h2
        · simp [h2]
      · by_cases h2 : c.2 = 2
        · simp [h0, h2]; exact fun h => h.symm
        · simp [h0, h2]
          intro h; subst h
          rcases hw with h | h
          · exact h0 h
          · exact h2 h
    rw [hwant]
    constructor
    · rintro ⟨⟨h1, h2, h3⟩, h4, h5⟩
      refine ⟨fun j hj => ?_, fun hn => ⟨by simp, by rw [cAt_cons0]; exact h3 hn⟩⟩
      cases j with
      | zero =>
        rw [cAt_cons0]
        refine ⟨h1, fun hk => ?_, fun hk => .inl ⟨rfl, h2 hk⟩⟩
        rw [if_pos hk] at h5
        have := h5 (by simp)
        rw [cAt_consS]
        exact ⟨by simp; omega, this.2⟩
      | succ j =>
        rw [cAt_consS]
        have hj' : j < r.length := by simpa using hj
        obtain ⟨a1, a2, a3⟩ := h4 j hj'
        refine ⟨a1, fun hk => ?_, fun hk => .inr ⟨by omega, ?_⟩⟩
        · have := a2 hk
          rw [cAt_consS]; exact ⟨by simp; omega, this.2⟩
        · rw [Nat.add_sub_cancel]
          rcases a3 hk with ⟨rfl, h⟩ | ⟨h6, h7⟩
          · rw [cAt_cons0]
            by_cases hc : c.2 = 1
            · rw [if_pos hc] at h
              rw [← h]; exact Prod.ext rfl hc
            · rw [if_neg hc] at h
              rw [← h] at hk; simp at hk
          · obtain ⟨j, rfl⟩ : ∃ k, j = k + 1 := ⟨j - 1, by omega⟩
            rw [cAt_consS]; simpa using h7
    · rintro ⟨h1, h2⟩
      have h0 := h1 0 (by simp)
      rw [cAt_cons0] at h0
      refine ⟨⟨h0.1, fun hk => ?_, fun hn => by have := (h2 hn).2; rwa [cAt_cons0] at this⟩, fun j hj => ?_, fun hn => ?_⟩
      · rcases h0.2.2 hk with ⟨_, h⟩ | ⟨h, _⟩
        · exact h
        · omega
      · have hj1 := h1 (j + 1) (by simpa using hj)
        rw [cAt_consS] at hj1
        obtain ⟨a1, a2, a3⟩ := hj1
        refine ⟨a1, fun hk => ?_, fun hk => ?_⟩
        · have := a2 hk
          rw [cAt_consS] at this; exact ⟨by have := this.1; simp at this; omega, this.2⟩
        · rcases a3 hk with ⟨h, _⟩ | ⟨_, h⟩
          · omega
          · rw [Nat.add_sub_cancel] at h
            cases j with
            | zero =>
              left; rw [cAt_cons0] at h
              have hc : c.2 = 1 := by rw [h]
              rw [if_pos hc]
              refine ⟨rfl, Prod.ext ?_ hk.symm⟩
              rw [h]
            | succ j => right; rw [cAt_consS] at h; exact ⟨by omega, by rw [Nat.add_sub_cancel]; exact h⟩
      · by_cases hc : c.2 = 1
        · rw [if_pos hc]
          have := h0.2.1 hc
          rw [cAt_consS] at this
          exact ⟨by have := this.1; simp at this; omega, this.2⟩
        · rw [if_neg hc] at hn; exact absurd rfl hn
def rowOk (row : List Cell) : Bool := rowF row (0, 0)
theorem rowOk_iff (row : List Cell) : rowOk row = true ↔ ∀ j, j < row.length → isCell (cAt row j) = true ∧ ((cAt row j).2 = 1 → j + 1 < row.length ∧ cAt row (j + 1) = ((cAt row j).1, 2)) ∧ ((cAt row j).2 = 2 → 1 ≤ j ∧ cAt row (j - 1) = ((cAt row j).1, 1)) := by
  rw [rowOk, rowF_iff row (0, 0) (.inl rfl)]
  constructor
  · rintro ⟨h, _⟩ j hj
    obtain ⟨a, b, c⟩ := h j hj
    refine ⟨a, b, fun hk => ?_⟩
    rcases c hk with ⟨_, e⟩ | e
    · rw [← e] at hk; simp at hk
    · exact e
  · intro h
    refine ⟨fun j hj => ?_, fun hn => absurd rfl hn⟩
    obtain ⟨a, b, c⟩ := h j hj
    exact ⟨a, b, fun hk => .inr (c hk)⟩
theorem lost_false {w : Nat} {l : List Cell} {i : Nat} : lostM w l i = false ↔ ((cAt l i).2 = 1 → i % w ≠ w - 1 ∧ cAt l (i + 1) = ((cAt l i).1, 2)) ∧ ((cAt l i).2 = 2 → i % w ≠ 0 ∧ cAt l (i - 1) = ((cAt l i).1, 1)) := by
  unfold lostM
  by_cases h1 : (cAt l i).2 = 1
  · simp [h1]
  · by_cases h2 : (cAt l i).2 = 2
    · simp [h2]
    · simp [h1, h2]
/-- right rows make a right grid -/
theorem rows_ok (w h : Nat) (l : List Cell) (hw : 2 ≤ w) (hl : l.length = w * h) : (∀ y, y < h → rowOk ((l.drop (y * w)).take ((y + 1) * w - y * w)) = true) ↔ ∀ i, i < l.length → isCell (cAt l i) = true ∧ lostM w l i = false := by
  have hlen : ∀ y, y < h → ((l.drop (y * w)).take ((y + 1) * w - y * w)).length = w := fun y hy => by
    have h1 : (y + 1) * w ≤ h * w := Nat.mul_le_mul_right _ hy
    have h2 : (y + 1) * w = y * w + w := by rw [Nat.add_mul, Nat.one_mul]
    rw [List.length_take, List.length_drop, hl, Nat.mul_comm w h]; omega
  have hat : ∀ y x, x < w → cAt ((l.drop (y * w)).take ((y + 1) * w - y * w)) x = cAt l (y * w + x) := fun y x hx => by
    have h2 : (y + 1) * w = y * w + w := by rw [Nat.add_mul, Nat.one_mul]
    rw [cAt_take (by omega), cAt_drop]
  constructor
  · intro H i hi
    have hy : i / w < h := by rw [Nat.div_lt_iff_lt_mul (by omega), Nat.mul_comm]; omega
    have hx : i % w < w := Nat.mod_lt _ (by omega)
    have hd : i / w * w + i % w = i := by rw [Nat.mul_comm]; exact Nat.div_add_mod i w
    obtain ⟨a, b, c⟩ := (rowOk_iff _).1 (H (i / w) hy) (i % w) (by rw [hlen _ hy]; exact hx)
    rw [hat _ _ hx, hd] at a b c
    rw [hlen _ hy] at b
    refine ⟨a, lost_false.2 ⟨fun hk => ?_, fun hk => ?_⟩⟩
    · obtain ⟨b1, b2⟩ := b hk
      rw [hat _ _ b1, ← Nat.add_assoc, hd] at b2
      exact ⟨by omega, b2⟩
    · obtain ⟨c1, c2⟩ := c hk
      rw [hat _ _ (by omega), show i / w * w + (i % w - 1) = i - 1 by omega] at c2
      exact ⟨by omega, c2⟩
  · intro H y hy
    rw [rowOk_iff]
    intro x hx
    rw [hlen y hy] at hx ⊢
    have hi : y * w + x < l.length := by
      have h1 : (y + 1) * w ≤ h * w := Nat.mul_le_mul_right _ hy
      rw [Nat.add_mul, Nat.one_mul] at h1
      rw [hl, Nat.mul_comm w h]; omega
    have hm : (y * w + x) % w = x := by rw [Nat.add_comm, Nat.add_mul_mod_self_right, Nat.mod_eq_of_lt hx]
    obtain ⟨a, b⟩ := H _ hi
    obtain ⟨b1, b2⟩ := lost_false.1 b
    rw [hat y x hx]
    rw [hm] at b1 b2
    refine ⟨a, fun hk => ?_, fun hk => ?_⟩
    · obtain ⟨c1, c2⟩ := b1 hk
      have hx1 : x + 1 < w := by omega
      exact ⟨hx1, by rw [hat y _ hx1, ← Nat.add_assoc]; exact c2⟩
    · obtain ⟨c1, c2⟩ := b2 hk
      exact ⟨by omega, by rw [hat y _ (by omega), show y * w + (x - 1) = y * w + x - 1 by omega]; exact c2⟩
theorem sub_nilG : Sub (vA (.slice none 0 0)) (slA cellT []) := fun _ _ h => by
  rw [h.eq]; exact .of ⟨none, 0, 0, rfl, rfl, Nat.le_refl _, Nat.zero_le _, fun _ => rfl, fun h => absurd rfl h⟩
theorem sub_noG {n : Int} : Sub (tupA [aggA [I 0, I 0, vA (.slice none 0 0)], I n]) (tupA [gridA 0 0 [], I n]) := sub_tup (subl1 (sub_agg (subl1 (Sub.refl _) (subl1 (Sub.refl _) (subl1 sub_nilG subl0)))) (subl1 (Sub.refl _) subl0))
end
/- Layer 3 (grid): the program's makers of grids, and whether a grid is right. No condition. -/
section
open Go Go.RowKit
variable {T0 : Gh} [TabS T0]
attribute [local irreducible] thenA inBlockA AW AL AO QY varO rowO rsA Opd OpdN vA gvA tupA aggA slA slcA ipA rpA EqK LnK IxK LdK FaK FdK
set_option maxRecDepth 100000
theorem set_next (p : List Cell) (n k : Nat) (z d : Cell) (hp : p.length = k) (h : k < n) : (p ++ List.replicate (n - k) d).set k z = (p ++ [z]) ++ List.replicate (n - (k + 1)) d := by
  have e : n - k = (n - (k + 1)) + 1 := by omega
  subst hp
  rw [e, List.replicate_succ, List.set_append_right _ _ (Nat.le_refl _), Nat.sub_self, List.set_cons_zero, List.append_assoc]; rfl
theorem f_blank : AP Tryd.prog T0 69 [] (cellA (32, 0)) := by
  refine af_intro Tryd.func69 rfl (by decide) Tryd.ntmps69 rfl ?_
  repeat' (first
  | refine g1_ ?_ | (refine aw_if ?_ ?_ <;> intro hb <;> try exact no_) | (refine sx_ ?_ <;> intro bb) | (refine su_ ?_ <;> intro u hu1 hu2) | fail)
  exact ⟨_, [], rs_, List.nil_sublist _, Sub.refl _, rfl⟩
theorem f_fill (w h : Nat) (hb : w * h ≤ 100000) : AF Tryd.prog T0 48 [I w, I h] [] (fun A M' => ∃ u, A = aggA [I w, I h, vA u] ∧ M' = [rowO cellT 42 u (List.replicate (w * h) (32, 0))]) := by
  have hnn : (0 : Int) ≤ ((w * h : Nat) : Int) := Int.natCast_nonneg _
  refine af_intro Tryd.func48 rfl (by decide) Tryd.ntmps48 rfl ?_
  repeat' (first
  | refine g8_ ?_ | (refine aw_if ?_ ?_ <;> intro hb <;> try exact no_) | (refine sx_ ?_ <;> intro bb) | (refine su_ ?_ <;> intro u hu1 hu2) | fail)
  simp only [List.length_replicate]
  refine aw_for (fun k : Nat => [(0, I w), (1, I h), (4, vA (.pointer (some ⟨bb, 0, none⟩))), (5, vA u), (12, I (w * h : Nat)), (13, I k)]) (fun k => [rowO cellT 42 u (List.replicate k (32, 0) ++ List.replicate (w * h - k) (0, 0)), varO bb 27 [I 0, I 0, vA (.slice none 0 0)]]) (fun k => k ≤ w * h) (fun k => w * h - k) 0 (Nat.zero_le _) wk_ rfl ?_
  rintro k h1
  by_cases hlt : k < w * h
  · repeat' (first
    | refine g8_ ?_ | (refine aw_if ?_ ?_ <;> intro hb <;> try exact no_) | (refine sx_ ?_ <;> intro bb) | (refine su_ ?_ <;> intro u hu1 hu2) | fail)
    refine ⟨k + 1, by omega, by omega, wk_, ?_⟩
    rw [set_next _ _ _ _ _ (by simp) hlt, List.replicate_succ']
  · repeat' (first
    | refine g8_ ?_ | (refine aw_if ?_ ?_ <;> intro hb <;> try exact no_) | (refine sx_ ?_ <;> intro bb) | (refine su_ ?_ <;> intro u hu1 hu2) | fail)
    refine ⟨_, _, rs_, (List.Sublist.cons_cons _ (List.nil_sublist _)), u, rfl, ?_⟩
    rw [show w * h - k = 0 by omega, show k = w * h by omega, List.replicate_zero, List.append_nil]
theorem f_own (w h : Int) (l : List Cell) (hl : l.length ≤ 100000) : AF Tryd.prog T0 85 [gridA w h l] [] (fun A M' => ∃ u, A = aggA [I w, I h, vA u] ∧ M' = [rowO cellT 42 u l]) := by
  refine af_intro Tryd.func85 rfl (by decide) Tryd.ntmps85 rfl ?_
  repeat' (first
  | refine g8_ ?_ | (refine aw_if ?_ ?_ <;> intro hb <;> try exact no_) | (refine sx_ ?_ <;> intro bb) | (refine su_ ?_ <;> intro u hu1 hu2) | fail)
  refine ⟨_, _, rs_, (List.Sublist.cons_cons _ (List.nil_sublist _)), u, rfl, ?_⟩
  rw [List.length_replicate, List.take_length, show ovr (List.replicate l.length ((0, 0) : Cell)) 0 l = l by simp [ovr]]
def newR (w h : Int) : (Int × Int × List Cell) × Int := if sidesM w h then ((w, h, List.replicate (w.toNat * h.toNat) (32, 0)), 0) else ((0, 0, []), 4)
def grid2 (x : (Int × Int × List Cell) × Int) : AV := tupA [gridA x.1.1 x.1.2.1 x.1.2.2, I x.2]
theorem side_le {w h : Nat} (hw : w ≤ 80) (hh : h ≤ 24) : w * h ≤ 1920 := Nat.mul_le_mul hw hh
theorem sides_nat {w h : Int} (hs : sidesM w h = true) : ∃ w' h' : Nat, w = w' ∧ h = h' ∧ 2 ≤ w' ∧ w' ≤ 80 ∧ 1 ≤ h' ∧ h' ≤ 24 := by
  simp [sidesM] at hs
  exact ⟨w.toNat, h.toNat, by omega, by omega, by omega, by omega, by omega, by omega⟩
theorem f_NewO (w h : Nat) (h1 : 2 ≤ w) (h2 : w ≤ 80) (h3 : 1 ≤ h) (h4 : h ≤ 24) : AF Tryd.prog T0 32 [I w, I h] [] (fun A M' => ∃ u, A = tupA [aggA [I w, I h, vA u], I 0] ∧ M' = [rowO cellT 42 u (List.replicate (w * h) (32, 0))]) := by
  have hb := side_le h2 h4
  refine af_intro Tryd.func32 rfl (by decide) Tryd.ntmps32 rfl ?_
  repeat' (first
  | (refine al_call0 rfl rfl rfl rfl os_ (f_fill _ _ (by omega)) ?_; rintro _ _ ⟨u, rfl, rfl⟩; refine al_rowc (List.Mem.head _) fun hu1 hu2 => ?_) | refine g1_ ?_ | (refine aw_if ?_ ?_ <;> intro hb <;> try exact no_) | (refine sx_ ?_ <;> intro bb) | (refine su_ ?_ <;> intro u hu1 hu2) | fail)
  exact ⟨_, _, rs_, sl_, u, rfl, rfl⟩
theorem f_New (w h : Int) : AP Tryd.prog T0 32 [I w, I h] (grid2 (newR w h)) := by
  by_cases hs : sidesM w h = true
  · obtain ⟨w, h, rfl, rfl, h1, h2, h3, h4⟩ := sides_nat hs
    have := (f_NewO (T0 := T0) w h h1 h2 h3 h4).frz1 fza_
    simpa only [newR, hs, if_true, grid2, Int.toNat_natCast] using this
  · have hs' : ¬ (2 ≤ w ∧ w ≤ 80 ∧ 1 ≤ h ∧ h ≤ 24) := by simpa [sidesM, and_assoc] using hs
    refine af_intro Tryd.func32 rfl (by decide) Tryd.ntmps32 rfl ?_
    repeat' (first
    | (refine al_call0 rfl rfl rfl rfl os_ (f_fill _ _ (by omega)) ?_; rintro _ _ ⟨u, rfl, rfl⟩; refine al_rowc (List.Mem.head _) fun hu1 hu2 => ?_) | refine g1_ ?_ | (refine aw_if ?_ ?_ <;> intro hb <;> try exact no_) | (refine sx_ ?_ <;> intro bb) | (refine su_ ?_ <;> intro u hu1 hu2) | fail)
    refine ⟨_, [], rs_, List.nil_sublist _, ?_, rfl⟩
    simp only [newR, hs, grid2]; exact sub_noG
end
/- Layer 3 (grid): is a grid right? The program's answer and the reference's. No condition. -/
section
open Go Go.RowKit
variable {T0 : Gh} [TabS T0]
attribute [local irreducible] thenA inBlockA AW AL AO QY varO rowO rsA Opd OpdN vA gvA tupA aggA slA slcA ipA rpA EqK LnK IxK LdK FaK FdK
set_option maxRecDepth 100000
theorem rowF_step (row : List Cell) (i : Nat) (h : i < row.length) (want : Cell) : rowF (row.drop i) want = (isCell (cAt row i) && !((!decide (want = (0, 0))) != decide ((cAt row i).2 = 2) || (!decide (want = (0, 0))) && !decide (cAt row i = want)) && rowF (row.drop (i + 1)) (if (cAt row i).2 = 1 then ((cAt row i).1, 2) else (0, 0))) := by
  have e : row.drop i = cAt row i :: row.drop (i + 1) := by
    rw [List.drop_eq_getElem_cons h]; congr 1; simp [cAt, h]
  rw [e, rowF]
theorem f_rowIs (row : List Cell) (hl : row.length ≤ 100000) : AP Tryd.prog T0 68 [slA cellT row] (B (rowOk row)) := by
  refine af_intro Tryd.func68 rfl (by decide) Tryd.ntmps68 rfl ?_
  repeat' (first
  | refine g11_ ?_ | (refine aw_if ?_ ?_ <;> intro hb <;> try exact no_) | (refine sx_ ?_ <;> intro bb) | (refine su_ ?_ <;> intro u hu1 hu2) | fail)
  refine aw_fl2 (fun (k : Nat) (want : Cell) => [(3, vA (.pointer (some ⟨bb, 0, none⟩))), (8, slA cellT row), (9, I row.length), (10, I k)]) (fun k want => [varO bb 42 [R want.1, I want.2]]) (fun k want => k ≤ row.length ∧ rowOk row = rowF (row.drop k) want) (fun k _ => row.length - k) 0 (0, 0) ⟨Nat.zero_le _, rfl⟩ wk_ sl_ ?_
  rintro k ⟨w1, w2⟩ ⟨h1, h2⟩
  by_cases hlt : k < row.length
  · have hst := rowF_step row k hlt (w1, w2)
    rw [← h2] at hst
    have hat := c_in hlt
    generalize cAt row k = c at *
    obtain ⟨c1, c2⟩ := c
    repeat' (first
    | refine g11_ ?_ | (refine aw_if ?_ ?_ <;> intro hb <;> try exact no_) | (refine sx_ ?_ <;> intro bb) | (refine su_ ?_ <;> intro u hu1 hu2) | fail)
    · refine ⟨_, [], rs_, List.nil_sublist _, Sub.eq (congrArg B ?_), rfl⟩
      rw [eq_comm, hst]; simp_all
    · refine ⟨_, [], rs_, List.nil_sublist _, Sub.eq (congrArg B ?_), rfl⟩
      rw [eq_comm, hst, Bool.and_eq_false_iff, Bool.and_eq_false_iff]
      left; right
      simp only [Bool.not_eq_false', Bool.or_eq_true]
      simp only [bne_iff_ne, ne_eq, Bool.and_eq_true, Bool.not_eq_true', decide_eq_false_iff_not, beq_eq_false_iff_ne, Bool.not_eq_true] at hb ⊢
      exact hb
    · refine ⟨k + 1, (c1, 2), ⟨by omega, ?_⟩, by omega, wk_, sl_⟩
      rw [hst]; simp_all
    · refine ⟨k + 1, (0, 0), ⟨by omega, ?_⟩, by omega, wk_, sl_⟩
      rename_i e1 _ e2
      have m : (!((!decide ((w1, w2) = ((0, 0) : Cell))) != decide ((c1, c2).2 = 2) || (!decide ((w1, w2) = ((0, 0) : Cell))) && !decide ((c1, c2) = (w1, w2)))) = true := by
        clear hst h2 e1 hat
        by_cases a : (w1, w2) = ((0, 0) : Cell) <;> by_cases b : c2 = 2 <;> by_cases d : (c1, c2) = (w1, w2) <;> simp_all
        all_goals omega
      rw [hst, m, if_neg hb]; simp_all
  · repeat' (first
    | refine g11_ ?_ | (refine aw_if ?_ ?_ <;> intro hb <;> try exact no_) | (refine sx_ ?_ <;> intro bb) | (refine su_ ?_ <;> intro u hu1 hu2) | fail)
    refine ⟨_, [], rs_, List.nil_sublist _, Sub.eq (congrArg B ?_), rfl⟩
    rw [h2, List.drop_of_length_le (by omega)]; rfl
theorem f_IsA (w h : Int) (l : List Cell) : AP Tryd.prog T0 46 [gridA w h l] (B (okG w h l)) := by
  by_cases hs : sidesM w h = true
  · obtain ⟨w, h, rfl, rfl, h1, h2, h3, h4⟩ := sides_nat hs
    have hb := side_le h2 h4
    have hnn : (0 : Int) ≤ ((w * h : Nat) : Int) := Int.natCast_nonneg _
    by_cases hlen : l.length = w * h
    · have hl : l.length ≤ 3000 := by omega
      have hro := rows_ok w h l h1 hlen
      have hok : okG w h l = true ↔ ∀ y, y < h → rowOk ((l.drop (y * w)).take ((y + 1) * w - y * w)) = true := by
        rw [hro, okG, decide_eq_true_eq, OkG]
        constructor
        · rintro ⟨_, _, k⟩; simpa using k
        · intro k; exact ⟨by omega, by rw [hlen]; simp, by simpa using k⟩
      refine af_intro Tryd.func46 rfl (by decide) Tryd.ntmps46 rfl ?_
      repeat' (first
      | refine g10_ ?_ | (refine aw_if ?_ ?_ <;> intro hb <;> try exact no_) | (refine sx_ ?_ <;> intro bb) | (refine su_ ?_ <;> intro u hu1 hu2) | fail)
      all_goals first | exact e1_ | skip
      refine aw_fl (fun y : Nat => [(1, vA (.pointer (some ⟨bb, 0, none⟩))), (34, I h), (35, I y)]) (fun _ => [varO bb 27 [I w, I h, slA cellT l]]) (fun y => y ≤ h ∧ ∀ y', y' < y → rowOk ((l.drop (y' * w)).take ((y' + 1) * w - y' * w)) = true) (fun y => h - y) 0 ⟨Nat.zero_le _, fun _ k => absurd k (Nat.not_lt_zero _)⟩ wk_ sl_ ?_
      rintro y ⟨i1, i2⟩
      by_cases hlt : y < h
      · have m1 : (y + 1) * w = y * w + w := by rw [Nat.add_mul, Nat.one_mul]
        have m2 : (y + 1) * w ≤ l.length := by rw [hlen, Nat.mul_comm w h]; exact Nat.mul_le_mul_right _ hlt
        have m3 : (0 : Int) ≤ ((y * w : Nat) : Int) := Int.natCast_nonneg _
        have m4 : (0 : Int) ≤ (((y + 1) * w : Nat) : Int) := Int.natCast_nonneg _
        repeat' (first
        | refine g10_ ?_ | (refine aw_if ?_ ?_ <;> intro hb <;> try exact no_) | (refine sx_ ?_ <;> intro bb) | (refine su_ ?_ <;> intro u hu1 hu2) | fail)
        · refine ⟨_, [], rs_, List.nil_sublist _, Sub.eq (congrArg B ?_), rfl⟩
          rw [eq_comm, ← Bool.not_eq_true, hok]
          intro k; rw [k y hlt] at hb; cases hb
        · refine ⟨y + 1, ⟨by omega, fun y' hy => ?_⟩, by omega, wk_, sl_⟩
          by_cases e : y' = y
          · subst e; exact hb
          · exact i2 y' (by omega)
      · repeat' (first
        | refine g10_ ?_ | (refine aw_if ?_ ?_ <;> intro hb <;> try exact no_) | (refine sx_ ?_ <;> intro bb) | (refine su_ ?_ <;> intro u hu1 hu2) | fail)
        refine ⟨_, [], rs_, List.nil_sublist _, Sub.eq (congrArg B ?_), rfl⟩
        exact (hok.2 fun y' hy => i2 y' (by omega)).symm
    · have hok : okG w h l = false := by
        rw [okG, decide_eq_false_iff_not]; rintro ⟨_, k, _⟩; exact hlen (by rw [← Int.natCast_mul] at k; omega)
      rw [hok]
      refine af_intro Tryd.func46 rfl (by decide) Tryd.ntmps46 rfl ?_
      repeat' (first
      | refine g10_ ?_ | (refine aw_if ?_ ?_ <;> intro hb <;> try exact no_) | (refine sx_ ?_ <;> intro bb) | (refine su_ ?_ <;> intro u hu1 hu2) | fail)
      all_goals first | exact ⟨_, [], rs_, List.nil_sublist _, Sub.refl _, rfl⟩ | (exfalso; omega)
  · have hs' : ¬ (2 ≤ w ∧ w ≤ 80 ∧ 1 ≤ h ∧ h ≤ 24) := by simpa [sidesM, and_assoc] using hs
    have hok : okG w h l = false := by
      rw [okG, decide_eq_false_iff_not]; rintro ⟨k, _, _⟩; exact hs' k
    rw [hok]
    refine af_intro Tryd.func46 rfl (by decide) Tryd.ntmps46 rfl ?_
    repeat' (first
    | refine g10_ ?_ | (refine aw_if ?_ ?_ <;> intro hb <;> try exact no_) | (refine sx_ ?_ <;> intro bb) | (refine su_ ?_ <;> intro u hu1 hu2) | fail)
    all_goals first | exact ⟨_, [], rs_, List.nil_sublist _, Sub.refl _, rfl⟩ | (exfalso; omega)
theorem f_Is (w h : Int) (l : List Cell) (hl : l.length ≤ 3000) : AP Tryd.prog T0 46 [gridA w h l] (B (okG w h l)) := f_IsA w h l
theorem okG_nat {w h : Int} {l : List Cell} (hs : okG w h l = true) : ∃ w' h' : Nat, w = w' ∧ h = h' ∧ 2 ≤ w' ∧ w' ≤ 80 ∧ 1 ≤ h' ∧ h' ≤ 24 ∧ l.length = w' * h' ∧ ∀ i, i < l.length → isCell (cAt l i) = true ∧ lostM w' l i = false := by
  obtain ⟨⟨a, b, c, d⟩, e, f⟩ := of_decide_eq_true hs
  obtain ⟨w', rfl⟩ := Int.eq_ofNat_of_zero_le (show 0 ≤ w by omega)
  obtain ⟨h', rfl⟩ := Int.eq_ofNat_of_zero_le (show 0 ≤ h by omega)
  exact ⟨w', h', rfl, rfl, by omega, by omega, by omega, by omega, by rw [← Int.natCast_mul] at e; omega, by simpa using f⟩
theorem cell_pos {w h x y : Nat} (hx : x < w) (hy : y < h) : y * w + x < w * h := by
  have h1 : (y + 1) * w ≤ h * w := Nat.mul_le_mul_right _ hy
  rw [Nat.add_mul, Nat.one_mul, Nat.mul_comm h w] at h1; omega
noncomputable def atR (w h : Int) (l : List Cell) (x y : Int) : Cell × Int := if okG w h l = true ∧ 0 ≤ x ∧ x < w ∧ 0 ≤ y ∧ y < h then (cAt l (y.toNat * w.toNat + x.toNat), 0) else ((0, 0), 1)
def at2 (x : Cell × Int) : AV := tupA [cellA x.1, I x.2]
theorem f_At (w h : Int) (l : List Cell) (hl : l.length ≤ 3000) (x y : Int) : AP Tryd.prog T0 84 [gridA w h l, I x, I y] (at2 (atR w h l x y)) := by
  by_cases hc : okG w h l = true ∧ 0 ≤ x ∧ x < w ∧ 0 ≤ y ∧ y < h
  · have hc' := hc
    obtain ⟨hok, x1, x2, y1, y2⟩ := hc
    obtain ⟨w, h, rfl, rfl, h1, h2, h3, h4, hlen, _⟩ := okG_nat hok
    obtain ⟨x, rfl⟩ := Int.eq_ofNat_of_zero_le x1
    obtain ⟨y, rfl⟩ := Int.eq_ofNat_of_zero_le y1
    have hp := cell_pos (show x < w by omega) (show y < h by omega)
    have hb := side_le h2 h4
    have m3 : (0 : Int) ≤ ((y * w : Nat) : Int) := Int.natCast_nonneg _
    have hat := c_in (l := l) (i := y * w + x) (by omega)
    have cf : AP Tryd.prog T0 46 [gridA w h l] (B true) := hok ▸ f_Is w h l hl
    refine af_intro Tryd.func84 rfl (by decide) Tryd.ntmps84 rfl ?_
    repeat' (first
    | refine g9_ ?_ | (refine aw_if ?_ ?_ <;> intro hb <;> try exact no_) | (refine sx_ ?_ <;> intro bb) | (refine su_ ?_ <;> intro u hu1 hu2) | fail)
    all_goals first | (exfalso; simp [hok] at hb; omega) | skip
    refine ⟨_, [], rs_, List.nil_sublist _, Sub.eq ?_, rfl⟩
    simp only [at2, atR, if_pos hc', Int.toNat_natCast]; rfl
  · refine af_intro Tryd.func84 rfl (by decide) Tryd.ntmps84 rfl ?_
    repeat' (first
    | refine g9_ ?_ | (refine aw_if ?_ ?_ <;> intro hb <;> try exact no_) | (refine sx_ ?_ <;> intro bb) | (refine su_ ?_ <;> intro u hu1 hu2) | fail)
    all_goals first | (exfalso; exact hc ⟨by simp_all, by omega, by omega, by omega, by omega⟩) | skip
    refine ⟨_, [], rs_, List.nil_sublist _, Sub.eq ?_, rfl⟩
    simp only [at2, atR, if_neg hc]; rfl
end
/- Layer 3 (grid): cells are laid into a grid: put, blank, scroll. No condition. -/
section
open Go Go.RowKit
variable {T0 : Gh} [TabS T0]
attribute [local irreducible] thenA inBlockA AW AL AO QY varO rowO rsA Opd OpdN vA gvA tupA aggA slA slcA ipA rpA EqK LnK IxK LdK FaK FdK
set_option maxRecDepth 100000
/-- what 'lay' makes of a list -/
def layG (l : List Cell) (at_ : Nat) (cs : List Cell) : List Cell :=
  if cs = [] then l else
    let l1 := if (cAt l at_).2 = 2 then l.set (at_ - 1) (32, 0) else l
    let l2 := if (cAt l1 (at_ + cs.length - 1)).2 = 1 then l1.set (at_ + cs.length) (32, 0) else l1
    ovr l2 at_ cs
theorem layG_len {l : List Cell} {a : Nat} {cs : List Cell} (h : a + cs.length ≤ l.length) : (layG l a cs).length = l.length := by
  unfold layG
  split
  · rfl
  · simp only
    have e : ∀ (c : Prop) [Decidable c] (m : List Cell) (j : Nat), (if c then m.set j (32, 0) else m).length = m.length := fun c _ m j => by split <;> simp
    rw [ovr_len (by rw [e, e]; exact h), e, e]
theorem f_lay (u : Value) (l : List Cell) (a : Nat) (cs : List Cell) (hl : l.length ≤ 100000) (h : a + cs.length ≤ l.length)
    (hA : cs ≠ [] → (cAt l a).2 = 2 → 1 ≤ a) (hB : cs ≠ [] → (cAt l (a + cs.length - 1)).2 = 1 → a + cs.length < l.length) :
    AF Tryd.prog T0 86 [vA u, I a, slA cellT cs] [rowO cellT 42 u l] (fun _ M' => M' = [rowO cellT 42 u (layG l a cs)]) := by
  by_cases hcs : cs = []
  · have h0 : cs.length = 0 := by rw [hcs]; rfl
    refine af_intro Tryd.func86 rfl (by decide) Tryd.ntmps86 rfl ?_
    repeat' (first
    | refine g8_ ?_ | (refine aw_if ?_ ?_ <;> intro hb <;> try exact no_) | (refine sx_ ?_ <;> intro bb) | (refine su_ ?_ <;> intro u hu1 hu2) | fail)
    exact ⟨_, _, rs_, List.Sublist.refl _, by rw [layG, if_pos hcs]⟩
  · have hpos : 0 < cs.length := List.length_pos_iff.2 hcs
    have hat := c_in (l := l) (i := a) (by omega)
    have hA1 := hA hcs
    have hB1 := hB hcs
    have hB2 : 1 ≤ a → (cAt (l.set (a - 1) (32, 0)) (a + cs.length - 1)).2 = 1 → a + cs.length < l.length := fun h1 => by
      rw [cAt_set _ _ _ _ (by omega), if_neg (by omega)]; exact hB1
    have htk : cs.take (a + cs.length - a) = cs := List.take_of_length_le (by omega)
    refine af_intro Tryd.func86 rfl (by decide) Tryd.ntmps86 rfl ?_
    repeat' (first
    | refine g8_ ?_ | (refine aw_if ?_ ?_ <;> intro hb <;> try exact no_) | (refine sx_ ?_ <;> intro bb) | (refine su_ ?_ <;> intro u hu1 hu2) | fail)
    all_goals refine ⟨_, _, rs_, List.Sublist.refl _, ?_⟩
    all_goals rw [htk, layG, if_neg hcs]
    · rename_i e1; simp only [if_pos e1, if_pos hb]
    · rename_i e1; simp only [if_pos e1, if_neg hb]
    · rename_i e1; simp only [if_neg e1, if_pos hb]
    · rename_i e1; simp only [if_neg e1, if_neg hb]
theorem f_fillF (w h : Nat) (hb : w * h ≤ 100000) : AP Tryd.prog T0 48 [I w, I h] (gridA w h (List.replicate (w * h) (32, 0))) := (f_fill w h hb).frz1 fza_
theorem last_mod {w h j : Nat} (hw : 1 ≤ w) (h1 : 1 ≤ h) (e : j + 1 = w * h) : j % w = w - 1 := by
  obtain ⟨k, rfl⟩ : ∃ k, h = k + 1 := ⟨h - 1, by omega⟩
  have : j = (w - 1) + w * k := by rw [Nat.mul_add, Nat.mul_one] at e; omega
  rw [this, Nat.add_mul_mod_self_left, Nat.mod_eq_of_lt (by omega)]
theorem ok_left {w : Nat} {l : List Cell} {i : Nat} (hk : lostM w l i = false) (h2 : (cAt l i).2 = 2) : 1 ≤ i := by
  have := ((lost_false.1 hk).2 h2).1
  rcases Nat.eq_zero_or_pos i with h | h
  · subst h; simp at this
  · exact h
theorem ok_right {w h : Nat} {l : List Cell} {i : Nat} (hw : 1 ≤ w) (h1 : 1 ≤ h) (hl : l.length = w * h) (hi : i < l.length) (hk : lostM w l i = false) (h2 : (cAt l i).2 = 1) : i + 1 < l.length := by
  have h3 := ((lost_false.1 hk).1 h2).1
  rcases Nat.lt_or_ge (i + 1) l.length with h | h
  · exact h
  · exact absurd (last_mod hw h1 (by omega)) h3
theorem f_layOk (w h : Nat) (u : Value) (l : List Cell) (a : Nat) (cs : List Cell) (hl : l.length = w * h) (hb : w * h ≤ 1920) (h1 : 1 ≤ w) (h2 : 1 ≤ h) (hok : ∀ i, i < l.length → isCell (cAt l i) = true ∧ lostM w l i = false) (hac : a + cs.length ≤ l.length) :
    AF Tryd.prog T0 86 [vA u, I a, slA cellT cs] [rowO cellT 42 u l] (fun _ M' => M' = [rowO cellT 42 u (layG l a cs)]) :=
  f_lay u l a cs (by omega) hac (fun hc => by have := List.length_pos_iff.2 hc; exact ok_left (hok a (by omega)).2) (fun hc hk => by
    have hp := List.length_pos_iff.2 hc
    have := ok_right h1 h2 hl (by omega) (hok (a + cs.length - 1) (by omega)).2 hk
    omega)
end
/- Layer 3 (grid): put, blank, scroll. No condition. -/
section
open Go Go.RowKit
variable {T0 : Gh} [TabS T0]
attribute [local irreducible] thenA inBlockA AW AL AO QY varO rowO rsA Opd OpdN vA gvA tupA aggA slA slcA ipA rpA EqK LnK IxK LdK FaK FdK
set_option maxRecDepth 100000
noncomputable def putR (w h : Int) (l : List Cell) (x y r : Int) : (Int × Int × List Cell) × Int := if (okG w h l = true ∧ 0 ≤ x ∧ x < w ∧ 0 ≤ y ∧ y < h) ∧ shown r = true ∧ x + (cellsM r).length ≤ w then ((w, h, layG l (y.toNat * w.toNat + x.toNat) (cellsM r)), 0) else ((0, 0, []), 1)
theorem f_PutO (w h : Nat) (l : List Cell) (x y : Nat) (r : Int) (hl : l.length ≤ 3000) (hc : okG w h l = true ∧ (0 : Int) ≤ x ∧ (x : Int) < w ∧ (0 : Int) ≤ y ∧ (y : Int) < h) (hs : shown r = true) (hx : x + (cellsM r).length ≤ w) :
    AF Tryd.prog T0 72 [gridA w h l, I x, I y, R r] [] (fun A M' => ∃ u, A = tupA [aggA [I w, I h, vA u], I 0] ∧ M' = [rowO cellT 42 u (layG l (y * w + x) (cellsM r))]) := by
  obtain ⟨w', h', e1, e2, h1, h2, h3, h4, hlen, hall⟩ := okG_nat hc.1
  obtain rfl : w = w' := by omega
  obtain rfl : h = h' := by omega
  have hn := cellsM_len r
  have hp := cell_pos (show x + (cellsM r).length - 1 < w by omega) (show y < h by omega)
  have hb := side_le h2 h4
  have m3 : (0 : Int) ≤ ((y * w : Nat) : Int) := Int.natCast_nonneg _
  have c1 : AP Tryd.prog T0 84 [gridA w h l, I x, I y] (tupA [cellA (cAt l (y * w + x)), I 0]) := (f_At w h l hl x y).to (by simp only [at2, atR, if_pos hc, Int.toNat_natCast])
  have cl := fun u => f_layOk (T0 := T0) w h u l (y * w + x) (cellsM r) hlen hb (by omega) h3 hall (by omega)
  have co := f_own (T0 := T0) w h l (by omega)
  clear hall
  refine af_intro Tryd.func72 rfl (by decide) Tryd.ntmps72 rfl ?_
  repeat' (first
  | (apply al_call0 rfl rfl rfl rfl (c := co)
     case ha => repeat' (first | exact opds0 | apply opds1 oo_)
     rintro _ _ ⟨u, rfl, rfl⟩; refine al_rowc (List.Mem.head _) fun hu1 hu2 => ?_)
    | (apply al_call1 rfl rfl rfl rfl (c := cl _)
       case ha => repeat' (first | exact opds0 | apply opds1 oo_)
       case hM => repeat' (first | exact Pick.here | apply Pick.next)
       rintro _ _ rfl)
  | refine g7_ ?_ | (refine aw_if ?_ ?_ <;> intro hb <;> try exact no_) | (refine sx_ ?_ <;> intro bb) | (refine su_ ?_ <;> intro u hu1 hu2) | fail)
  all_goals first | (exfalso; simp [hs] at hb; omega) | skip
  exact ⟨_, _, rs_, sl_, u, rfl, rfl⟩
theorem f_Put (w h : Int) (l : List Cell) (x y r : Int) (hl : l.length ≤ 3000) : AP Tryd.prog T0 72 [gridA w h l, I x, I y, R r] (grid2 (putR w h l x y r)) := by
  by_cases hc : (okG w h l = true ∧ 0 ≤ x ∧ x < w ∧ 0 ≤ y ∧ y < h) ∧ shown r = true ∧ x + (cellsM r).length ≤ w
  · have hc' := hc
    obtain ⟨⟨hok, x1, x2, y1, y2⟩, hs, hx⟩ := hc
    obtain ⟨w, h, rfl, rfl, _⟩ := okG_nat hok
    obtain ⟨x, rfl⟩ := Int.eq_ofNat_of_zero_le x1
    obtain ⟨y, rfl⟩ := Int.eq_ofNat_of_zero_le y1
    have := (f_PutO (T0 := T0) w h l x y r hl hc'.1 hs (by omega)).frz1 fza_
    simpa only [putR, if_pos hc', grid2, Int.toNat_natCast] using this
  · have c1 : AP Tryd.prog T0 84 [gridA w h l, I x, I y] (tupA [cellA (atR w h l x y).1, I (atR w h l x y).2]) := f_At w h l hl x y
    have hw : (atR w h l x y).2 = 0 → (okG w h l = true ∧ 0 ≤ x ∧ x < w ∧ 0 ≤ y ∧ y < h) := fun e => by
      by_cases k : okG w h l = true ∧ 0 ≤ x ∧ x < w ∧ 0 ≤ y ∧ y < h
      · exact k
      · simp [atR, k] at e
    have hw2 : (atR w h l x y).2 = 0 → 0 ≤ x ∧ x ≤ 80 := fun e => by
      obtain ⟨k, k1, k2, _⟩ := hw e
      obtain ⟨w', h', rfl, rfl, _, k3, _⟩ := okG_nat k
      omega
    have hn := cellsM_len r
    generalize (atR w h l x y).1 = c at *
    generalize (atR w h l x y).2 = e at *
    refine af_intro Tryd.func72 rfl (by decide) Tryd.ntmps72 rfl ?_
    repeat' (first
    | (apply al_call0 rfl rfl rfl rfl (c := co)
       case ha => repeat' (first | exact opds0 | apply opds1 oo_)
       rintro _ _ ⟨u, rfl, rfl⟩; refine al_rowc (List.Mem.head _) fun hu1 hu2 => ?_)
      | (apply al_call1 rfl rfl rfl rfl (c := cl _)
         case ha => repeat' (first | exact opds0 | apply opds1 oo_)
         case hM => repeat' (first | exact Pick.here | apply Pick.next)
         rintro _ _ rfl)
    | refine g7_ ?_ | (refine aw_if ?_ ?_ <;> intro hb <;> try exact no_) | (refine sx_ ?_ <;> intro bb) | (refine su_ ?_ <;> intro u hu1 hu2) | fail)
    all_goals first | (exfalso; obtain ⟨⟨q1, q2⟩, q3⟩ := hb; exact hc ⟨hw q1, by simpa using q2, by omega⟩) | skip
    refine ⟨_, [], rs_, List.nil_sublist _, ?_, rfl⟩
    simp only [putR, if_neg hc, grid2]; exact sub_noG
noncomputable def blankR (w h : Int) (l : List Cell) (a b : Int) : (Int × Int × List Cell) × Int := if okG w h l = true ∧ 0 ≤ a ∧ a ≤ b ∧ b ≤ l.length then ((w, h, layG l a.toNat (List.replicate (b - a).toNat (32, 0))), 0) else ((0, 0, []), 1)
theorem f_BlankO (w h : Nat) (l : List Cell) (a b : Nat) (hl : l.length ≤ 3000) (hc : okG w h l = true) (hab : a ≤ b) (hbl : b ≤ l.length) :
    AF Tryd.prog T0 87 [gridA w h l, I a, I b] [] (fun A M' => ∃ u, A = tupA [aggA [I w, I h, vA u], I 0] ∧ M' = [rowO cellT 42 u (layG l a (List.replicate (b - a) (32, 0)))]) := by
  obtain ⟨w', h', e1, e2, h1, h2, h3, h4, hlen, hall⟩ := okG_nat hc
  obtain rfl : w = w' := by omega
  obtain rfl : h = h' := by omega
  have hb := side_le h2 h4
  have c1 : AP Tryd.prog T0 46 [gridA w h l] (B true) := hc ▸ f_Is w h l hl
  have c2 : AP Tryd.prog T0 48 [I (b - a : Nat), I 1] (gridA (b - a : Nat) 1 (List.replicate (b - a) (32, 0))) := (f_fillF (b - a) 1 (by omega)).to (by rw [Nat.mul_one]; rfl)
  have cl := fun u => f_layOk (T0 := T0) w h u l a (List.replicate (b - a) (32, 0)) hlen hb (by omega) h3 hall (by simp; omega)
  have co := f_own (T0 := T0) w h l (by omega)
  clear hall
  refine af_intro Tryd.func87 rfl (by decide) Tryd.ntmps87 rfl ?_
  repeat' (first
  | (apply al_call0 rfl rfl rfl rfl (c := co)
     case ha => repeat' (first | exact opds0 | apply opds1 oo_)
     rintro _ _ ⟨u, rfl, rfl⟩; refine al_rowc (List.Mem.head _) fun hu1 hu2 => ?_)
    | (apply al_call1 rfl rfl rfl rfl (c := cl _)
       case ha => repeat' (first | exact opds0 | apply opds1 oo_)
       case hM => repeat' (first | exact Pick.here | apply Pick.next)
       rintro _ _ rfl)
  | refine g6_ ?_ | (refine aw_if ?_ ?_ <;> intro hb <;> try exact no_) | (refine sx_ ?_ <;> intro bb) | (refine su_ ?_ <;> intro u hu1 hu2) | fail)
  all_goals first | (exfalso; simp at hb; omega) | skip
  exact ⟨_, _, rs_, sl_, u, rfl, rfl⟩
theorem f_Blank (w h : Int) (l : List Cell) (a b : Int) (hl : l.length ≤ 3000) : AP Tryd.prog T0 87 [gridA w h l, I a, I b] (grid2 (blankR w h l a b)) := by
  by_cases hc : okG w h l = true ∧ 0 ≤ a ∧ a ≤ b ∧ b ≤ l.length
  · have hc' := hc
    obtain ⟨hok, x1, x2, x3⟩ := hc
    obtain ⟨w, h, rfl, rfl, _⟩ := okG_nat hok
    obtain ⟨a, rfl⟩ := Int.eq_ofNat_of_zero_le x1
    obtain ⟨b, rfl⟩ := Int.eq_ofNat_of_zero_le (show 0 ≤ b by omega)
    have := (f_BlankO (T0 := T0) w h l a b hl hok (by omega) (by omega)).frz1 fza_
    simpa only [blankR, if_pos hc', grid2, Int.toNat_natCast, show ((b : Int) - (a : Int)).toNat = b - a by omega] using this
  · refine af_intro Tryd.func87 rfl (by decide) Tryd.ntmps87 rfl ?_
    repeat' (first
    | (apply al_call0 rfl rfl rfl rfl (c := co)
       case ha => repeat' (first | exact opds0 | apply opds1 oo_)
       rintro _ _ ⟨u, rfl, rfl⟩; refine al_rowc (List.Mem.head _) fun hu1 hu2 => ?_)
      | (apply al_call1 rfl rfl rfl rfl (c := cl _)
         case ha => repeat' (first | exact opds0 | apply opds1 oo_)
         case hM => repeat' (first | exact Pick.here | apply Pick.next)
         rintro _ _ rfl)
    | refine sa_ ?_ | refine s_call ?_ (c := by first | exact f_Is _ _ _ hl | fail) | refine s_yg ?_ | refine s_callg ?_ (c := by intro hk hk2; first | exact f_Is _ _ _ hl | fail) | refine sw_ ?_ | (refine aw_if ?_ ?_ <;> intro hb <;> try exact no_) | (refine sx_ ?_ <;> intro bb) | (refine su_ ?_ <;> intro u hu1 hu2) | fail)
    all_goals first | (exfalso; obtain ⟨⟨⟨q1, q2⟩, q3⟩, q4⟩ := hb; exact hc ⟨by simpa using q1, by omega, by omega, by omega⟩) | skip
    refine ⟨_, [], rs_, List.nil_sublist _, ?_, rfl⟩
    simp only [blankR, if_neg hc, grid2]; exact sub_noG
end
/- Layer 3 (grid): scroll; the reference's small functions. No condition. -/
section
open Go Go.RowKit
variable {T0 : Gh} [TabS T0]
attribute [local irreducible] thenA inBlockA AW AL AO QY varO rowO rsA Opd OpdN vA gvA tupA aggA slA slcA ipA rpA EqK LnK IxK LdK FaK FdK
set_option maxRecDepth 100000
noncomputable def scrollR (w h : Int) (l : List Cell) : List Cell := if okG w h l = true then l.drop w.toNat ++ List.replicate w.toNat (32, 0) else l
theorem f_ScrollO (w h : Nat) (l : List Cell) (hl : l.length ≤ 3000) (hc : okG w h l = true) : AF Tryd.prog T0 75 [gridA w h l] [] (fun A M' => ∃ u, A = aggA [I w, I h, vA u] ∧ M' = [rowO cellT 42 u (l.drop w ++ List.replicate w (32, 0))]) := by
  obtain ⟨w', h', e1, e2, h1, h2, h3, h4, hlen, hall⟩ := okG_nat hc
  obtain rfl : w = w' := by omega
  obtain rfl : h = h' := by omega
  have hb := side_le h2 h4
  have hwl : w ≤ l.length := by rw [hlen]; exact Nat.le_mul_of_pos_right w h3
  have c1 : AP Tryd.prog T0 46 [gridA w h l] (B true) := hc ▸ f_Is w h l hl
  have co := f_fill (T0 := T0) w h (by omega)
  clear hall
  refine af_intro Tryd.func75 rfl (by decide) Tryd.ntmps75 rfl ?_
  repeat' (first
  | (apply al_call0 rfl rfl rfl rfl (c := co)
     case ha => repeat' (first | exact opds0 | apply opds1 oo_)
     rintro _ _ ⟨u, rfl, rfl⟩; refine al_rowc (List.Mem.head _) fun hu1 hu2 => ?_)
  | refine g4_ ?_ | (refine aw_if ?_ ?_ <;> intro hb <;> try exact no_) | (refine sx_ ?_ <;> intro bb) | (refine su_ ?_ <;> intro u hu1 hu2) | fail)
  all_goals first | (exfalso; simp at hb; done) | skip
  have e : ovr (List.replicate (w * h) ((32, 0) : Cell)) 0 (((l.drop w).take (l.length - w)).take (List.replicate (w * h) ((32, 0) : Cell)).length) = l.drop w ++ List.replicate w (32, 0) := by
    rw [List.length_replicate, List.take_of_length_le (i := w * h) (by rw [List.length_take]; omega), List.take_of_length_le (by rw [List.length_drop]; omega)]
    simp only [ovr, List.take_zero, List.nil_append, List.length_drop, List.drop_replicate, Nat.zero_add]
    rw [show w * h - (l.length - w) = w by omega]
  exact ⟨_, [rowO cellT 42 u (ovr (List.replicate (w * h) ((32, 0) : Cell)) 0 (((l.drop w).take (l.length - w)).take (List.replicate (w * h) ((32, 0) : Cell)).length))], rs_, sl_, u, rfl, by rw [e]⟩
theorem f_Scroll (w h : Int) (l : List Cell) (hl : l.length ≤ 3000) : AP Tryd.prog T0 75 [gridA w h l] (gridA w h (scrollR w h l)) := by
  by_cases hc : okG w h l = true
  · obtain ⟨w, h, rfl, rfl, _⟩ := okG_nat hc
    have := (f_ScrollO (T0 := T0) w h l hl hc).frz1 fza_
    simpa only [scrollR, if_pos hc, Int.toNat_natCast] using this
  · have hc' : okG w h l = false := by simpa using hc
    have c1 : AP Tryd.prog T0 46 [gridA w h l] (B false) := hc' ▸ f_Is w h l hl
    refine af_intro Tryd.func75 rfl (by decide) Tryd.ntmps75 rfl ?_
    repeat' (first
    | refine g4_ ?_ | (refine aw_if ?_ ?_ <;> intro hb <;> try exact no_) | (refine sx_ ?_ <;> intro bb) | (refine su_ ?_ <;> intro u hu1 hu2) | fail)
    all_goals first | (exfalso; simp at hb; done) | skip
    refine ⟨_, [], rs_, List.nil_sublist _, ?_, rfl⟩
    simp only [scrollR, hc', gridA]; exact Sub.refl _
end
/- Layer 3 (grid): the reference's new grid, its cell, and sameness. No condition. -/
section
open Go Go.RowKit
variable {T0 : Gh} [TabS T0]
attribute [local irreducible] thenA inBlockA AW AL AO QY varO rowO rsA Opd OpdN vA gvA tupA aggA slA slcA ipA rpA EqK LnK IxK LdK FaK FdK
set_option maxRecDepth 100000
end
/- Layer 3 (grid): a grid of other sides. No condition. -/
section
open Go Go.RowKit
variable {T0 : Gh} [TabS T0]
set_option maxRecDepth 100000
attribute [local irreducible] thenA inBlockA AW AL AO QY varO rowO rsA Opd OpdN vA gvA tupA aggA slA slcA ipA rpA EqK LnK IxK LdK FaK FdK
end
/- Layer 3 (grid): the example. No condition. -/
section
open Go Go.RowKit
variable {T0 : Gh} [TabS T0]
set_option maxRecDepth 100000
def okB (w h : Int) (l : List Cell) : Bool := sidesM w h && decide ((l.length : Int) = w * h) && (List.range l.length).all fun i => isCell (cAt l i) && !lostM w.toNat l i
theorem okG_eq (w h : Int) (l : List Cell) : okG w h l = okB w h l := by
  rw [Bool.eq_iff_iff, okG, decide_eq_true_eq, OkG, okB]
  simp [sidesM, and_assoc]
/-- a contract's arguments may be told more narrowly -/
theorem AF.pre {P : Program} {T0 : Gh} {f : FuncId} {As As' : List AV} {M : List Own} {K : AV → List Own → Prop} {KP : List PanicEntry → List Own → Prop} (h : AF P T0 f As M K KP) (s : SubL As' As) : AF P T0 f As' M K KP := ⟨h.able, fun w0 G F w vs hs hr => h.calls w0 G F w vs hs (s.rep hr)⟩
attribute [local irreducible] thenA inBlockA AW AL AO QY varO rowO rsA Opd OpdN vA gvA tupA aggA slA slcA ipA rpA EqK LnK IxK LdK FaK FdK
/-! ### the laws -/
end
/- Layer 3 (grid): the reference mends a grid. No condition. -/
section
open Go Go.RowKit
variable {T0 : Gh} [TabS T0]
set_option maxRecDepth 100000
attribute [local irreducible] thenA inBlockA AW AL AO QY varO rowO rsA Opd OpdN vA gvA tupA aggA slA slcA ipA rpA EqK LnK IxK LdK FaK FdK
end
/- Layer 3 (grid), a plain law: cells that are whole in themselves, laid into a right grid and mended, are what the program lays. No condition. -/
section
open Go Go.RowKit
set_option maxRecDepth 100000
/-- cells that are whole in themselves, from the place a on -/
def WholeIn (w a : Nat) (cs : List Cell) : Prop := ∀ j, j < cs.length → ((cAt cs j).2 = 1 → j + 1 < cs.length ∧ cAt cs (j + 1) = ((cAt cs j).1, 2) ∧ (a + j) % w ≠ w - 1) ∧ ((cAt cs j).2 = 2 → 1 ≤ j ∧ cAt cs (j - 1) = ((cAt cs j).1, 1) ∧ (a + j) % w ≠ 0)
theorem layG_at {l : List Cell} {a : Nat} {cs : List Cell} (hne : cs ≠ []) (hac : a + cs.length ≤ l.length) (hA : (cAt l a).2 = 2 → 1 ≤ a) (hB : (cAt l (a + cs.length - 1)).2 = 1 → a + cs.length < l.length) (i : Nat) :
    cAt (layG l a cs) i = if i < a then (if i + 1 = a ∧ (cAt l a).2 = 2 then (32, 0) else cAt l i) else if i < a + cs.length then cAt cs (i - a) else (if i = a + cs.length ∧ (cAt l (a + cs.length - 1)).2 = 1 then (32, 0) else cAt l i) := by
  have hp := List.length_pos_iff.2 hne
  unfold layG
  rw [if_neg hne]
  simp only
  have e1 : ∀ j, cAt (if (cAt l a).2 = 2 then l.set (a - 1) (32, 0) else l) j = if j + 1 = a ∧ (cAt l a).2 = 2 then (32, 0) else cAt l j := fun j => by
    by_cases h : (cAt l a).2 = 2
    · have := hA h
      rw [if_pos h, cAt_set _ _ _ _ (by omega)]
      by_cases hj : j = a - 1
      · rw [if_pos hj, if_pos ⟨by omega, h⟩]
      · rw [if_neg hj, if_neg (by omega)]
    · rw [if_neg h, if_neg (fun x => h x.2)]
  have len1 : (if (cAt l a).2 = 2 then l.set (a - 1) (32, 0) else l).length = l.length := by split <;> simp
  generalize (if (cAt l a).2 = 2 then l.set (a - 1) (32, 0) else l) = l1 at *
  have hv : cAt l1 (a + cs.length - 1) = cAt l (a + cs.length - 1) := by rw [e1, if_neg (by omega)]
  rw [hv]
  have e2 : ∀ j, cAt (if (cAt l (a + cs.length - 1)).2 = 1 then l1.set (a + cs.length) (32, 0) else l1) j = if j = a + cs.length ∧ (cAt l (a + cs.length - 1)).2 = 1 then (32, 0) else cAt l1 j := fun j => by
    by_cases h : (cAt l (a + cs.length - 1)).2 = 1
    · have := hB h
      rw [if_pos h, cAt_set _ _ _ _ (by omega)]
      by_cases hj : j = a + cs.length
      · rw [if_pos hj, if_pos ⟨hj, h⟩]
      · rw [if_neg hj, if_neg (fun x => hj x.1)]
    · rw [if_neg h, if_neg (fun x => h x.2)]
  have len2 : (if (cAt l (a + cs.length - 1)).2 = 1 then l1.set (a + cs.length) (32, 0) else l1).length = l.length := by split <;> simp [len1]
  rw [cAt_ovr (by rw [len2]; exact hac), e2, e1]
  by_cases q1 : i < a
  · rw [if_pos q1, if_pos q1, if_neg (by omega)]
  · rw [if_neg q1, if_neg q1]
    by_cases q2 : i < a + cs.length
    · rw [if_pos q2, if_pos q2]
    · rw [if_neg q2, if_neg q2]
      by_cases q3 : i = a + cs.length ∧ (cAt l (a + cs.length - 1)).2 = 1
      · rw [if_pos q3, if_pos q3]
      · rw [if_neg q3, if_neg q3, if_neg (by omega)]
theorem mend_lay (w h : Nat) (l : List Cell) (a : Nat) (cs : List Cell) (hw : 2 ≤ w) (h1 : 1 ≤ h) (hl : l.length = w * h) (hok : ∀ i, i < l.length → isCell (cAt l i) = true ∧ lostM w l i = false) (hac : a + cs.length ≤ l.length) (hcs : WholeIn w a cs) : mendM w (ovr l a cs) = layG l a cs := by
  have hm : ∀ i, cAt (ovr l a cs) i = if i < a then cAt l i else if i < a + cs.length then cAt cs (i - a) else cAt l i := fun i => cAt_ovr hac
  apply cAt_ext (by rw [mendM_len, ovr_len hac, layG_len hac])
  intro i hi
  rw [mendM_len, ovr_len hac] at hi
  rw [mendM_at (by rw [ovr_len hac]; exact hi)]
  obtain ⟨_, o1⟩ := hok i hi
  obtain ⟨o2, o3⟩ := lost_false.1 o1
  by_cases hne : cs = []
  · subst hne
    have e : ovr l a [] = l := by simp [ovr]
    rw [e, o1]; simp [layG]
  have hp := List.length_pos_iff.2 hne
  have oa := lost_false.1 (hok a (by omega)).2
  have ob := lost_false.1 (hok (a + cs.length - 1) (by omega)).2
  have c0 := hcs 0 hp
  have cl := hcs (cs.length - 1) (by omega)
  rw [layG_at hne hac (fun k => ok_left (hok a (by omega)).2 k) (fun k => by have := ok_right (by omega) h1 hl (by omega) (hok (a + cs.length - 1) (by omega)).2 k; omega)]
  by_cases q1 : i < a
  · rw [if_pos q1]
    by_cases q2 : i + 1 = a ∧ (cAt l a).2 = 2
    · rw [if_pos q2]
      obtain ⟨q3, q4⟩ := q2
      have q5 := (oa.2 q4).2
      rw [show a - 1 = i by omega] at q5
      have q6 : lostM w (ovr l a cs) i = true := by
        rw [← Bool.not_eq_false]
        intro hf
        have := ((lost_false.1 hf).1 (by rw [hm, if_pos q1, q5])).2
        rw [hm (i + 1), if_neg (by omega), if_pos (by omega), show i + 1 - a = 0 by omega] at this
        have := (c0.2 (by rw [this])).1
        omega
      rw [q6]; rfl
    · rw [if_neg q2]
      have q6 : lostM w (ovr l a cs) i = false := lost_false.2 ⟨fun k => ?_, fun k => ?_⟩
      · rw [q6, hm, if_pos q1]; rfl
      · rw [hm i, if_pos q1] at k ⊢
        obtain ⟨k1, k2⟩ := o2 k
        refine ⟨k1, ?_⟩
        by_cases q7 : i + 1 < a
        · rw [hm, if_pos q7]; exact k2
        · exfalso; apply q2
          refine ⟨by omega, ?_⟩
          rw [show a = i + 1 by omega, k2]
      · rw [hm i, if_pos q1] at k ⊢
        obtain ⟨k1, k2⟩ := o3 k
        exact ⟨k1, by rw [hm, if_pos (by omega)]; exact k2⟩
  · rw [if_neg q1]
    by_cases q2 : i < a + cs.length
    · rw [if_pos q2]
      obtain ⟨d1, d2⟩ := hcs (i - a) (by omega)
      rw [show a + (i - a) = i by omega] at d1 d2
      have q6 : lostM w (ovr l a cs) i = false := lost_false.2 ⟨fun k => ?_, fun k => ?_⟩
      · rw [q6, hm, if_neg q1, if_pos q2]; rfl
      · rw [hm i, if_neg q1, if_pos q2] at k ⊢
        obtain ⟨k1, k2, k3⟩ := d1 k
        exact ⟨k3, by rw [hm, if_neg (by omega), if_pos (by omega), show i + 1 - a = i - a + 1 by omega]; exact k2⟩
      · rw [hm i, if_neg q1, if_pos q2] at k ⊢
        obtain ⟨k1, k2, k3⟩ := d2 k
        exact ⟨k3, by rw [hm, if_neg (by omega), if_pos (by omega), show i - 1 - a = i - a - 1 by omega]; exact k2⟩
    · rw [if_neg q2]
      by_cases q3 : i = a + cs.length ∧ (cAt l (a + cs.length - 1)).2 = 1
      · rw [if_pos q3]
        obtain ⟨q4, q5⟩ := q3
        have q7 := (ob.1 q5).2
        rw [show a + cs.length - 1 + 1 = i by omega] at q7
        have q6 : lostM w (ovr l a cs) i = true := by
          rw [← Bool.not_eq_false]
          intro hf
          have := ((lost_false.1 hf).2 (by rw [hm, if_neg q1, if_neg q2, q7])).2
          rw [hm (i - 1), if_neg (by omega), if_pos (by omega), show i - 1 - a = cs.length - 1 by omega] at this
          have := (cl.1 (by rw [this])).1
          omega
        rw [q6]; rfl
      · rw [if_neg q3]
        have q6 : lostM w (ovr l a cs) i = false := lost_false.2 ⟨fun k => ?_, fun k => ?_⟩
        · rw [q6, hm, if_neg q1, if_neg q2]; rfl
        · rw [hm i, if_neg q1, if_neg q2] at k ⊢
          obtain ⟨k1, k2⟩ := o2 k
          exact ⟨k1, by rw [hm, if_neg (by omega), if_neg (by omega)]; exact k2⟩
        · rw [hm i, if_neg q1, if_neg q2] at k ⊢
          obtain ⟨k1, k2⟩ := o3 k
          refine ⟨k1, ?_⟩
          by_cases q7 : i = a + cs.length
          · exfalso; apply q3
            refine ⟨q7, ?_⟩
            rw [show a + cs.length - 1 = i - 1 by omega, k2]
          · rw [hm, if_neg (by omega), if_neg (by omega)]; exact k2
end
/- Layer 3 (grid): the reference blanks a grid. No condition. -/
section
open Go Go.RowKit
variable {T0 : Gh} [TabS T0]
set_option maxRecDepth 100000
theorem whole_rep (w a n : Nat) : WholeIn w a (List.replicate n (32, 0)) := fun j hj => by
  rw [cAt_rep (by simpa using hj)]
  exact ⟨fun k => by simp at k, fun k => by simp at k⟩
attribute [local irreducible] thenA inBlockA AW AL AO QY varO rowO rsA Opd OpdN vA gvA tupA aggA slA slcA ipA rpA EqK LnK IxK LdK FaK FdK
end
/- Layer 3 (grid): the reference blanks and scrolls, whatever it is given. No condition. -/
section
open Go Go.RowKit
variable {T0 : Gh} [TabS T0]
set_option maxRecDepth 100000
attribute [local irreducible] thenA inBlockA AW AL AO QY varO rowO rsA Opd OpdN vA gvA tupA aggA slA slcA ipA rpA EqK LnK IxK LdK FaK FdK
end
/- Layer 3 (grid): the reference puts a sign. No condition. -/
section
open Go Go.RowKit
variable {T0 : Gh} [TabS T0]
set_option maxRecDepth 100000
theorem cellsM_shown {r : Int} (hs : shown r = true) : cellsM r = if isW r then [(r, 1), (r, 2)] else [(r, 0)] := by
  simp [cellsM, ctl_shown hs, hs]
theorem pos_mod {w y x : Nat} (h : x < w) : (y * w + x) % w = x := by
  rw [Nat.add_comm, Nat.add_mul_mod_self_right, Nat.mod_eq_of_lt h]
theorem cells_whole (w y x : Nat) (r : Int) (hs : shown r = true) (hx : x + (cellsM r).length ≤ w) : WholeIn w (y * w + x) (cellsM r) := by
  rw [cellsM_shown hs] at hx ⊢
  cases hw : isW r with
  | true =>
    rw [hw] at hx
    simp only [if_true, List.length_cons, List.length_nil] at hx ⊢
    have h0 := pos_mod (w := w) (y := y) (x := x) (by omega)
    have h1 := pos_mod (w := w) (y := y) (x := x + 1) (by omega)
    intro j hj
    simp only [List.length_cons, List.length_nil] at hj
    have : j = 0 ∨ j = 1 := by omega
    rcases this with rfl | rfl
    · refine ⟨fun _ => ⟨by simp, rfl, by rw [Nat.add_zero, h0]; omega⟩, fun h => by simp [cAt] at h⟩
    · refine ⟨fun h => by simp [cAt] at h, fun _ => ⟨by omega, rfl, by rw [Nat.add_assoc, h1]; omega⟩⟩
  | false =>
    simp only [Bool.false_eq_true, if_false]
    intro j hj
    simp only [List.length_cons, List.length_nil] at hj
    obtain rfl : j = 0 := by omega
    exact ⟨fun h => by simp [cAt] at h, fun h => by simp [cAt] at h⟩
attribute [local irreducible] thenA inBlockA AW AL AO QY varO rowO rsA Opd OpdN vA gvA tupA aggA slA slcA ipA rpA EqK LnK IxK LdK FaK FdK
end
/- Layer 3 (grid), plain laws: what comes of a right grid is right. No condition. -/
section
open Go Go.RowKit
set_option maxRecDepth 100000
theorem mod_succ {i w : Nat} (hw : 1 ≤ w) (h : i % w ≠ w - 1) : (i + 1) % w = i % w + 1 := by
  have h1 := Nat.mod_lt i (show 0 < w by omega)
  have e : i + 1 = (i % w + 1) + w * (i / w) := by have := Nat.mod_add_div i w; omega
  calc (i + 1) % w = ((i % w + 1) + w * (i / w)) % w := congrArg (· % w) e
    _ = i % w + 1 := by rw [Nat.add_mul_mod_self_left, Nat.mod_eq_of_lt (by omega)]
theorem mod_pred {i w : Nat} (hw : 1 ≤ w) (h : i % w ≠ 0) : (i - 1) % w = i % w - 1 := by
  have h1 := Nat.mod_lt i (show 0 < w by omega)
  have e : i - 1 = (i % w - 1) + w * (i / w) := by have := Nat.mod_add_div i w; omega
  calc (i - 1) % w = ((i % w - 1) + w * (i / w)) % w := congrArg (· % w) e
    _ = i % w - 1 := by rw [Nat.add_mul_mod_self_left, Nat.mod_eq_of_lt (by omega)]
theorem next_in {w h i : Nat} {l : List Cell} (hw : 1 ≤ w) (h1 : 1 ≤ h) (hl : l.length = w * h) (hi : i < l.length) (hm : i % w ≠ w - 1) : i + 1 < l.length := by
  rcases Nat.lt_or_ge (i + 1) l.length with k | k
  · exact k
  · exact absurd (last_mod hw h1 (by omega)) hm
theorem prev_in {w i : Nat} (hm : i % w ≠ 0) : 1 ≤ i := by
  rcases Nat.eq_zero_or_pos i with h | h
  · subst h; simp at hm
  · exact h
/-- what is mended is right -/
theorem mend_ok (w h : Nat) (l : List Cell) (hw : 2 ≤ w) (h1 : 1 ≤ h) (hl : l.length = w * h) (hc : ∀ i, i < l.length → isCell (cAt l i) = true) : ∀ i, i < (mendM w l).length → isCell (cAt (mendM w l) i) = true ∧ lostM w (mendM w l) i = false := by
  intro i hi
  rw [mendM_len] at hi
  refine ⟨?_, lost_false.2 ⟨fun k => ?_, fun k => ?_⟩⟩
  · rw [mendM_at hi]; split
    · exact isCell_blank
    · exact hc i hi
  · rw [mendM_at hi] at k ⊢
    by_cases q : lostM w l i = true
    · rw [if_pos q] at k; simp at k
    · rw [if_neg q] at k ⊢
      obtain ⟨k1, k2⟩ := (lost_false.1 (by simpa using q)).1 k
      refine ⟨k1, ?_⟩
      have hn := next_in (by omega) h1 hl hi k1
      rw [mendM_at hn, if_neg, k2]
      rw [Bool.not_eq_true]
      refine lost_false.2 ⟨fun e => ?_, fun _ => ⟨?_, ?_⟩⟩
      · rw [k2] at e; simp at e
      · rw [mod_succ (by omega) k1]; omega
      · rw [Nat.add_sub_cancel, k2]; exact Prod.ext rfl k
  · rw [mendM_at hi] at k ⊢
    by_cases q : lostM w l i = true
    · rw [if_pos q] at k; simp at k
    · rw [if_neg q] at k ⊢
      obtain ⟨k1, k2⟩ := (lost_false.1 (by simpa using q)).2 k
      refine ⟨k1, ?_⟩
      have hp := prev_in k1
      have hml := Nat.mod_lt i (show 0 < w by omega)
      rw [mendM_at (by omega), if_neg, k2]
      rw [Bool.not_eq_true]
      refine lost_false.2 ⟨fun _ => ⟨?_, ?_⟩, fun e => ?_⟩
      · rw [mod_pred (by omega) k1]; omega
      · rw [show i - 1 + 1 = i by omega, k2]; exact Prod.ext rfl k
      · rw [k2] at e; simp at e
theorem okG_mk {w h : Nat} {l : List Cell} (h1 : 2 ≤ w) (h2 : w ≤ 80) (h3 : 1 ≤ h) (h4 : h ≤ 24) (hl : l.length = w * h) (hc : ∀ i, i < l.length → isCell (cAt l i) = true ∧ lostM w l i = false) : okG w h l = true :=
  decide_eq_true ⟨by omega, by rw [hl]; simp, by simpa using hc⟩
theorem layG_ok (w h : Nat) (l : List Cell) (a : Nat) (cs : List Cell) (hok : okG w h l = true) (hac : a + cs.length ≤ l.length) (hcs : WholeIn w a cs) (hcl : ∀ j, j < cs.length → isCell (cAt cs j) = true) : okG w h (layG l a cs) = true := by
  obtain ⟨w', h', e1, e2, h1, h2, h3, h4, hlen, hall⟩ := okG_nat hok
  obtain rfl : w = w' := by omega
  obtain rfl : h = h' := by omega
  have hl2 := ovr_len hac
  rw [← mend_lay w h l a cs h1 h3 hlen hall hac hcs]
  refine okG_mk h1 h2 h3 h4 (by rw [mendM_len, hl2, hlen]) (mend_ok w h _ h1 h3 (by rw [hl2, hlen]) fun i hi => ?_)
  rw [hl2] at hi
  rw [cAt_ovr hac]
  split
  · exact (hall i hi).1
  · split
    · exact hcl _ (by omega)
    · exact (hall i hi).1
theorem isCell_cells {r : Int} (hs : shown r = true) : ∀ j, j < (cellsM r).length → isCell (cAt (cellsM r) j) = true := by
  rw [cellsM_shown hs]
  cases hw : isW r with
  | true =>
    simp only [if_true, List.length_cons, List.length_nil]
    intro j hj
    have : j = 0 ∨ j = 1 := by omega
    rcases this with rfl | rfl <;> simp [cAt, isCell, hs, hw]
  | false =>
    simp only [Bool.false_eq_true, if_false, List.length_cons, List.length_nil]
    intro j hj
    obtain rfl : j = 0 := by omega
    simp [cAt, isCell, hs, hw]
/-! ### a grid of other sides -/
theorem newR_ok {w h : Nat} (h1 : 2 ≤ w) (h2 : w ≤ 80) (h3 : 1 ≤ h) (h4 : h ≤ 24) : okG w h (List.replicate (w * h) (32, 0)) = true := by
  refine okG_mk h1 h2 h3 h4 (by simp) fun i hi => ?_
  rw [List.length_replicate] at hi
  refine ⟨by rw [cAt_rep hi]; exact isCell_blank, lost_false.2 ⟨fun e => by rw [cAt_rep hi] at e; simp at e, fun e => by rw [cAt_rep hi] at e; simp at e⟩⟩
theorem scroll_ok {w h : Nat} {l : List Cell} (hok : okG w h l = true) : okG w h (l.drop w ++ List.replicate w (32, 0)) = true := by
  obtain ⟨w', h', e1, e2, h1, h2, h3, h4, hlen, hall⟩ := okG_nat hok
  obtain rfl : w = w' := by omega
  obtain rfl : h = h' := by omega
  have hwl : w ≤ l.length := by rw [hlen]; exact Nat.le_mul_of_pos_right w h3
  have hat : ∀ i, i < l.length → cAt (l.drop w ++ List.replicate w (32, 0)) i = if i + w < l.length then cAt l (i + w) else (32, 0) := fun i hi => by
    rw [cAt_app, List.length_drop]
    by_cases q : i + w < l.length
    · rw [if_pos q, if_pos (by omega), cAt_drop, Nat.add_comm]
    · rw [if_neg q, if_neg (by omega), cAt_rep (by omega)]
  refine okG_mk h1 h2 h3 h4 (by simp; omega) fun i hi => ?_
  have hi2 : i < l.length := by simp at hi; omega
  by_cases q : i + w < l.length
  · obtain ⟨a, b⟩ := hall _ q
    obtain ⟨b1, b2⟩ := lost_false.1 b
    rw [Nat.add_mod_right] at b1 b2
    have hv := hat i hi2
    rw [if_pos q] at hv
    refine ⟨by rw [hv]; exact a, lost_false.2 ⟨fun e => ?_, fun e => ?_⟩⟩
    · rw [hv] at e ⊢
      obtain ⟨c1, c2⟩ := b1 e
      have hn := next_in (i := i + w) (by omega) h3 hlen q (by rw [Nat.add_mod_right]; exact c1)
      exact ⟨c1, by rw [hat _ (by omega), if_pos (by omega), ← c2]; congr 1; omega⟩
    · rw [hv] at e ⊢
      obtain ⟨c1, c2⟩ := b2 e
      have hp := prev_in c1
      exact ⟨c1, by rw [hat _ (by omega), if_pos (by omega), ← c2]; congr 1; omega⟩
  · have hv := hat i hi2
    rw [if_neg q] at hv
    refine ⟨by rw [hv]; exact isCell_blank, lost_false.2 ⟨fun e => by rw [hv] at e; simp at e, fun e => by rw [hv] at e; simp at e⟩⟩
end
/- Layer 3 (grid): the laws of Put and Fit; the reference's Fit. No condition. -/
section
open Go Go.RowKit
variable {T0 : Gh} [TabS T0]
set_option maxRecDepth 100000
attribute [local irreducible] thenA inBlockA AW AL AO QY varO rowO rsA Opd OpdN vA gvA tupA aggA slA slcA ipA rpA EqK LnK IxK LdK FaK FdK
end
/- Layer 3 (grid): what comes of a right grid is right. No condition. -/
section
open Go Go.RowKit
variable {T0 : Gh} [TabS T0]
set_option maxRecDepth 100000
theorem putR_ok (w h : Int) (l : List Cell) (x y r : Int) (he : (putR w h l x y r).2 = 0) : okG (putR w h l x y r).1.1 (putR w h l x y r).1.2.1 (putR w h l x y r).1.2.2 = true := by
  unfold putR at he ⊢
  split at he
  · rename_i hc
    rw [if_pos hc]
    obtain ⟨⟨hok, x1, x2, y1, y2⟩, hs, hx⟩ := hc
    obtain ⟨w', h', rfl, rfl, _, _, _, _, hlen, _⟩ := okG_nat hok
    have h1 := cellsM_len r
    have := cell_pos (w := w') (h := h') (x := x.toNat + (cellsM r).length - 1) (y := y.toNat) (by omega) (by omega)
    show okG w' h' (layG l (y.toNat * w' + x.toNat) (cellsM r)) = true
    exact layG_ok w' h' l _ _ hok (by omega) (cells_whole w' _ _ r hs (by omega)) (isCell_cells hs)
  · simp at he
theorem isCell_rep (n : Nat) : ∀ j, j < (List.replicate n ((32, 0) : Cell)).length → isCell (cAt (List.replicate n (32, 0)) j) = true := fun j hj => by
  rw [cAt_rep (by simpa using hj)]; exact isCell_blank
theorem blankR_ok (w h : Int) (l : List Cell) (a b : Int) (he : (blankR w h l a b).2 = 0) : okG (blankR w h l a b).1.1 (blankR w h l a b).1.2.1 (blankR w h l a b).1.2.2 = true := by
  unfold blankR at he ⊢
  split at he
  · rename_i hc
    rw [if_pos hc]
    obtain ⟨hok, x1, x2, x3⟩ := hc
    obtain ⟨w', h', rfl, rfl, _, _, _, _, hlen, _⟩ := okG_nat hok
    show okG w' h' (layG l a.toNat (List.replicate (b - a).toNat (32, 0))) = true
    exact layG_ok w' h' l _ _ hok (by rw [List.length_replicate]; omega) (whole_rep _ _ _) (isCell_rep _)
  · simp at he
theorem scrollR_facts (w h : Int) (l : List Cell) (hok : okG w h l = true) : (scrollR w h l).length = l.length ∧ okG w h (scrollR w h l) = true := by
  obtain ⟨w', h', rfl, rfl, _, _, h3, _, hlen, _⟩ := okG_nat hok
  have hwl : w' ≤ l.length := by rw [hlen]; exact Nat.le_mul_of_pos_right w' h3
  rw [scrollR, if_pos hok, Int.toNat_natCast]
  exact ⟨by simp; omega, scroll_ok hok⟩
attribute [local irreducible] thenA inBlockA AW AL AO QY varO rowO rsA Opd OpdN vA gvA tupA aggA slA slcA ipA rpA EqK LnK IxK LdK FaK FdK
end
end Go.Proofs.YtgfmjmfphmjdkaaDoor
