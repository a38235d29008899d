/- Layer 29 (paint), plainly: what is wrong, what is told next, and what comes of it. No condition. -/
import Derived.Test.YtgfmjmfphmjdkaaDoorR2H1
import Derived.Test.YtgfmjmfphmjdkaaDoorR2B1
namespace Go.Proofs.YtgfmjmfphmjdkaaDoor
set_option linter.unusedSimpArgs false
set_option linter.unusedVariables false
set_option linter.unusedSectionVars false
set_option maxHeartbeats 4000000
open Go Go.RowKit
set_option maxRecDepth 100000
/-- how many from a on, n of them -/
def cntP (p : Nat → Bool) (a : Nat) : Nat → Nat
  | 0 => 0
  | n + 1 => cntP p a n + (if p (a + n) then 1 else 0)
/-- the first one from i on, k looked at -/
def fstP (p : Nat → Bool) : Nat → Nat → Nat
  | 0, i => i
  | k + 1, i => if p i then i else fstP p k (i + 1)
theorem fstP_spec (p : Nat → Bool) : ∀ k i, i ≤ fstP p k i ∧ fstP p k i ≤ i + k ∧ (∀ j, i ≤ j → j < fstP p k i → p j = false) ∧ (fstP p k i < i + k → p (fstP p k i) = true)
  | 0, i => ⟨Nat.le_refl _, Nat.le_refl _, fun j a b => absurd b (by unfold fstP; omega), fun a => absurd a (by unfold fstP; omega)⟩
  | k + 1, i => by
    unfold fstP
    cases hp : p i with
    | true => exact ⟨by simp, by simp, fun j a b => absurd b (by simp; omega), fun _ => by simpa using hp⟩
    | false =>
      obtain ⟨a, b, c, d⟩ := fstP_spec p k (i + 1)
      simp only [Bool.false_eq_true, if_false]
      refine ⟨by omega, by omega, fun j h1 h2 => ?_, fun h => d (by omega)⟩
      rcases Nat.lt_or_ge i j with h | h
      · exact c j h h2
      · rw [show j = i by omega]; exact hp
theorem fstP_uniq {p : Nat → Bool} {k F : Nat} (h1 : F ≤ k) (h2 : ∀ j, j < F → p j = false) (h3 : F < k → p F = true) : fstP p k 0 = F := by
  obtain ⟨a, b, c, d⟩ := fstP_spec p k 0
  rcases Nat.lt_trichotomy (fstP p k 0) F with h | h | h
  · have := d (by omega); rw [h2 _ h] at this; cases this
  · exact h
  · have := c F (Nat.zero_le _) h; rw [h3 (by omega)] at this; cases this
theorem cntP_add (p : Nat → Bool) (a m : Nat) : ∀ n, cntP p a (m + n) = cntP p a m + cntP p (a + m) n
  | 0 => rfl
  | n + 1 => by
    show cntP p a (m + n) + (if p (a + (m + n)) then 1 else 0) = cntP p a m + (cntP p (a + m) n + (if p (a + m + n) then 1 else 0))
    rw [cntP_add p a m n, show a + (m + n) = a + m + n by omega]; omega
theorem cntP_le (p : Nat → Bool) (a : Nat) : ∀ n, cntP p a n ≤ n
  | 0 => Nat.le_refl _
  | n + 1 => by
    have := cntP_le p a n
    unfold cntP; split <;> omega
theorem cntP_zero {p : Nat → Bool} {a : Nat} : ∀ {n : Nat}, (∀ i, a ≤ i → i < a + n → p i = false) → cntP p a n = 0
  | 0, _ => rfl
  | n + 1, h => by
    unfold cntP
    rw [cntP_zero fun i h1 h2 => h i h1 (by omega), h (a + n) (by omega) (by omega)]; rfl
theorem cntP_of {p : Nat → Bool} {a : Nat} : ∀ {n : Nat}, cntP p a n = 0 → ∀ i, a ≤ i → i < a + n → p i = false
  | 0, _, i, h1, h2 => absurd h2 (by omega)
  | n + 1, h, i, h1, h2 => by
    unfold cntP at h
    rcases Nat.lt_or_ge i (a + n) with g | g
    · exact cntP_of (n := n) (by omega) i h1 g
    · rw [show i = a + n by omega]
      cases e : p (a + n) with
      | false => rfl
      | true => rw [e] at h; simp at h
theorem cntP_mono {p q : Nat → Bool} {a : Nat} : ∀ {n : Nat}, (∀ i, a ≤ i → i < a + n → q i = true → p i = true) → cntP q a n ≤ cntP p a n
  | 0, _ => Nat.le_refl _
  | n + 1, h => by
    have h1 := cntP_mono (n := n) fun i a b => h i a (by omega)
    have h2 := h (a + n) (by omega) (by omega)
    unfold cntP
    cases e : q (a + n) with
    | false => simp; omega
    | true => rw [h2 e]; simp; omega
theorem cntP_lt {p q : Nat → Bool} {a n j : Nat} (h : ∀ i, a ≤ i → i < a + n → q i = true → p i = true) (h1 : a ≤ j) (h2 : j < a + n) (h3 : p j = true) (h4 : q j = false) : cntP q a n < cntP p a n := by
  have e : n = (j - a) + (1 + (n - (j - a) - 1)) := by omega
  rw [e, cntP_add, cntP_add, cntP_add, cntP_add]
  have m1 := cntP_mono (p := p) (q := q) (a := a) (n := j - a) fun i x y => h i x (by omega)
  have m2 := cntP_mono (p := p) (q := q) (a := a + (j - a) + 1) (n := n - (j - a) - 1) fun i x y => h i (by omega) (by omega)
  have o1 : cntP q (a + (j - a)) 1 = 0 := by unfold cntP cntP; rw [show a + (j - a) + 0 = j by omega, h4]; rfl
  have o2 : cntP p (a + (j - a)) 1 = 1 := by unfold cntP cntP; rw [show a + (j - a) + 0 = j by omega, h3]; rfl
  omega
/-- is a guess none of what is to be there? -/
def wrP (l : List Guess) (cs : List Cell) (i : Nat) : Bool := decide (gAt l i ≠ (cAt cs i, true))
def blkP (cs : List Cell) (a n : Nat) : Bool := (List.range n).all fun i => decide (cAt cs (a + i) = (32, 0))
theorem blkP_iff {cs : List Cell} {a n : Nat} : blkP cs a n = true ↔ ∀ i, a ≤ i → i < a + n → cAt cs i = (32, 0) := by
  simp only [blkP, List.all_eq_true, List.mem_range, decide_eq_true_eq]
  exact ⟨fun h i h1 h2 => by have := h (i - a) (by omega); rwa [show a + (i - a) = i by omega] at this, fun h i hi => h _ (by omega) (by omega)⟩
def fitsP (b : Bel) (t : Tm) : Prop := okBl b = true ∧ okTm t = true ∧ t.2.2.2.2.2 = false ∧ b.1 = t.1 ∧ b.2.1 = t.2.1
noncomputable instance (b : Bel) (t : Tm) : Decidable (fitsP b t) := Classical.propDecidable _
noncomputable def wrongP (b : Bel) (t : Tm) : Int × Int := if fitsP b t then ((cntP (wrP b.2.2.1 t.2.2.1) 0 b.2.2.1.length : Nat), 0) else (0, 1)
/-- the first wrong place -/
def fstW (b : Bel) (t : Tm) : Nat := fstP (wrP b.2.2.1 t.2.2.1) b.2.2.1.length 0
/-- where is painted next -/
def plcW (b : Bel) (t : Tm) : Nat := if (cAt t.2.2.1 (fstW b t)).2 = 2 then fstW b t - 1 else fstW b t
/-- what is told there -/
def tellW (w : Nat) (l : List Guess) (cs : List Cell) (p : Nat) : Cmd :=
  if blkP cs p (l.length - p) = true ∧ 8 ≤ cntP (wrP l cs) p (l.length - p) then (8, 0, 0, 0)
  else if blkP cs p (w - p % w) = true ∧ 4 ≤ cntP (wrP l cs) p (w - p % w) then (7, 0, 0, 0)
  else (1, 0, 0, (cAt cs p).1)
noncomputable def nextP (b : Bel) (t : Tm) : Cmd × Int :=
  if fitsP b t then
    if fstW b t = b.2.2.1.length then nextMo b t.2.2.2.1 t.2.2.2.2.1
    else if isAt b (plcW b t % b.1.toNat : Nat) (plcW b t / b.1.toNat : Nat) = false then nextMo b (plcW b t % b.1.toNat : Nat) (plcW b t / b.1.toNat : Nat)
    else (tellW b.1.toNat b.2.2.1 t.2.2.1 (plcW b t), 0)
  else ((0, 0, 0, 0), 1)
/-- a terminal's cells, all sure -/
theorem of_gok {w h : Nat} {cs : List Cell} {X Y : Int} {b : Bool} (h1 : okT w h cs X Y b = true) : GOk w (ofL cs) ∧ cs.length = w * h := by
  have h2 : okTm ((w : Int), (h : Int), cs, X, Y, b) = true := h1
  have h3 := of_ok h2
  rw [ofB, if_pos h2] at h3
  obtain ⟨w', h', e1, e2, _, _, _, _, hl, hk, _⟩ := okBe_iff.1 h3
  simp only at e1 e2
  obtain rfl : w = w' := by omega
  obtain rfl : h = h' := by omega
  rw [ofL_len] at hl
  exact ⟨hk, hl⟩
theorem next_inP {w h p : Nat} (h1 : p < w * h) (h2 : p % w < w - 1) : p + 1 < w * h := by
  have hw : 0 < w := by omega
  have e := Nat.div_add_mod p w
  have hq : p / w < h := (Nat.div_lt_iff_lt_mul hw).2 (by rw [Nat.mul_comm]; exact h1)
  have : w * (p / w + 1) ≤ w * h := Nat.mul_le_mul_left w hq
  rw [Nat.mul_add] at this
  omega
theorem row_inP {w h p : Nat} (hw : 0 < w) (h1 : p < w * h) : p + (w - p % w) ≤ w * h ∧ (p + (w - p % w)) % w = 0 ∧ p + (w - p % w) = w * (p / w + 1) := by
  have e := Nat.div_add_mod p w
  have hm := Nat.mod_lt p hw
  have hq : p / w < h := (Nat.div_lt_iff_lt_mul hw).2 (by rw [Nat.mul_comm]; exact h1)
  have k : w * (p / w + 1) ≤ w * h := Nat.mul_le_mul_left w hq
  have k2 : p + (w - p % w) = w * (p / w + 1) := by rw [Nat.mul_add]; omega
  exact ⟨by omega, by rw [k2, Nat.mul_mod_right], k2⟩
theorem cs_kind {w : Nat} {cs : List Cell} (hk : GOk w (ofL cs)) {i : Nat} (hi : i < cs.length) : isCell (cAt cs i) = true ∧ ((cAt cs i).2 = 1 → i % w < w - 1 ∧ (i + 1 < cs.length → cAt cs (i + 1) = ((cAt cs i).1, 2))) ∧ ((cAt cs i).2 = 2 → 0 < i % w ∧ cAt cs (i - 1) = ((cAt cs i).1, 1)) := by
  have e := ofL_at hi
  refine ⟨?_, fun h => ?_, fun h => ?_⟩
  · have := hk.cell (i := i) (by rw [e]); rwa [e] at this
  · have := hk.left (i := i) (by rw [e]; exact h)
    refine ⟨this.1, fun h2 => ?_⟩
    have k := this.2 (by rw [ofL_at h2])
    rw [ofL_at h2, e] at k
    exact congrArg Prod.fst k
  · have := hk.right (i := i) (by rw [e]; exact h)
    refine ⟨this.1, ?_⟩
    have k := this.2 (by rw [ofL_at (by omega)])
    rw [ofL_at (by omega), e] at k
    exact congrArg Prod.fst k
/-- cells of the terminal to be, laid where they are to be -/
theorem lay_right {w : Nat} {l : List Guess} {cs ds : List Cell} {p : Nat} (hk : GOk w (ofL cs)) (hl : cs.length = l.length) (hp : p + ds.length ≤ l.length) (h2 : 0 < (p + ds.length) % w → p + ds.length < l.length) (hd : 1 ≤ ds.length) (hc : ∀ j, j < ds.length → cAt cs (p + j) = cAt ds j) (hf : (cAt cs p).2 ≠ 2) (hlast : (cAt cs (p + ds.length - 1)).2 ≠ 1) :
    (∀ i, wrP l cs i = false → wrP (layB w l p ds) cs i = false) ∧ (∀ i, p ≤ i → i < p + ds.length → wrP (layB w l p ds) cs i = false) := by
  have mid : ∀ i, p ≤ i → i < p + ds.length → wrP (layB w l p ds) cs i = false := fun i a b => by
    unfold wrP
    rw [layB_at hp h2, if_neg (by omega), if_pos b, ← hc (i - p) (by omega), show p + (i - p) = i by omega]
    simp
  refine ⟨fun i h => ?_, mid⟩
  have hi : gAt l i = (cAt cs i, true) := by simpa [wrP] using h
  have keep : ∀ g, gAt (layB w l p ds) i = g → g = gAt l i → wrP (layB w l p ds) cs i = false := fun g e1 e2 => by
    unfold wrP; rw [e1, e2, hi]; simp
  rcases Nat.lt_or_ge i p with a | a
  · refine keep _ (layB_at hp h2 i) ?_
    rw [if_pos a, if_neg]
    rintro ⟨q1, q2, q3⟩
    rw [hi] at q3
    have := ((cs_kind hk (i := i) (by omega)).2.1 q3).2 (by omega)
    rw [q1] at this
    rw [this] at hf
    exact hf rfl
  · rcases Nat.lt_or_ge i (p + ds.length) with b | b
    · exact mid i a b
    · refine keep _ (layB_at hp h2 i) ?_
      rw [if_neg (by omega), if_neg (by omega), if_neg]
      rintro ⟨q1, q2, q3⟩
      rw [hi] at q3
      have := ((cs_kind hk (i := i) (by have := h2 q2; omega)).2.2 q3).2
      rw [q1] at this
      rw [this] at hlast
      exact hlast rfl
end Go.Proofs.YtgfmjmfphmjdkaaDoor
namespace Go.Proofs.YtgfmjmfphmjdkaaDoor
set_option linter.unusedSimpArgs false
set_option linter.unusedVariables false
set_option linter.unusedSectionVars false
set_option maxHeartbeats 4000000
open Go Go.RowKit
set_option maxRecDepth 100000
theorem lenC_text {r : Int} (h : shown r = true) : lenC (1, 0, 0, r) ≤ 4 := by
  have hc : isCmd (1, 0, 0, r) = true := by simp [isCmd, h]
  have hg : isG r = true := by simp only [shown, Bool.and_eq_true] at h; exact h.1.1
  unfold lenC putR'
  rw [if_pos hc]
  show (encB r).length ≤ 4
  rw [encB_eq hg]
  unfold encC
  (repeat' split) <;> simp
theorem nextMo_zero {b : Bel} {X Y : Int} (h1 : okBl b = true) (hX : 0 ≤ X ∧ X < b.1) (hY : 0 ≤ Y ∧ Y < b.2.1) (hn : isAt b X Y = false) : (nextMo b X Y).2 = 0 := by
  obtain ⟨w, h, l, x, y, bb, s⟩ := b
  unfold nextMo
  rw [if_neg (fun z => z ⟨h1, hX.1, hX.2, hY.1, hY.2⟩)]
  cases s with
  | false => rw [if_pos rfl]
  | true =>
    rw [if_neg (fun z => absurd (show true = false from z) (by decide)), if_neg]
    rintro ⟨rfl, rfl, rfl⟩
    simp [isAt] at hn
theorem next_kind {b : Bel} {X Y : Int} (h : (nextMo b X Y).2 = 0) : (nextMo b X Y).1.1 ≠ 1 ∧ (nextMo b X Y).1.1 ≠ 7 ∧ (nextMo b X Y).1.1 ≠ 8 := by
  obtain ⟨h1, hX, hY, hh⟩ := nextMo_ok h
  obtain ⟨w', h', e1, e2, w2, w3, w4, w5, _⟩ := okBe_iff.1 h1
  have hX' : 0 ≤ X ∧ X ≤ 79 := by omega
  have hY' : 0 ≤ Y ∧ Y ≤ 23 := by omega
  rcases hh with ⟨_, e⟩ | ⟨_, H, e⟩
  · rw [e]
    obtain ⟨_, _, _, _, a, b', c⟩ := moveC_ok (h := b.2.1) (y := 0) hX' hY' (.inl rfl)
    exact ⟨a, b', c⟩
  · rw [e]
    obtain ⟨_, _, _, _, a, b', c⟩ := moveC_ok hX' hY' H.best.2.1
    exact ⟨a, b', c⟩
theorem fits_nat {b : Bel} {t : Tm} (hf : fitsP b t) : ∃ (w h : Nat) (l : List Guess) (x y : Int) (bb s : Bool) (cs : List Cell) (X Y : Int), b = ((w : Int), (h : Int), l, x, y, bb, s) ∧ t = ((w : Int), (h : Int), cs, X, Y, false) ∧ 2 ≤ w ∧ w ≤ 80 ∧ 1 ≤ h ∧ h ≤ 24 ∧ l.length = w * h ∧ cs.length = w * h ∧ GOk w (ofL cs) ∧ (0 ≤ X ∧ X < w) ∧ (0 ≤ Y ∧ Y < h) := by
  obtain ⟨bw, bh, l, x, y, bb, s⟩ := b
  obtain ⟨tw, th, cs, X, Y, tb⟩ := t
  obtain ⟨h1, h2, h3, h4, h5⟩ := hf
  simp only at h3 h4 h5
  subst h3 h4 h5
  obtain ⟨w, h, e1, e2, w2, w3, w4, w5, hl, hk, _⟩ := okBe_iff.1 h1
  simp only at e1 e2
  subst e1 e2
  obtain ⟨g1, g2⟩ := of_gok h2
  obtain ⟨_, q, _⟩ := okT_iff.1 h2
  exact ⟨w, h, l, x, y, bb, s, cs, X, Y, rfl, rfl, w2, w3, w4, w5, hl, g2, g1, ⟨q.1, q.2.1⟩, q.2.2⟩
/-- what is told at a place where something is wrong -/
theorem tell_step {w h : Nat} {l : List Guess} {cs : List Cell} {F p : Nat} (hw : 2 ≤ w) (hl : l.length = w * h) (hcl : cs.length = w * h) (hk : GOk w (ofL cs)) (hF : F < l.length) (hw1 : wrP l cs F = true) (hp : p = if (cAt cs F).2 = 2 then F - 1 else F) :
    ((tellW w l cs p).1 = 1 ∨ (tellW w l cs p).1 = 7 ∨ (tellW w l cs p).1 = 8) ∧ isCmd (tellW w l cs p) = true ∧ lenC (tellW w l cs p) ≤ 4 ∧ (∀ i, wrP l cs i = false → wrP (listK w h l (p % w) (p / w) false (tellW w l cs p)) cs i = false) ∧ wrP (listK w h l (p % w) (p / w) false (tellW w l cs p)) cs F = false ∧
    ((tellW w l cs p).1 = 7 → ∀ i, p ≤ i → i < w * (p / w + 1) → wrP (listK w h l (p % w) (p / w) false (tellW w l cs p)) cs i = false) ∧ ((tellW w l cs p).1 = 8 → ∀ i, p ≤ i → i < l.length → wrP (listK w h l (p % w) (p / w) false (tellW w l cs p)) cs i = false) := by
  have hp2 : (cAt cs p).2 ≠ 2 ∧ p ≤ F ∧ (F = p ∨ (F = p + 1 ∧ (cAt cs p).2 = 1)) := by
    by_cases q : (cAt cs F).2 = 2
    · rw [if_pos q] at hp
      have := (cs_kind hk (i := F) (by omega)).2.2 q
      have hF0 : 0 < F := by
        rcases Nat.eq_zero_or_pos F with z | z
        · rw [z] at this; simp at this
        · exact z
      rw [hp, this.2]
      exact ⟨by simp, by omega, .inr ⟨by omega, rfl⟩⟩
    · rw [if_neg q] at hp
      rw [hp]; exact ⟨q, Nat.le_refl _, .inl rfl⟩
  obtain ⟨k2, pF, kF⟩ := hp2
  have hpn : p < w * h := by omega
  have hdm : p / w * w + p % w = p := by rw [Nat.mul_comm]; exact Nat.div_add_mod p w
  obtain ⟨r1, r2, r3⟩ := row_inP (show 0 < w by omega) hpn
  obtain ⟨c1, c2, c3⟩ := cs_kind hk (i := p) (by omega)
  have hm := Nat.mod_lt p (show 0 < w by omega)
  by_cases q8 : blkP cs p (l.length - p) = true ∧ 8 ≤ cntP (wrP l cs) p (l.length - p)
  · have et : tellW w l cs p = (8, 0, 0, 0) := if_pos q8
    have hb := blkP_iff.1 q8.1
    have ek : listK w h l (p % w) (p / w) false (8, 0, 0, 0) = layB w l p (List.replicate (l.length - p) (32, 0)) := by
      unfold listK
      rw [if_neg (by decide), if_neg (by decide), if_pos rfl, hdm]
    obtain ⟨a1, a2⟩ := lay_right (l := l) (ds := List.replicate (l.length - p) ((32, 0) : Cell)) hk (by omega) (by simp; omega) (fun z => by
      exfalso
      simp only [List.length_replicate] at z
      rw [show p + (l.length - p) = w * h by omega, Nat.mul_mod_right] at z
      omega) (by simp; omega) (fun j hj => by
        simp only [List.length_replicate] at hj
        rw [hb _ (by omega) (by omega)]
        simp [cAt, hj]) k2 (by simp only [List.length_replicate]; rw [hb _ (by omega) (by omega)]; simp)
    simp only [List.length_replicate] at a2
    rw [et, ek]
    exact ⟨.inr (.inr rfl), by decide, by decide, a1, a2 F pF (by omega), fun z => absurd z (by decide), fun _ i x y => a2 i x (by omega)⟩
  · by_cases q7 : blkP cs p (w - p % w) = true ∧ 4 ≤ cntP (wrP l cs) p (w - p % w)
    · have et : tellW w l cs p = (7, 0, 0, 0) := by unfold tellW; rw [if_neg q8, if_pos q7]
      have hb := blkP_iff.1 q7.1
      have ek : listK w h l (p % w) (p / w) false (7, 0, 0, 0) = layB w l p (List.replicate (w - p % w) (32, 0)) := by
        unfold listK
        rw [if_neg (by decide), if_pos rfl, hdm]
      obtain ⟨a1, a2⟩ := lay_right (l := l) (ds := List.replicate (w - p % w) ((32, 0) : Cell)) hk (by omega) (by simp; omega) (fun z => by
        exfalso
        simp only [List.length_replicate] at z
        omega) (by simp; omega) (fun j hj => by
          simp only [List.length_replicate] at hj
          rw [hb _ (by omega) (by omega)]
          simp [cAt, hj]) k2 (by simp only [List.length_replicate]; rw [hb _ (by omega) (by omega)]; simp)
      simp only [List.length_replicate] at a2
      rw [et, ek]
      refine ⟨.inr (.inl rfl), by decide, by decide, a1, a2 F pF ?_, fun _ i x y => a2 i x (by omega), fun z => absurd z (by decide)⟩
      rcases kF with z | ⟨z, z2⟩
      · omega
      · have := (c2 z2).1; omega
    · have et : tellW w l cs p = (1, 0, 0, (cAt cs p).1) := by unfold tellW; rw [if_neg q8, if_neg q7]
      have hs : shown (cAt cs p).1 = true := by simp only [isCell, Bool.and_eq_true] at c1; exact c1.1
      have hlen := cellsM_rng hs
      have hcs : (∀ j, j < (cellsM (cAt cs p).1).length → cAt cs (p + j) = cAt (cellsM (cAt cs p).1) j) ∧ (cAt cs (p + (cellsM (cAt cs p).1).length - 1)).2 ≠ 1 ∧ p + (cellsM (cAt cs p).1).length ≤ l.length ∧ p % w + (cellsM (cAt cs p).1).length ≤ w ∧ F < p + (cellsM (cAt cs p).1).length := by
        simp only [isCell, Bool.and_eq_true] at c1
        rw [cellsM_shown hs]
        cases hW : isW (cAt cs p).1 with
        | true =>
          rw [hW] at c1
          have e1 : (cAt cs p).2 = 1 := by simpa [k2] using c1.2
          obtain ⟨m1, m2⟩ := c2 e1
          have n1 := next_inP hpn m1
          have m3 := m2 (by omega)
          simp only [if_true, List.length_cons, List.length_nil]
          refine ⟨fun j hj => ?_, ?_, by omega, by omega, by rcases kF with z | z <;> omega⟩
          · rcases (show j = 0 ∨ j = 1 by omega) with rfl | rfl
            · exact Prod.ext rfl e1
            · rw [m3]; rfl
          · rw [show p + (0 + 1 + 1) - 1 = p + 1 by omega, m3]; simp
        | false =>
          rw [hW] at c1
          have e1 : (cAt cs p).2 = 0 := by simpa using c1.2
          simp only [Bool.false_eq_true, if_false, List.length_cons, List.length_nil]
          refine ⟨fun j hj => ?_, ?_, by omega, by omega, by
            rcases kF with z | ⟨z, z2⟩
            · omega
            · rw [e1] at z2; cases z2⟩
          · obtain rfl : j = 0 := by omega
            exact Prod.ext rfl e1
          · rw [show p + (0 + 1) - 1 = p by omega, e1]; decide
      obtain ⟨s1, s2, s3, s4, s5⟩ := hcs
      have ek : listK w h l (p % w) (p / w) false (1, 0, 0, (cAt cs p).1) = layB w l p (cellsM (cAt cs p).1) := by
        unfold listK textL
        rw [if_pos rfl, if_neg (by rintro (z | z); cases z; simp only at z; omega), hdm]
      obtain ⟨a1, a2⟩ := lay_right (l := l) hk (by omega) s3 (fun z => by
        rcases Nat.lt_or_ge (p % w + (cellsM (cAt cs p).1).length) w with y | y
        · omega
        · exfalso
          rw [show p + (cellsM (cAt cs p).1).length = p + (w - p % w) by omega, r2] at z
          omega) hlen.1 s1 k2 s2
      rw [et, ek]
      exact ⟨.inl rfl, by simp [isCmd, hs], lenC_text hs, a1, a2 F pF s5, fun z => absurd z (show ¬ ((1 : Int) = 7) by decide), fun z => absurd z (show ¬ ((1 : Int) = 8) by decide)⟩
end Go.Proofs.YtgfmjmfphmjdkaaDoor
namespace Go.Proofs.YtgfmjmfphmjdkaaDoor
set_option linter.unusedSimpArgs false
set_option linter.unusedVariables false
set_option linter.unusedSectionVars false
set_option maxHeartbeats 4000000
open Go Go.RowKit
set_option maxRecDepth 100000
/-- where the cursor is to be -/
def tgtX (b : Bel) (t : Tm) : Int := if fstW b t = b.2.2.1.length then t.2.2.2.1 else (plcW b t % b.1.toNat : Nat)
def tgtY (b : Bel) (t : Tm) : Int := if fstW b t = b.2.2.1.length then t.2.2.2.2.1 else (plcW b t / b.1.toNat : Nat)
def cntW (b : Bel) (t : Tm) : Nat := cntP (wrP b.2.2.1 t.2.2.1) 0 b.2.2.1.length
theorem fstW_spec (b : Bel) (t : Tm) : fstW b t ≤ b.2.2.1.length ∧ (∀ j, j < fstW b t → wrP b.2.2.1 t.2.2.1 j = false) ∧ (fstW b t < b.2.2.1.length → wrP b.2.2.1 t.2.2.1 (fstW b t) = true) := by
  obtain ⟨_, a, b', c⟩ := fstP_spec (wrP b.2.2.1 t.2.2.1) b.2.2.1.length 0
  rw [Nat.zero_add] at a c
  exact ⟨a, fun j h => b' j (Nat.zero_le _) h, c⟩
theorem cntW_zero (b : Bel) (t : Tm) : cntW b t = 0 ↔ fstW b t = b.2.2.1.length := by
  obtain ⟨h1, h2, h3⟩ := fstW_spec b t
  constructor
  · intro h
    rcases Nat.lt_or_ge (fstW b t) b.2.2.1.length with g | g
    · have := cntP_of h (fstW b t) (Nat.zero_le _) (by omega)
      rw [h3 g] at this; cases this
    · omega
  · intro h
    exact cntP_zero fun i _ b' => h2 i (by omega)
theorem nextP_eq {b : Bel} {t : Tm} (hf : fitsP b t) : nextP b t = if isAt b (tgtX b t) (tgtY b t) = false then nextMo b (tgtX b t) (tgtY b t) else if fstW b t = b.2.2.1.length then ((0, 0, 0, 0), 7) else (tellW b.1.toNat b.2.2.1 t.2.2.1 (plcW b t), 0) := by
  unfold nextP tgtX tgtY
  rw [if_pos hf]
  by_cases h : fstW b t = b.2.2.1.length
  · simp only [if_pos h]
    by_cases q : isAt b t.2.2.2.1 t.2.2.2.2.1 = false
    · rw [if_pos q]
    · rw [if_neg q]
      obtain ⟨w, h', l, x, y, bb, s, cs, X, Y, rfl, rfl, _, _, _, _, _, _, _, hX, hY⟩ := fits_nat hf
      exact nextMo_here hf.1 hX hY (by simpa using q)
  · simp only [if_neg h]
theorem tgt_in {b : Bel} {t : Tm} (hf : fitsP b t) : (0 ≤ tgtX b t ∧ tgtX b t < b.1) ∧ (0 ≤ tgtY b t ∧ tgtY b t < b.2.1) ∧ (fstW b t < b.2.2.1.length → plcW b t / b.1.toNat = fstW b t / b.1.toNat ∧ plcW b t ≤ fstW b t) := by
  obtain ⟨h1, h2, h3⟩ := fstW_spec b t
  obtain ⟨w, h', l, x, y, bb, s, cs, X, Y, rfl, rfl, w2, _, _, _, hl, hcl, hk, hX, hY⟩ := fits_nat hf
  simp only at h1 h2 h3 ⊢
  unfold tgtX tgtY
  by_cases h : fstW ((w : Int), (h' : Int), l, x, y, bb, s) ((w : Int), (h' : Int), cs, X, Y, false) = l.length
  · rw [if_pos h, if_pos h]
    exact ⟨hX, hY, fun z => by omega⟩
  · rw [if_neg h, if_neg h]
    simp only [Int.toNat_natCast]
    have hlt : plcW ((w : Int), (h' : Int), l, x, y, bb, s) ((w : Int), (h' : Int), cs, X, Y, false) ≤ fstW ((w : Int), (h' : Int), l, x, y, bb, s) ((w : Int), (h' : Int), cs, X, Y, false) := by unfold plcW; split <;> omega
    have hdv : plcW ((w : Int), (h' : Int), l, x, y, bb, s) ((w : Int), (h' : Int), cs, X, Y, false) / w = fstW ((w : Int), (h' : Int), l, x, y, bb, s) ((w : Int), (h' : Int), cs, X, Y, false) / w := by
      unfold plcW
      split
      · rename_i q
        have q1 := ((cs_kind hk (i := fstW ((w : Int), (h' : Int), l, x, y, bb, s) ((w : Int), (h' : Int), cs, X, Y, false)) (by omega)).2.2 q).1
        generalize fstW ((w : Int), (h' : Int), l, x, y, bb, s) ((w : Int), (h' : Int), cs, X, Y, false) = F at *
        have e := Nat.div_add_mod F w
        have hm := Nat.mod_lt F (show 0 < w by omega)
        refine Nat.div_eq_of_lt_le ?_ ?_
        · rw [Nat.mul_comm]; omega
        · rw [Nat.mul_comm, Nat.mul_add]; omega
      · rfl
    generalize plcW ((w : Int), (h' : Int), l, x, y, bb, s) ((w : Int), (h' : Int), cs, X, Y, false) = p at *
    generalize fstW ((w : Int), (h' : Int), l, x, y, bb, s) ((w : Int), (h' : Int), cs, X, Y, false) = F at *
    have hm := Nat.mod_lt p (show 0 < w by omega)
    have hq : p / w < h' := (Nat.div_lt_iff_lt_mul (by omega)).2 (by rw [Nat.mul_comm]; omega)
    exact ⟨⟨Int.natCast_nonneg _, Int.ofNat_lt.2 hm⟩, ⟨Int.natCast_nonneg _, Int.ofNat_lt.2 hq⟩, fun _ => ⟨hdv, hlt⟩⟩
/-- one step: the end, a move to where it is to be, or less that is wrong -/
theorem paint_step {b : Bel} {t : Tm} (hf : fitsP b t) : (isAt b t.2.2.2.1 t.2.2.2.2.1 = true ∧ fstW b t = b.2.2.1.length ∧ nextP b t = ((0, 0, 0, 0), 7)) ∨
    ((nextP b t).2 = 0 ∧ isCmd (nextP b t).1 = true ∧ (doB b (nextP b t).1).2 = 0 ∧ fitsP (doB b (nextP b t).1).1 t ∧ (doB b (nextP b t).1).1.2.2.1.length = b.2.2.1.length ∧ (doB b (nextP b t).1).1.1 = b.1 ∧ (doB b (nextP b t).1).1.2.1 = b.2.1 ∧ (∀ i, wrP b.2.2.1 t.2.2.1 i = false → wrP (doB b (nextP b t).1).1.2.2.1 t.2.2.1 i = false) ∧
      ((isAt b (tgtX b t) (tgtY b t) = false ∧ (doB b (nextP b t).1).1 = (b.1, b.2.1, b.2.2.1, tgtX b t, tgtY b t, false, true) ∧ lenC (nextP b t).1 ≤ 8 ∧ padC (nextP b t).1 = 0 ∧ (nextP b t).1.1 ≠ 1 ∧ (nextP b t).1.1 ≠ 7 ∧ (nextP b t).1.1 ≠ 8)
      ∨ (isAt b (tgtX b t) (tgtY b t) = true ∧ fstW b t < b.2.2.1.length ∧ ((nextP b t).1.1 = 1 ∨ (nextP b t).1.1 = 7 ∨ (nextP b t).1.1 = 8) ∧ lenC (nextP b t).1 ≤ 4 ∧ wrP (doB b (nextP b t).1).1.2.2.1 t.2.2.1 (fstW b t) = false ∧
        ((nextP b t).1.1 = 7 → ∀ i, i < b.1.toNat * (fstW b t / b.1.toNat + 1) → wrP (doB b (nextP b t).1).1.2.2.1 t.2.2.1 i = false) ∧ ((nextP b t).1.1 = 8 → ∀ i, i < b.2.2.1.length → wrP (doB b (nextP b t).1).1.2.2.1 t.2.2.1 i = false)))) := by
  obtain ⟨g1, g2, g3⟩ := tgt_in hf
  obtain ⟨h1, h2, h3⟩ := fstW_spec b t
  have e := nextP_eq hf
  by_cases ha : isAt b (tgtX b t) (tgtY b t) = false
  · rw [if_pos ha] at e
    rw [e]
    have z := nextMo_zero hf.1 g1 g2 ha
    obtain ⟨n1, n2, n3, n4, n5, n6⟩ := next_leads z
    have k := doB_ok hf.1 n1
    refine .inr ⟨z, n1, by rw [n2], ?_, by rw [n2], by rw [n2], by rw [n2], by rw [n2]; exact fun _ q => q, .inl ⟨ha, by rw [n2], Nat.le_trans n5 (lenC_le _), n4, next_kind z⟩⟩
    rw [n2] at k ⊢
    exact ⟨k, hf.2.1, hf.2.2.1, hf.2.2.2.1, hf.2.2.2.2⟩
  · rw [if_neg ha] at e
    have ha' : isAt b (tgtX b t) (tgtY b t) = true := by simpa using ha
    by_cases hn : fstW b t = b.2.2.1.length
    · rw [if_pos hn] at e
      unfold tgtX tgtY at ha'
      rw [if_pos hn, if_pos hn] at ha'
      exact .inl ⟨ha', hn, e⟩
    · rw [if_neg hn] at e
      have hlt : fstW b t < b.2.2.1.length := by omega
      obtain ⟨g4, g5⟩ := g3 hlt
      have k3 := h3 hlt
      rw [e]
      simp only
      obtain ⟨w, h', l, x, y, bb, s, cs, X, Y, rfl, rfl, w2, _, _, _, hl, hcl, hk, hX, hY⟩ := fits_nat hf
      have hpd : plcW ((w : Int), (h' : Int), l, x, y, bb, s) ((w : Int), (h' : Int), cs, X, Y, false) = if (cAt cs (fstW ((w : Int), (h' : Int), l, x, y, bb, s) ((w : Int), (h' : Int), cs, X, Y, false))).2 = 2 then fstW ((w : Int), (h' : Int), l, x, y, bb, s) ((w : Int), (h' : Int), cs, X, Y, false) - 1 else fstW ((w : Int), (h' : Int), l, x, y, bb, s) ((w : Int), (h' : Int), cs, X, Y, false) := rfl
      have hat := isAt_iff.1 ha'
      unfold tgtX tgtY at hat
      rw [if_neg hn, if_neg hn] at hat
      simp only [Int.toNat_natCast] at hat g4 g5 h1 h2 h3 hlt k3 ⊢
      generalize plcW ((w : Int), (h' : Int), l, x, y, bb, s) ((w : Int), (h' : Int), cs, X, Y, false) = p at *
      generalize fstW ((w : Int), (h' : Int), l, x, y, bb, s) ((w : Int), (h' : Int), cs, X, Y, false) = F at *
      obtain ⟨t1, t2, t3, t4, t5, t6, t7⟩ := tell_step w2 hl hcl hk hlt k3 hpd
      obtain ⟨rfl, a1, a2, rfl⟩ := hat
      have d0 := doB_sure (c := tellW w l cs p) hf.1 t2 (by rcases t1 with z | z | z <;> rw [z] <;> decide)
      have dl : (doBK w h' l x y false (tellW w l cs p)).2.2.1 = listK w h' l (p % w) (p / w) false (tellW w l cs p) := by
        unfold doBK
        rw [a1, a2]; simp only [Int.toNat_natCast]
      have k := doB_ok hf.1 t2
      have k2 := doB_err hf.1 t2
      obtain ⟨w'', h'', e1, e2, _, _, _, _, hl2, _⟩ := okBe_iff.1 k
      rw [d0] at k e1 e2 hl2 ⊢
      simp only at e1 e2 hl2 ⊢
      have e1' : (doBK w h' l x y false (tellW w l cs p)).1 = w := rfl
      have e2' : (doBK w h' l x y false (tellW w l cs p)).2.1 = h' := rfl
      obtain rfl : w = w'' := by omega
      obtain rfl : h' = h'' := by omega
      rw [dl] at hl2 ⊢
      refine .inr ⟨trivial, t2, trivial, ⟨k, hf.2.1, hf.2.2.1, rfl, rfl⟩, by omega, rfl, rfl, t4, .inr ⟨ha', hlt, t1, t3, t5, fun z i hi => ?_, fun z i hi => ?_⟩⟩
      · rcases Nat.lt_or_ge i p with q | q
        · exact t4 i (h2 i (by omega))
        · exact t6 z i q (by rw [g4]; exact hi)
      · rcases Nat.lt_or_ge i p with q | q
        · exact t4 i (h2 i (by omega))
        · exact t7 z i q hi
noncomputable def atW (b : Bel) (t : Tm) : Nat := if isAt b (tgtX b t) (tgtY b t) = true then 0 else 1
/-- rows that are still to be looked at, and two more if anything is wrong -/
noncomputable def padW (b : Bel) (t : Tm) : Nat := (b.2.1.toNat - fstW b t / b.1.toNat) + (if cntW b t = 0 then 0 else 2)
/-- steps, bytes and waits that are left: each step makes them less -/
theorem paint_meas {b : Bel} {t : Tm} (hf : fitsP b t) (h0 : (nextP b t).2 ≠ 7) :
    2 * cntW (doB b (nextP b t).1).1 t + atW (doB b (nextP b t).1).1 t + 1 ≤ 2 * cntW b t + atW b t ∧ 12 * cntW (doB b (nextP b t).1).1 t + 8 * atW (doB b (nextP b t).1).1 t + lenC (nextP b t).1 ≤ 12 * cntW b t + 8 * atW b t ∧ padW (doB b (nextP b t).1).1 t + padC (nextP b t).1 ≤ padW b t := by
  rcases paint_step hf with ⟨_, _, e⟩ | ⟨s1, s2, s3, s4, s5, s6, s7, s8, ⟨q1, q2, q3, q4, q5, q6, q7⟩ | ⟨q1, q2, q3, q4, q5, q6, q7⟩⟩
  · exact absurd (by rw [e]) h0
  · have c : cntW (doB b (nextP b t).1).1 t = cntW b t := by rw [q2]; rfl
    have f : fstW (doB b (nextP b t).1).1 t = fstW b t := by rw [q2]; rfl
    have a : atW (doB b (nextP b t).1).1 t = 0 := by
      unfold atW
      rw [if_pos]
      rw [q2]
      exact isAt_iff.2 ⟨rfl, rfl, rfl, rfl⟩
    have a2 : atW b t = 1 := by unfold atW; rw [if_neg (by rw [q1]; decide)]
    unfold padW
    rw [c, f, a, a2, s6, s7]
    omega
  · generalize hd : (doB b (nextP b t).1).1 = d at *
    have a2 : atW b t = 0 := by unfold atW; rw [if_pos q1]
    have a1 : atW d t ≤ 1 := by unfold atW; split <;> omega
    have c : cntW d t < cntW b t := by
      unfold cntW
      rw [s5]
      refine cntP_lt (j := fstW b t) (fun i _ _ h => ?_) (Nat.zero_le _) (by omega) ((fstW_spec b t).2.2 q2) q5
      cases e : wrP b.2.2.1 t.2.2.1 i with
      | true => rfl
      | false => rw [s8 i e] at h; cases h
    obtain ⟨f1, f2, f3⟩ := fstW_spec d t
    obtain ⟨w, h', l, x, y, bb, s, cs, X, Y, rfl, rfl, w2, _, _, _, hl, hcl, hk, hX, hY⟩ := fits_nat hf
    obtain ⟨b1, b2, b3⟩ := fstW_spec ((w : Int), (h' : Int), l, x, y, bb, s) ((w : Int), (h' : Int), cs, X, Y, false)
    have low : ∀ n, n ≤ l.length → (∀ j, j < n → wrP d.2.2.1 cs j = false) → n ≤ fstW d ((w : Int), (h' : Int), cs, X, Y, false) := fun n hn h => by
      rcases Nat.lt_or_ge (fstW d ((w : Int), (h' : Int), cs, X, Y, false)) n with z | z
      · have := f3 (by rw [s5]; simp only; omega)
        rw [show wrP d.2.2.1 ((w : Int), (h' : Int), cs, X, Y, false).2.2.1 _ = false from h _ z] at this; cases this
      · exact z
    have mono := low (fstW ((w : Int), (h' : Int), l, x, y, bb, s) ((w : Int), (h' : Int), cs, X, Y, false)) b1 fun j hj => s8 j (b2 j hj)
    refine ⟨by omega, by omega, ?_⟩
    unfold padW
    rw [s6, s7, if_neg (show ¬ cntW ((w : Int), (h' : Int), l, x, y, bb, s) ((w : Int), (h' : Int), cs, X, Y, false) = 0 by omega)]
    simp only [Int.toNat_natCast] at q6 q7 ⊢
    have dv := Nat.div_le_div_right (c := w) mono
    have hq : fstW ((w : Int), (h' : Int), l, x, y, bb, s) ((w : Int), (h' : Int), cs, X, Y, false) / w < h' := (Nat.div_lt_iff_lt_mul (by omega)).2 (by rw [Nat.mul_comm]; simp only at q2; omega)
    have e2 : (if cntW d ((w : Int), (h' : Int), cs, X, Y, false) = 0 then 0 else 2) ≤ 2 := by split <;> omega
    have pd : ∀ c : Cmd, padC c ≤ (if c.1 = 7 then 1 else if c.1 = 8 then 2 else 0) := fun c => by unfold padC; split <;> omega
    have pd' := pd (nextP ((w : Int), (h' : Int), l, x, y, bb, s) ((w : Int), (h' : Int), cs, X, Y, false)).1
    rcases q3 with z | z | z
    · rw [z, if_neg (by decide), if_neg (by decide)] at pd'
      omega
    · rw [z, if_pos rfl] at pd'
      have k : w * (fstW ((w : Int), (h' : Int), l, x, y, bb, s) ((w : Int), (h' : Int), cs, X, Y, false) / w + 1) ≤ w * h' := Nat.mul_le_mul_left w hq
      have g := low _ (by omega) (q6 z)
      have g2 := (Nat.le_div_iff_mul_le (show 0 < w by omega)).2 (by rw [Nat.mul_comm]; exact g)
      omega
    · rw [z, if_neg (by decide), if_pos rfl] at pd'
      have g : cntW d ((w : Int), (h' : Int), cs, X, Y, false) = 0 := cntP_zero fun i _ hi => q7 z i (by rw [s5] at hi; simp only at hi ⊢; omega)
      rw [if_pos g]
      omega
theorem meas_le (b : Bel) (t : Tm) : cntW b t ≤ b.2.2.1.length ∧ atW b t ≤ 1 ∧ padW b t ≤ b.2.1.toNat + 2 := by
  refine ⟨cntP_le _ _ _, by unfold atW; split <;> omega, ?_⟩
  unfold padW
  have : (if cntW b t = 0 then 0 else 2) ≤ 2 := by split <;> omega
  generalize fstW b t / b.1.toNat = q
  omega
end Go.Proofs.YtgfmjmfphmjdkaaDoor
namespace Go.Proofs.YtgfmjmfphmjdkaaDoor
set_option linter.unusedSimpArgs false
set_option linter.unusedVariables false
set_option linter.unusedSectionVars false
set_option maxHeartbeats 4000000
open Go Go.RowKit
set_option maxRecDepth 100000
theorem cntP_congr {p q : Nat → Bool} {a b : Nat} : ∀ {n : Nat}, (∀ i, i < n → p (a + i) = q (b + i)) → cntP p a n = cntP q b n
  | 0, _ => rfl
  | n + 1, h => by
    have h1 := cntP_congr (n := n) fun i hi => h i (by omega)
    unfold cntP
    rw [h1, h n (by omega)]
theorem gAt_sub {l : List Guess} {a n i : Nat} (hi : i < n) : gAt ((l.drop a).take n) i = gAt l (a + i) := by
  unfold gAt; rw [List.getElem?_take_of_lt hi, List.getElem?_drop]
theorem cAt_sub {l : List Cell} {a n i : Nat} (hi : i < n) : cAt ((l.drop a).take n) i = cAt l (a + i) := by
  unfold cAt; rw [List.getElem?_take_of_lt hi, List.getElem?_drop]
theorem cnt_sub {l : List Guess} {cs : List Cell} {a n m : Nat} (h : n ≤ m) : cntP (wrP ((l.drop a).take n) ((cs.drop a).take m)) 0 n = cntP (wrP l cs) a n :=
  cntP_congr fun i hi => by unfold wrP; rw [Nat.zero_add, gAt_sub hi, cAt_sub (by omega)]
theorem blk_sub {cs : List Cell} {a n : Nat} : blkP ((cs.drop a).take n) 0 n = blkP cs a n := by
  rw [Bool.eq_iff_iff, blkP_iff, blkP_iff]
  constructor
  · intro h i h1 h2
    have := h (i - a) (Nat.zero_le _) (by omega)
    rwa [cAt_sub (by omega), show a + (i - a) = i by omega] at this
  · intro h i _ h2
    rw [cAt_sub (by omega)]; exact h _ (by omega) (by omega)
/-- one place alone -/
theorem cnt_one {l : List Guess} {cs : List Cell} {a : Nat} : cntP (wrP l cs) a 1 = 0 ↔ wrP l cs a = false := by
  show 0 + (if wrP l cs (a + 0) then 1 else 0) = 0 ↔ _
  rw [Nat.add_zero]
  cases wrP l cs a <;> simp
/-- the counting goes on -/
theorem cnt_next {p : Nat → Bool} {a n : Nat} : cntP p a (n + 1) = cntP p a n + (if p (a + n) then 1 else 0) := rfl
/-- where all is right up to a place, and this one is wrong, it is the first one -/
theorem fstW_here {b : Bel} {t : Tm} {k : Nat} (h1 : k < b.2.2.1.length) (h2 : ∀ j, j < k → wrP b.2.2.1 t.2.2.1 j = false) (h3 : wrP b.2.2.1 t.2.2.1 k = true) : fstW b t = k := fstP_uniq (by omega) h2 fun _ => h3
theorem fstW_end {b : Bel} {t : Tm} (h2 : ∀ j, j < b.2.2.1.length → wrP b.2.2.1 t.2.2.1 j = false) : fstW b t = b.2.2.1.length := fstP_uniq (Nat.le_refl _) h2 fun h => absurd h (by omega)
/-- is this where the cursor is: then nothing is told, else a move -/
theorem nextMo_two {b : Bel} {X Y : Int} (h1 : okBl b = true) (hX : 0 ≤ X ∧ X < b.1) (hY : 0 ≤ Y ∧ Y < b.2.1) : (isAt b X Y = true ∧ nextMo b X Y = ((0, 0, 0, 0), 7)) ∨ (isAt b X Y = false ∧ (nextMo b X Y).2 = 0) := by
  cases h : isAt b X Y with
  | true => exact .inl ⟨rfl, nextMo_here h1 hX hY h⟩
  | false => exact .inr ⟨rfl, nextMo_zero h1 hX hY h⟩
theorem fits_dec {w h : Int} {l : List Guess} {x y : Int} {b s : Bool} {tw th : Int} {tl : List Cell} {tx ty : Int} {tb : Bool} : decide (fitsP (w, h, l, x, y, b, s) (tw, th, tl, tx, ty, tb)) = (okBe w h l x y b s && okT tw th tl tx ty tb && !tb && decide (w = tw) && decide (h = th)) := by
  rw [Bool.eq_iff_iff, decide_eq_true_eq]
  simp only [Bool.and_eq_true, decide_eq_true_eq, Bool.not_eq_true', and_assoc]
  exact Iff.rfl
end Go.Proofs.YtgfmjmfphmjdkaaDoor
namespace Go.Proofs.YtgfmjmfphmjdkaaDoor
set_option linter.unusedSimpArgs false
set_option linter.unusedVariables false
set_option linter.unusedSectionVars false
set_option maxHeartbeats 4000000
open Go Go.RowKit
set_option maxRecDepth 100000
/-- behind i commands, of so many bytes and waits -/
structure EndsI (b0 : Bel) (t : Tm) (i by_ pd : Nat) (b : Bel) : Prop where
  fits : fitsP b t
  w : b.1 = b0.1
  h : b.2.1 = b0.2.1
  len : b.2.2.1.length = b0.2.2.1.length
  steps : 2 * cntW b t + atW b t + i ≤ 2 * cntW b0 t + 1
  bytes : by_ + 12 * cntW b t + 8 * atW b t ≤ 12 * b0.2.2.1.length + 8
  pads : pd + padW b t ≤ b0.2.1.toNat + 2
theorem ends_start {b : Bel} {t : Tm} (hf : fitsP b t) : EndsI b t 0 0 0 b := by
  have m := meas_le b t
  exact ⟨hf, rfl, rfl, rfl, by omega, by omega, by omega⟩
theorem ends_go {b0 b : Bel} {t : Tm} {i by_ pd : Nat} (H : EndsI b0 t i by_ pd b) (h7 : (nextP b t).2 ≠ 7) : (nextP b t).2 = 0 ∧ isCmd (nextP b t).1 = true ∧ (doB b (nextP b t).1).2 = 0 ∧ EndsI b0 t (i + 1) (by_ + lenC (nextP b t).1) (pd + padC (nextP b t).1) (doB b (nextP b t).1).1 := by
  obtain ⟨m1, m2, m3⟩ := paint_meas H.fits h7
  rcases paint_step H.fits with ⟨_, _, e⟩ | ⟨s1, s2, s3, s4, s5, s6, s7, _⟩
  · exact absurd (by rw [e]) h7
  · have a := H.steps
    have b' := H.bytes
    have c := H.pads
    exact ⟨s1, s2, s3, s4, s6.trans H.w, s7.trans H.h, s5.trans H.len, by omega, by omega, by omega⟩
theorem ends_stop {b0 b : Bel} {t : Tm} {i by_ pd : Nat} (H : EndsI b0 t i by_ pd b) (h7 : (nextP b t).2 = 7) : cntW b t = 0 ∧ fstW b t = b.2.2.1.length ∧ isAt b t.2.2.2.1 t.2.2.2.2.1 = true ∧ by_ ≤ 12 * b0.2.2.1.length + 8 ∧ pd ≤ b0.2.1.toNat + 2 := by
  have b' := H.bytes
  have c := H.pads
  rcases paint_step H.fits with ⟨a1, a2, e⟩ | ⟨s1, _⟩
  · exact ⟨(cntW_zero b t).2 a2, a2, a1, by omega, by omega⟩
  · rw [h7] at s1; cases s1
theorem ends_lt {b0 b : Bel} {t : Tm} {i by_ pd : Nat} (H : EndsI b0 t i by_ pd b) : i ≤ 2 * cntW b0 t + 1 := by have := H.steps; omega
/-- PaintKeeps: behind a command -/
theorem keeps {b : Bel} {t : Tm} (hf : fitsP b t) (h0 : (nextP b t).2 = 0) : (doB b (nextP b t).1).2 = 0 ∧ fitsP (doB b (nextP b t).1).1 t ∧ (doB b (nextP b t).1).1.2.2.1.length = b.2.2.1.length ∧ (∀ i, wrP b.2.2.1 t.2.2.1 i = false → wrP (doB b (nextP b t).1).1.2.2.1 t.2.2.1 i = false) ∧
    (((nextP b t).1.1 = 1 ∨ (nextP b t).1.1 = 7 ∨ (nextP b t).1.1 = 8) → cntW (doB b (nextP b t).1).1 t < cntW b t) ∧
    (¬ ((nextP b t).1.1 = 1 ∨ (nextP b t).1.1 = 7 ∨ (nextP b t).1.1 = 8) → cntW (doB b (nextP b t).1).1 t = cntW b t ∧ (cntW b t = 0 → (nextP (doB b (nextP b t).1).1 t).2 = 7) ∧ (0 < cntW b t → (nextP (doB b (nextP b t).1).1 t).2 = 0 ∧ ((nextP (doB b (nextP b t).1).1 t).1.1 = 1 ∨ (nextP (doB b (nextP b t).1).1 t).1.1 = 7 ∨ (nextP (doB b (nextP b t).1).1 t).1.1 = 8))) := by
  have m := (paint_meas hf (by rw [h0]; decide)).1
  rcases paint_step hf with ⟨_, _, e⟩ | ⟨s1, s2, s3, s4, s5, s6, s7, s8, hs⟩
  · rw [e] at h0; cases h0
  · refine ⟨s3, s4, s5, s8, fun k => ?_, fun k => ?_⟩
    · rcases hs with ⟨_, _, _, _, n1, n2, n3⟩ | ⟨q1, q2, _, _, q5, _⟩
      · rcases k with k | k | k
        · exact absurd k n1
        · exact absurd k n2
        · exact absurd k n3
      · unfold cntW
        rw [s5]
        refine cntP_lt (j := fstW b t) (fun i _ _ h => ?_) (Nat.zero_le _) (by omega) ((fstW_spec b t).2.2 q2) q5
        cases e : wrP b.2.2.1 t.2.2.1 i with
        | true => rfl
        | false => rw [s8 i e] at h; cases h
    · rcases hs with ⟨q1, q2, _⟩ | ⟨_, _, k2, _⟩
      · generalize (doB b (nextP b t).1).1 = d at *
        have c : cntW d t = cntW b t := by rw [q2]; rfl
        have f : fstW d t = fstW b t := by rw [q2]; rfl
        have x : tgtX d t = tgtX b t := by rw [q2]; rfl
        have y : tgtY d t = tgtY b t := by rw [q2]; rfl
        have a : isAt d (tgtX d t) (tgtY d t) = true := by
          rw [x, y, q2]; exact isAt_iff.2 ⟨rfl, rfl, rfl, rfl⟩
        refine ⟨c, fun z => ?_, fun z => ?_⟩
        · have e := nextP_eq s4
          rw [if_neg (by rw [a]; decide), if_pos ((cntW_zero d t).1 (by omega))] at e
          rw [e]
        · rcases paint_step s4 with ⟨_, a2, _⟩ | ⟨r1, _, _, _, _, _, _, _, ⟨w, _⟩ | ⟨_, _, w, _⟩⟩
          · have := (cntW_zero d t).2 a2; omega
          · rw [a] at w; cases w
          · exact ⟨r1, w⟩
      · exact absurd k2 k
end Go.Proofs.YtgfmjmfphmjdkaaDoor
namespace Go.Proofs.YtgfmjmfphmjdkaaDoor
set_option linter.unusedSimpArgs false
set_option linter.unusedVariables false
set_option linter.unusedSectionVars false
set_option maxHeartbeats 4000000
open Go Go.RowKit
set_option maxRecDepth 100000
/-- where is painted next, and whether there is such a place -/
def firP (b : Bel) (t : Tm) : Int × Bool := if fstW b t = b.2.2.1.length then (0, false) else ((plcW b t : Nat), true)
def fitsPC (b : Bel) (t : Tm) : Bool := okBlC b && okTC t.1 t.2.1 t.2.2.1 t.2.2.2.1 t.2.2.2.2.1 t.2.2.2.2.2 && !t.2.2.2.2.2 && decide (b.1 = t.1) && decide (b.2.1 = t.2.1)
theorem fitsP_c {b : Bel} {t : Tm} : fitsP b t ↔ fitsPC b t = true := by
  unfold fitsP fitsPC okBl okBlC okTm
  rw [okBe_c, okT_c]
  simp only [Bool.and_eq_true, decide_eq_true_eq, Bool.not_eq_true', and_assoc]
def wrongPC (b : Bel) (t : Tm) : Int × Int := if fitsPC b t = true then ((cntP (wrP b.2.2.1 t.2.2.1) 0 b.2.2.1.length : Nat), 0) else (0, 1)
theorem wrongP_c (b : Bel) (t : Tm) : wrongP b t = wrongPC b t := by
  unfold wrongP wrongPC
  by_cases h : fitsP b t
  · rw [if_pos h, if_pos (fitsP_c.1 h)]
  · rw [if_neg h, if_neg (fun z => h (fitsP_c.2 z))]
def nextMoC (b : Bel) (X Y : Int) : Cmd × Int :=
  if ¬ (okBlC b = true ∧ 0 ≤ X ∧ X < b.1 ∧ 0 ≤ Y ∧ Y < b.2.1) then ((0, 0, 0, 0), 1)
  else if b.2.2.2.2.2.2 = false then (goC X Y, 0)
  else if b.2.2.2.1 = X ∧ b.2.2.2.2.1 = Y ∧ b.2.2.2.2.2.1 = false then ((0, 0, 0, 0), 7)
  else (bestM (movesM b.2.1 b.2.2.2.1 b.2.2.2.2.1 X Y) (goC X Y), 0)
theorem nextMo_c (b : Bel) (X Y : Int) : nextMo b X Y = nextMoC b X Y := by unfold nextMo nextMoC okBl okBlC; rw [okBe_c]
def nextPC (b : Bel) (t : Tm) : Cmd × Int :=
  if fitsPC b t = true then
    if fstW b t = b.2.2.1.length then nextMoC b t.2.2.2.1 t.2.2.2.2.1
    else if isAt b (plcW b t % b.1.toNat : Nat) (plcW b t / b.1.toNat : Nat) = false then nextMoC b (plcW b t % b.1.toNat : Nat) (plcW b t / b.1.toNat : Nat)
    else (tellW b.1.toNat b.2.2.1 t.2.2.1 (plcW b t), 0)
  else ((0, 0, 0, 0), 1)
theorem nextP_c (b : Bel) (t : Tm) : nextP b t = nextPC b t := by
  unfold nextP nextPC
  by_cases h : fitsP b t
  · rw [if_pos h, if_pos (fitsP_c.1 h), nextMo_c, nextMo_c]
  · rw [if_neg h, if_neg (fun z => h (fitsP_c.2 z))]
/-- what is told, in the program's order -/
theorem nextP_no {b : Bel} {t : Tm} (h : ¬ fitsP b t) : nextP b t = ((0, 0, 0, 0), 1) := by unfold nextP; rw [if_neg h]
theorem nextP_end {b : Bel} {t : Tm} (hf : fitsP b t) (h : fstW b t = b.2.2.1.length) : nextP b t = nextMo b t.2.2.2.1 t.2.2.2.2.1 := by unfold nextP; rw [if_pos hf, if_pos h]
theorem nextP_mid {b : Bel} {t : Tm} (hf : fitsP b t) (h : fstW b t ≠ b.2.2.1.length) : nextP b t = if isAt b (plcW b t % b.1.toNat : Nat) (plcW b t / b.1.toNat : Nat) = false then nextMo b (plcW b t % b.1.toNat : Nat) (plcW b t / b.1.toNat : Nat) else (tellW b.1.toNat b.2.2.1 t.2.2.1 (plcW b t), 0) := by unfold nextP; rw [if_pos hf, if_neg h]
theorem wrongP_ok {b : Bel} {t : Tm} (hf : fitsP b t) : wrongP b t = (((cntW b t : Nat) : Int), 0) := by unfold wrongP; rw [if_pos hf]; rfl
theorem wrongP_no {b : Bel} {t : Tm} (hf : ¬ fitsP b t) : wrongP b t = (0, 1) := by unfold wrongP; rw [if_neg hf]
theorem fits_len {b : Bel} {t : Tm} (hf : fitsP b t) : b.2.2.1.length = t.2.2.1.length ∧ b.2.2.1.length ≤ 1920 := by
  obtain ⟨w, h', l, x, y, bb, s, cs, X, Y, rfl, rfl, w2, w3, w4, w5, hl, hcl, hk, hX, hY⟩ := fits_nat hf
  have := side_leB w3 w5
  simp only
  omega
theorem plc_le {b : Bel} {t : Tm} : plcW b t ≤ fstW b t := by unfold plcW; split <;> omega
end Go.Proofs.YtgfmjmfphmjdkaaDoor
