/- Layer 28 (motion), plainly: the reference tells what the program tells; it leads there, changes nothing, and no other move is less. No condition. -/
import Derived.Test.YtgfmjmfphmjdkaaGreatDoorQ3H1
import Derived.Test.YtgfmjmfphmjdkaaGreatDoorQ3O1
namespace Go.Proofs.YtgfmjmfphmjdkaaGreatDoor
set_option linter.unusedSimpArgs false
set_option linter.unusedVariables false
set_option linter.unusedSectionVars false
set_option maxHeartbeats 4000000
open Go Go.RowKit
set_option maxRecDepth 100000
theorem bestM_snoc (l : List Cmd) (c b : Cmd) : bestM (l ++ [c]) b = if lenC c < lenC (bestM l b) then c else bestM l b := by
  unfold bestM; rw [List.foldl_append]; rfl
/-- the same cursor, without what is sure of cells -/
def bareB (b : Bel) : Bel := (b.1, b.2.1, List.replicate (b.1.toNat * b.2.1.toNat) gZero, b.2.2.2.1, b.2.2.2.2.1, b.2.2.2.2.2.1, b.2.2.2.2.2.2)
theorem bare_ok {b : Bel} (h : okBl b = true) : okBl (bareB b) = true := by
  obtain ⟨w, h', l, x, y, bb, s⟩ := b
  obtain ⟨w, h', rfl, rfl, w2, w3, w4, w5, hl, hk, p1, p2⟩ := okBe_iff.1 h
  exact okBe_iff.2 ⟨w, h', rfl, rfl, w2, w3, w4, w5, by simp [bareB], by simpa [bareB] using rep_ok w (w * h'), p1, p2⟩
/-- is this its cursor? -/
def isAt (b : Bel) (X Y : Int) : Bool := b.2.2.2.2.2.2 && decide (b.2.2.2.1 = X) && decide (b.2.2.2.2.1 = Y) && !b.2.2.2.2.2.1
theorem isAt_iff {b : Bel} {X Y : Int} : isAt b X Y = true ↔ b.2.2.2.2.2.2 = true ∧ b.2.2.2.1 = X ∧ b.2.2.2.2.1 = Y ∧ b.2.2.2.2.2.1 = false := by simp [isAt, and_assoc]
noncomputable def ledB (b : Bel) (X Y : Int) (c : Cmd) : Bool := isAt (doB (bareB b) c).1 X Y
theorem goC_ok {X Y : Int} (hx : 0 ≤ X ∧ X ≤ 79) (hy : 0 ≤ Y ∧ Y ≤ 23) : isCmd (goC X Y) = true := by
  have : isCmd (2, Y, X, 0) = true := by simp [isCmd]; omega
  exact this
theorem allL_ok {f : Bool} {X Y : Int} (hx : 0 ≤ X ∧ X ≤ 79) (hy : 0 ≤ Y ∧ Y ≤ 23) {c : Cmd} (hc : c ∈ allL f X Y) : isCmd c = true := by
  unfold allL at hc
  rcases List.mem_cons.1 hc with rfl | hc
  · exact goC_ok hx hy
  · rcases restL_mem.1 hc with ⟨k, a, rfl, hk, ha⟩ | rfl | ⟨rfl, _⟩ | rfl
    · exact up_ok hk ha
    · rfl
    · rfl
    · rfl
theorem fold_congr {p q : Cmd → Bool} : ∀ (l : List Cmd) (s : Cmd × Nat), (∀ c ∈ l, p c = q c) → l.foldl (refStep p) s = l.foldl (refStep q) s
  | [], _, _ => rfl
  | c :: l, s, h => by
    rw [List.foldl_cons, List.foldl_cons, show refStep p s c = refStep q s c by unfold refStep; rw [h c List.mem_cons_self]]
    exact fold_congr l _ fun d hd => h d (List.mem_cons_of_mem _ hd)
theorem fold_none {p : Cmd → Bool} : ∀ (l : List Cmd) (s : Cmd × Nat), (∀ c ∈ l, p c = false) → l.foldl (refStep p) s = s
  | [], _, _ => rfl
  | c :: l, s, h => by
    rw [List.foldl_cons, show refStep p s c = s by unfold refStep; rw [h c List.mem_cons_self]; simp]
    exact fold_none l _ fun d hd => h d (List.mem_cons_of_mem _ hd)
theorem led_sure {w h x y X Y : Int} {l : List Guess} {b : Bool} {c : Cmd} (h1 : okBe w h l x y b true = true) (hc : isCmd c = true) (h12 : c.1 ≠ 12) : ledB (w, h, l, x, y, b, true) X Y c = leads w h x y b X Y c := by
  have h2 := bare_ok (b := (w, h, l, x, y, b, true)) h1
  unfold ledB
  rw [show bareB (w, h, l, x, y, b, true) = (w, h, List.replicate (w.toNat * h.toNat) gZero, x, y, b, true) from rfl] at h2 ⊢
  rw [doB_sure h2 hc h12, Bool.eq_iff_iff, leads_iff, isAt_iff]
  exact ⟨fun z => z.2, fun z => ⟨rfl, z⟩⟩
/-- the reference's choice is the program's -/
theorem ref_choice {b : Bel} {X Y : Int} (h1 : okBl b = true) (hX : 0 ≤ X ∧ X < b.1) (hY : 0 ≤ Y ∧ Y < b.2.1) (hn : isAt b X Y = false) : (((allL (b.2.2.2.2.2.2 && decide (b.2.2.2.2.1 < b.2.1 - 1)) X Y).foldl (refStep (ledB b X Y)) ((0, 0, 0, 0), 9)).1, (0 : Int)) = nextMo b X Y := by
  obtain ⟨w, h, l, x, y, bb, s⟩ := b
  have h1' := h1
  obtain ⟨w', h', e1, e2, w2, w3, w4, w5, hl, hk, p1, p2⟩ := okBe_iff.1 h1'
  simp only at hX hY e1 e2
  unfold nextMo
  rw [if_neg (fun z => z ⟨h1, hX.1, hX.2, hY.1, hY.2⟩)]
  have hX' : 0 ≤ X ∧ X ≤ 79 := by omega
  have hY' : 0 ≤ Y ∧ Y ≤ 23 := by omega
  cases s with
  | false =>
    rw [if_pos rfl]
    obtain ⟨rfl, rfl, rfl⟩ := p2 rfl
    simp only [Bool.false_and]
    have hg := lenC_le (goC X Y)
    have h2 := bare_ok (b := (w, h, l, 0, 0, false, false)) h1
    have hgo : ledB (w, h, l, 0, 0, false, false) X Y (goC X Y) = true := by
      unfold ledB
      rw [show bareB (w, h, l, 0, 0, false, false) = (w, h, List.replicate (w.toNat * h.toNat) gZero, 0, 0, false, false) from rfl] at h2 ⊢
      rw [doB_go h2 (goC_ok hX' hY') rfl]
      have e := cur_go w h 0 0 false Y X
      rw [inM_in (by omega) (by omega), inM_in (by omega) (by omega)] at e
      refine isAt_iff.2 ⟨rfl, ?_, ?_, ?_⟩
      · exact congrArg Prod.fst e
      · exact congrArg (fun z => z.2.1) e
      · exact congrArg (fun z => z.2.2) e
    have hrest : ∀ c ∈ allL false X Y, c ≠ goC X Y → ledB (w, h, l, 0, 0, false, false) X Y c = false := fun c hc hne => by
      have hc2 := allL_ok hX' hY' hc
      have h2' : c.1 ≠ 2 := by
        unfold allL at hc
        rcases List.mem_cons.1 hc with rfl | hc
        · exact absurd rfl hne
        · rcases restL_mem.1 hc with ⟨k, a, rfl, hk, ha⟩ | rfl | ⟨rfl, _⟩ | rfl
          · show k ≠ 2; omega
          all_goals decide
      unfold ledB isAt
      rw [show bareB (w, h, l, 0, 0, false, false) = (w, h, List.replicate (w.toNat * h.toNat) gZero, 0, 0, false, false) from rfl] at h2 ⊢
      rw [doB_un h2 hc2 h2']; rfl
    unfold allL at hrest ⊢
    rw [List.foldl_cons, show refStep (ledB (w, h, l, 0, 0, false, false) X Y) ((0, 0, 0, 0), 9) (goC X Y) = (goC X Y, lenC (goC X Y)) from if_pos ⟨by show lenC (goC X Y) < 9; omega, hgo⟩, fold_none _ _ fun c hc => hrest c (List.mem_cons_of_mem _ hc) fun e => by
      rcases restL_mem.1 hc with ⟨k, a, rfl, hk, ha⟩ | rfl | ⟨rfl, _⟩ | rfl
      · have := congrArg Prod.fst e; simp only [goC] at this; omega
      all_goals (have := congrArg Prod.fst e; simp [goC] at this)]
  | true =>
    have hn' : ¬ (x = X ∧ y = Y ∧ bb = false) := fun z => by
      obtain ⟨rfl, rfl, rfl⟩ := z
      simp [isAt] at hn
    rw [if_neg (fun z => absurd (show true = false from z) (by decide)), if_neg hn']
    obtain ⟨q1, q2, q3, q4, q5⟩ := p1 rfl
    simp only [Bool.true_and]
    rw [fold_congr (q := leads w h x y bb X Y) _ _ fun c hc => led_sure h1 (allL_ok hX' hY' hc) fun e => by
      unfold allL at hc
      rcases List.mem_cons.1 hc with rfl | hc
      · simp [goC] at e
      · rcases restL_mem.1 hc with ⟨k, a, rfl, hk, ha⟩ | rfl | ⟨rfl, _⟩ | rfl
        · simp only at e; omega
        all_goals simp at e]
    rw [Away.same ⟨⟨by omega, by omega, by omega, by omega⟩, ⟨q1, by omega⟩, ⟨q3, by omega⟩, hX, hY, fun e => by have := q5 e; omega, hn'⟩]
theorem nextMo_here {b : Bel} {X Y : Int} (h1 : okBl b = true) (hX : 0 ≤ X ∧ X < b.1) (hY : 0 ≤ Y ∧ Y < b.2.1) (hn : isAt b X Y = true) : nextMo b X Y = ((0, 0, 0, 0), 7) := by
  obtain ⟨w, h, l, x, y, bb, s⟩ := b
  simp only [isAt, Bool.and_eq_true, decide_eq_true_eq, Bool.not_eq_true'] at hn
  obtain ⟨⟨⟨a1, a2⟩, a3⟩, a4⟩ := hn
  unfold nextMo
  rw [if_neg (fun z => z ⟨h1, hX.1, hX.2, hY.1, hY.2⟩), if_neg (by simp only; rw [a1]; decide), if_pos ⟨a2, a3, a4⟩]
/-- what is told when something is told: a move that leads there -/
theorem nextMo_ok {b : Bel} {X Y : Int} (h : (nextMo b X Y).2 = 0) : okBl b = true ∧ (0 ≤ X ∧ X < b.1) ∧ (0 ≤ Y ∧ Y < b.2.1) ∧ ((b.2.2.2.2.2.2 = false ∧ (nextMo b X Y).1 = goC X Y) ∨ (b.2.2.2.2.2.2 = true ∧ Away b.1 b.2.1 b.2.2.2.1 b.2.2.2.2.1 X Y b.2.2.2.2.2.1 ∧ (nextMo b X Y).1 = bestM (movesM b.2.1 b.2.2.2.1 b.2.2.2.2.1 X Y) (goC X Y))) := by
  by_cases h0 : okBl b = true ∧ 0 ≤ X ∧ X < b.1 ∧ 0 ≤ Y ∧ Y < b.2.1
  · refine ⟨h0.1, ⟨h0.2.1, h0.2.2.1⟩, ⟨h0.2.2.2.1, h0.2.2.2.2⟩, ?_⟩
    unfold nextMo at h ⊢
    rw [if_neg (fun z => z h0)] at h ⊢
    by_cases hs : b.2.2.2.2.2.2 = false
    · rw [if_pos hs]; exact .inl ⟨hs, rfl⟩
    · rw [if_neg hs] at h ⊢
      by_cases ht : b.2.2.2.1 = X ∧ b.2.2.2.2.1 = Y ∧ b.2.2.2.2.2.1 = false
      · rw [if_pos ht] at h; cases h
      · rw [if_neg ht]
        obtain ⟨w', h', e1, e2, w2, w3, w4, w5, hl, hk, p1, p2⟩ := okBe_iff.1 h0.1
        have hs' : b.2.2.2.2.2.2 = true := by simpa using hs
        obtain ⟨q1, q2, q3, q4, q5⟩ := p1 hs'
        exact .inr ⟨hs', ⟨⟨by omega, by omega, by omega, by omega⟩, ⟨q1, by omega⟩, ⟨q3, by omega⟩, ⟨h0.2.1, h0.2.2.1⟩, ⟨h0.2.2.2.1, h0.2.2.2.2⟩, fun e => by have := q5 e; omega, ht⟩, rfl⟩
  · unfold nextMo at h; rw [if_pos h0] at h; cases h
/-- the forms of a move -/
def MoveC (h y : Int) (X Y : Int) (c : Cmd) : Prop := c = goC X Y ∨ (∃ k a, c = (k, a, 0, 0) ∧ (k = 3 ∨ k = 4 ∨ k = 5 ∨ k = 6) ∧ 1 ≤ a ∧ a ≤ 80) ∨ c = (9, 0, 0, 0) ∨ (c = (10, 0, 0, 0) ∧ y < h - 1) ∨ c = (11, 0, 0, 0)
theorem Away.best {w h x y X Y : Int} {b : Bool} (H : Away w h x y X Y b) : leads w h x y b X Y (bestM (movesM h x y X Y) (goC X Y)) = true ∧ MoveC h y X Y (bestM (movesM h x y X Y) (goC X Y)) ∧ (∀ d, d = goC X Y ∨ d ∈ movesM h x y X Y → lexle (bestM (movesM h x y X Y) (goC X Y)) d) := by
  have hX := H.hX
  have hY := H.hY
  have hs := H.hs
  have lg : leads w h x y b X Y (goC X Y) = true := leads_iff.2 (by
    show (curK w h x y b (2, Y, X, 0)).1 = X ∧ (curK w h x y b (2, Y, X, 0)).2.1 = Y ∧ (curK w h x y b (2, Y, X, 0)).2.2 = false
    rw [cur_go]; exact ⟨inM_in (by omega) (by omega), inM_in (by omega) (by omega), rfl⟩)
  obtain ⟨m2, q2⟩ := best_ok (movesM h x y X Y) (goC X Y) (fun d hd => by
    rcases (H.moves hd).2 with rfl | ⟨k, a, rfl, hk, _⟩ | rfl | ⟨rfl, _⟩ | rfl
    · exact .inr ⟨rfl, Int.le_refl _⟩
    · exact .inl (show (2 : Int) < k by omega)
    · exact .inl (show (2 : Int) < 9 by omega)
    · exact .inl (show (2 : Int) < 10 by omega)
    · exact .inl (show (2 : Int) < 11 by omega)) (movesM_pw h x y X Y)
  refine ⟨?_, ?_, fun d hd => q2 d (by rcases hd with rfl | hd; exact List.mem_cons_self; exact List.mem_cons_of_mem _ hd)⟩
  · rcases List.mem_cons.1 m2 with e | e
    · rw [e]; exact lg
    · exact (H.moves e).1
  · rcases List.mem_cons.1 m2 with e | e
    · exact .inl e
    · exact (H.moves e).2
theorem moveC_ok {h y X Y : Int} {c : Cmd} (hx : 0 ≤ X ∧ X ≤ 79) (hy : 0 ≤ Y ∧ Y ≤ 23) (h1 : MoveC h y X Y c) : isCmd c = true ∧ c.1 ≠ 12 ∧ padC c = 0 ∧ (chg c.1 = true → c = (10, 0, 0, 0) ∧ y < h - 1) ∧ c.1 ≠ 1 ∧ c.1 ≠ 7 ∧ c.1 ≠ 8 := by
  have pd : ∀ c : Cmd, c.1 ≠ 7 → c.1 ≠ 8 → padC c = 0 := fun c a b => by unfold padC; rw [if_neg a, if_neg b]; split <;> rfl
  rcases h1 with rfl | ⟨k, a, rfl, hk, ha⟩ | rfl | ⟨rfl, hh⟩ | rfl
  · have n2 : ∀ k : Int, k ≠ 2 → (goC X Y).1 ≠ k := fun k hk e => hk e.symm
    exact ⟨goC_ok hx hy, n2 _ (by decide), pd _ (n2 _ (by decide)) (n2 _ (by decide)), fun e => (by simp [chg, goC] at e), n2 _ (by decide), n2 _ (by decide), n2 _ (by decide)⟩
  · refine ⟨up_ok hk ha, show k ≠ 12 by omega, pd _ (show k ≠ 7 by omega) (show k ≠ 8 by omega), fun e => ?_, show k ≠ 1 by omega, show k ≠ 7 by omega, show k ≠ 8 by omega⟩
    simp [chg] at e; omega
  · exact ⟨rfl, by decide, rfl, fun e => (by simp [chg] at e), by decide, by decide, by decide⟩
  · exact ⟨rfl, by decide, rfl, fun _ => ⟨rfl, hh⟩, by decide, by decide, by decide⟩
  · exact ⟨rfl, by decide, rfl, fun e => (by simp [chg] at e), by decide, by decide, by decide⟩
theorem moves_list {w h x y : Nat} {X Y : Int} {l : List Guess} {b : Bool} {c : Cmd} (hy : (y : Int) < h) (hx : 0 ≤ X ∧ X ≤ 79) (hY : 0 ≤ Y ∧ Y ≤ 23) (h1 : MoveC h y X Y c) : listK w h l x y b c = l := by
  obtain ⟨_, _, _, h4, h5, h6, h7⟩ := moveC_ok hx hY h1
  unfold listK
  rw [if_neg h5, if_neg h6, if_neg h7]
  split
  · rename_i e
    obtain ⟨_, h⟩ := h4 (by rw [e]; rfl)
    rw [if_pos (by omega)]
  · rfl
/-- what is told leads there, and changes nothing else -/
theorem next_leads {b : Bel} {X Y : Int} (h : (nextMo b X Y).2 = 0) : isCmd (nextMo b X Y).1 = true ∧ doB b (nextMo b X Y).1 = ((b.1, b.2.1, b.2.2.1, X, Y, false, true), 0) ∧ touchB b (nextMo b X Y).1 = (0, 0) ∧ padC (nextMo b X Y).1 = 0 ∧ lenC (nextMo b X Y).1 ≤ lenC (goC X Y) ∧ 1 ≤ lenC (nextMo b X Y).1 := by
  obtain ⟨h1, hX, hY, hh⟩ := nextMo_ok h
  obtain ⟨w, h0, l, x, y, bb, s⟩ := b
  have h1' := h1
  obtain ⟨w', h', e1, e2, w2, w3, w4, w5, hl, hk, p1, p2⟩ := okBe_iff.1 h1'
  simp only at hX hY e1 e2 hh
  subst e1 e2
  have hX' : 0 ≤ X ∧ X ≤ 79 := by omega
  have hY' : 0 ≤ Y ∧ Y ≤ 23 := by omega
  have len1 : ∀ c : Cmd, isCmd c = true → 1 ≤ lenC c := fun c hc => by unfold lenC putR'; rw [if_pos hc]; exact (bytesB_len hc).1
  rcases hh with ⟨rfl, e⟩ | ⟨rfl, H, e⟩
  · rw [e]
    obtain ⟨rfl, rfl, rfl⟩ := p2 rfl
    have hc := goC_ok hX' hY'
    refine ⟨hc, ?_, ?_, (moveC_ok hX' hY' (h := h') (y := 0) (.inl rfl)).2.2.1, Nat.le_refl _, len1 _ hc⟩
    · rw [doB_go h1 hc rfl]
      have := cur_go w' h' 0 0 false Y X
      unfold doBK
      rw [show goC X Y = (2, Y, X, 0) from rfl, this, inM_in (by omega) (by omega), inM_in (by omega) (by omega)]
      rfl
    · unfold touchB; rw [if_pos (fun z => by have := z.2.2; simp [chg, goC] at this)]
  · rw [e]
    obtain ⟨b1, b2, b3⟩ := H.best
    generalize bestM (movesM h' x y X Y) (goC X Y) = c at *
    obtain ⟨c1, c2, c3, c4, c5, c6, c7⟩ := moveC_ok hX' hY' b2
    obtain ⟨q1, q2, q3, q4, q5⟩ := p1 rfl
    obtain ⟨x, rfl⟩ := Int.eq_ofNat_of_zero_le q1
    obtain ⟨y, rfl⟩ := Int.eq_ofNat_of_zero_le q3
    refine ⟨c1, ?_, ?_, c3, ?_, len1 _ c1⟩
    · rw [doB_sure h1 c1 c2]
      obtain ⟨k1, k2, k3⟩ := leads_iff.1 b1
      unfold doBK
      rw [k1, k2, k3]
      simp only [Int.toNat_natCast]
      rw [moves_list (X := X) (Y := Y) (by omega) hX' hY' b2]
    · unfold touchB
      by_cases hg : chg c.1 = true
      · obtain ⟨rfl, hh⟩ := c4 hg
        rw [if_neg (fun z => z ⟨h1, c1, hg⟩), if_neg (fun z => by rcases z with z | z; cases z; simp only at z; omega), if_pos rfl]
      · rw [if_pos (fun z => hg z.2.2)]
    · have := b3 _ (.inl rfl); unfold lexle at this; omega
end Go.Proofs.YtgfmjmfphmjdkaaGreatDoor
