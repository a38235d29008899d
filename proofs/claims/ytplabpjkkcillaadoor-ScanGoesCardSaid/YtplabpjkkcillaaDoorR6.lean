/- Layer 6 (scan): what the reference finds is what the program finds (plain laws). No condition. -/
import Derived.Test.YtplabpjkkcillaaDoorR5
namespace Go.Proofs.YtplabpjkkcillaaDoor
set_option linter.unusedSimpArgs false
set_option linter.unusedVariables false
set_option linter.unusedSectionVars false
set_option maxHeartbeats 4000000
open Go Go.RowKit
set_option maxRecDepth 100000
theorem maybe_esc (m : List UInt8) (x : UInt8) : maybeM (27 :: 91 :: (m ++ [x])) = escM m x := by
  have hlen : (27 :: 91 :: (m ++ [x]) : List UInt8).length = m.length + 3 := by simp
  rw [maybeM, if_neg (by simp), if_neg (by simp), if_neg (by simp), if_neg (by simp), if_neg (by rw [hlen, bt_cons0]; intro h; rcases h with h | h; omega; exact h rfl), hlen]
  have e1 : ((27 :: 91 :: (m ++ [x]) : List UInt8).drop 2).take (m.length + 3 - 1 - 2) = m := by
    rw [show m.length + 3 - 1 - 2 = m.length by omega]; simp
  have e2 : bt (27 :: 91 :: (m ++ [x])) (m.length + 3 - 1) = x.toNat := by
    apply bt_at
    rw [show m.length + 3 - 1 = m.length + 2 by omega]; simp
  rw [e1, e2]; simp
theorem next_enc {r : Int} (h : isG r = true) (t : List UInt8) : nextG (encC r ++ t) = (r, (((encC r).length : Nat) : Int), 0) := by
  have hl := encC_len r
  obtain ⟨d1, d2⟩ := dec_enc h t
  rw [nextG, if_neg (by intro e; have := congrArg List.length e; simp only [List.length_append, List.length_nil] at this; omega), if_neg (by rw [full_enc h]; decide), d1, d2]
theorem dig_no59 {n j : Nat} (hn : n < 100) (h : j < (digB n).length) : bt (digB n) j ≠ 59 := by
  unfold digB at h ⊢
  split at h
  · rename_i h1
    rw [if_pos h1]
    obtain rfl : j = 0 := by simp only [List.length_singleton] at h; omega
    rw [bt_cons0, ofNat_bt (by omega)]; omega
  · rename_i h1
    rw [if_neg h1]
    simp only [List.length_cons, List.length_nil] at h
    have : j = 0 ∨ j = 1 := by omega
    rcases this with rfl | rfl
    · rw [bt_cons0, ofNat_bt (by omega)]; omega
    · rw [bt_cons1, ofNat_bt (by omega)]; omega
theorem semi_dig {x : Nat} (hx : x < 100) (t : List UInt8) : semi (digB x ++ 59 :: t) = (digB x).length := by
  refine semi_at (b := 59) (by simp) rfl fun j hj => ?_
  rw [bt_app_l hj]; exact dig_no59 hx hj
theorem go_dig {x : Nat} (hx : x < 100) (t : List UInt8) : goM (digB x ++ 59 :: t) = (2, (x : Int) - 1, numR t - 1, 0) := by
  have e : (digB x ++ 59 :: t).drop ((digB x).length + 1) = t := by
    rw [← List.drop_drop, List.drop_left]; rfl
  rw [goM, semi_dig hx, if_pos (by simp), List.take_left, numR_dig hx, e]
theorem maybe_is {c : Cmd} {l : List UInt8} (h : Shape c l) : maybeM l = c := by
  cases h with
  | text n hs =>
    obtain ⟨x, l', e, hx⟩ := enc_head hs
    have hg := isG_shown hs
    have hn := next_enc hg []
    rw [List.append_nil] at hn
    have hne : ∀ b : UInt8, b.toNat < 32 → encC n ≠ [b] := fun b hb h => by
      rw [e] at h
      have := (List.cons.inj h).1
      rw [this] at hx; omega
    have hne2 : bt (encC n) 0 ≠ 27 := by rw [e, bt_cons0]; omega
    rw [maybeM, if_neg (hne _ (by decide)), if_neg (hne _ (by decide)), if_neg (hne _ (by decide)), if_neg (hne _ (by decide)), if_pos (.inr hne2), hn]
  | go a b ha hb =>
    have e : (27 :: 91 :: (digB (a + 1) ++ 59 :: (digB (b + 1) ++ [72])) : List UInt8) = 27 :: 91 :: ((digB (a + 1) ++ 59 :: digB (b + 1)) ++ [72]) := by simp
    rw [e, maybe_esc, escM, if_neg (by decide), if_neg (by decide), if_pos (by decide), go_dig (by omega), numR_dig (by omega)]
    congr 2 <;> first | omega | (congr 1; omega)
  | one k hk =>
    have e : (UInt8.ofNat (62 + k)).toNat = 62 + k := ofNat_bt (by omega)
    have := maybe_esc [] (UInt8.ofNat (62 + k))
    rw [List.nil_append] at this
    rw [this, escM, if_neg (by rw [e]; omega), if_neg (by rw [e]; omega), if_neg (by rw [e]; omega), e, if_pos rfl]
    congr 1; omega
  | move k a hk ha =>
    have e : (UInt8.ofNat (62 + k)).toNat = 62 + k := ofNat_bt (by omega)
    have hd := digB_len a
    rw [maybe_esc, escM, if_neg (by rw [e]; omega), if_neg (by rw [e]; omega), if_neg (by rw [e]; omega), e, if_neg (by intro h; rw [h] at hd; simp at hd), numR_dig (by omega)]
    congr 1; omega
  | form k hk =>
    have : k = 7 ∨ k = 8 ∨ k = 9 ∨ k = 10 ∨ k = 11 ∨ k = 12 := by omega
    rcases this with rfl | rfl | rfl | rfl | rfl | rfl <;> rfl
theorem whole_full {c : Cmd} {l : List UInt8} (h : Shape c l) : wholeR l = (c, true) := by
  obtain ⟨h1, h2⟩ := shape_is h
  rw [wholeR, maybe_is h, h1, h2]; simp
/-- what may stand behind a beginning -/
def sfx : List (List UInt8) := [[91, 65], [65], [59, 49, 72], [49, 72], [72]]
theorem dig_pre {x k : Nat} (hx : 1 ≤ x ∧ x < 100) (h1 : 1 ≤ k) (h2 : k ≤ (digB x).length) : ∃ y, 1 ≤ y ∧ y ≤ x ∧ (digB x).take k = digB y := by
  by_cases hk : k = (digB x).length
  · exact ⟨x, hx.1, Nat.le_refl _, by rw [hk, List.take_length]⟩
  · by_cases h10 : x < 10
    · exfalso; rw [digB, if_pos h10] at h2 hk; simp only [List.length_singleton] at h2 hk; omega
    · refine ⟨x / 10, by omega, by omega, ?_⟩
      rw [digB, if_neg h10] at h2 hk ⊢
      simp only [List.length_cons, List.length_nil] at h2 hk
      obtain rfl : k = 1 := by omega
      rw [digB, if_pos (by omega)]; rfl
theorem pre_esc {m : List UInt8} {x : UInt8} {s : List UInt8} (h0 : s ≠ []) (hl : s.length < (27 :: 91 :: (m ++ [x]) : List UInt8).length) (hs : s = (27 :: 91 :: (m ++ [x]) : List UInt8).take s.length) :
    s = [27] ∨ s = [27, 91] ∨ ∃ k, 1 ≤ k ∧ k ≤ m.length ∧ s = 27 :: 91 :: m.take k := by
  match hn : s.length with
  | 0 => exact absurd (List.length_eq_zero_iff.1 hn) h0
  | 1 => left; rw [hn] at hs; rw [hs]; rfl
  | 2 => right; left; rw [hn] at hs; rw [hs]; rfl
  | k + 3 =>
    right; right
    rw [hn] at hs hl
    simp only [List.length_cons, List.length_append, List.length_singleton, List.length_nil] at hl
    refine ⟨k + 1, by omega, by omega, ?_⟩
    rw [hs]
    show 27 :: 91 :: (m ++ [x]).take (k + 1) = _
    rw [List.take_append_of_le_length (by omega)]
/-- some ending makes it whole -/
def Ends (s : List UInt8) : Prop := ∃ j, j < 5 ∧ (wholeR (s ++ sfx[j]!)).2 = true
theorem ends_1 : Ends [27] := ⟨0, by decide, by rw [show (([27] : List UInt8) ++ sfx[0]!) = [27, 91, UInt8.ofNat (62 + 3)] from rfl, whole_full (.one 3 (by decide))]⟩
theorem ends_2 : Ends [27, 91] := ⟨1, by decide, by rw [show (([27, 91] : List UInt8) ++ sfx[1]!) = [27, 91, UInt8.ofNat (62 + 3)] from rfl, whole_full (.one 3 (by decide))]⟩
theorem ends_go {y : Nat} (h1 : 1 ≤ y) (h2 : y ≤ 24) : Ends (27 :: 91 :: digB y) := ⟨2, by decide, by
  have := whole_full (.go (y - 1) 0 (by omega) (by omega))
  rw [show y - 1 + 1 = y by omega] at this
  rw [show (27 :: 91 :: digB y) ++ sfx[2]! = (27 :: 91 :: (digB y ++ 59 :: (digB (0 + 1) ++ [72])) : List UInt8) from rfl, this]⟩
theorem ends_go2 {y : Nat} (h1 : 1 ≤ y) (h2 : y ≤ 24) : Ends (27 :: 91 :: (digB y ++ [59])) := ⟨3, by decide, by
  have := whole_full (.go (y - 1) 0 (by omega) (by omega))
  rw [show y - 1 + 1 = y by omega] at this
  rw [show (27 :: 91 :: (digB y ++ [59])) ++ sfx[3]! = (27 :: 91 :: (digB y ++ 59 :: (digB (0 + 1) ++ [72])) : List UInt8) by
    rw [List.cons_append, List.cons_append, List.append_assoc]; rfl, this]⟩
theorem ends_go3 {y z : Nat} (h1 : 1 ≤ y) (h2 : y ≤ 24) (h3 : 1 ≤ z) (h4 : z ≤ 80) : Ends (27 :: 91 :: (digB y ++ 59 :: digB z)) := ⟨4, by decide, by
  have := whole_full (.go (y - 1) (z - 1) (by omega) (by omega))
  rw [show y - 1 + 1 = y by omega, show z - 1 + 1 = z by omega] at this
  rw [show (27 :: 91 :: (digB y ++ 59 :: digB z)) ++ sfx[4]! = (27 :: 91 :: (digB y ++ 59 :: (digB z ++ [72])) : List UInt8) by
    rw [List.cons_append, List.cons_append, List.append_assoc]; rfl, this]⟩
theorem ends_mv {y : Nat} (h1 : 1 ≤ y) (h2 : y ≤ 80) : Ends (27 :: 91 :: digB y) := by
  by_cases h : y = 1
  · exact ends_go h1 (by omega)
  · refine ⟨1, by decide, ?_⟩
    rw [show (27 :: 91 :: digB y) ++ sfx[1]! = (27 :: 91 :: (digB y ++ [UInt8.ofNat (62 + 3)]) : List UInt8) from rfl, whole_full (.move 3 y (by decide) (by omega))]
theorem ends_of {c : Cmd} {l s : List UInt8} (h : Shape c l) (hc : c.1 ≠ 1) (h0 : s ≠ []) (hl : s.length < l.length) (hs : s = l.take s.length) : Ends s ∧ bt s 0 = 27 := by
  have fin : ∀ (m : List UInt8) (x : UInt8), l = 27 :: 91 :: (m ++ [x]) → (∀ k, 1 ≤ k → k ≤ m.length → Ends (27 :: 91 :: m.take k)) → Ends s ∧ bt s 0 = 27 := fun m x e hk => by
    subst e
    rcases pre_esc h0 hl hs with rfl | rfl | ⟨k, k1, k2, rfl⟩
    · exact ⟨ends_1, rfl⟩
    · exact ⟨ends_2, rfl⟩
    · exact ⟨hk k k1 k2, rfl⟩
  cases h with
  | text n hs => exact absurd rfl hc
  | go a b ha hb =>
    refine fin (digB (a + 1) ++ 59 :: digB (b + 1)) 72 (by simp) fun k k1 k2 => ?_
    rcases Nat.lt_or_ge (digB (a + 1)).length k with h | h
    · obtain ⟨j, rfl⟩ : ∃ j, k = (digB (a + 1)).length + (j + 1) := ⟨k - (digB (a + 1)).length - 1, by omega⟩
      rw [List.take_length_add_append, List.take_succ_cons]
      by_cases hj : j = 0
      · subst hj; exact ends_go2 (by omega) (by omega)
      · simp only [List.length_append, List.length_cons] at k2
        obtain ⟨y, y1, y2, y3⟩ := dig_pre (x := b + 1) (k := j) (by omega) (by omega) (by omega)
        rw [y3]; exact ends_go3 (by omega) (by omega) y1 (by omega)
    · obtain ⟨y, y1, y2, y3⟩ := dig_pre (x := a + 1) (k := k) (by omega) k1 h
      rw [List.take_append_of_le_length h, y3]
      exact ends_go y1 (by omega)
  | one k hk => exact fin [] (UInt8.ofNat (62 + k)) rfl fun j j1 j2 => by simp only [List.length_nil] at j2; omega
  | move k a hk ha =>
    refine fin (digB a) (UInt8.ofNat (62 + k)) rfl fun j j1 j2 => ?_
    obtain ⟨y, y1, y2, y3⟩ := dig_pre (x := a) (k := j) (by omega) j1 j2
    rw [y3]; exact ends_mv y1 (by omega)
  | form k hk =>
    have h1 : 1 ≤ s.length := by cases s with | nil => exact absurd rfl h0 | cons => simp
    have : k = 7 ∨ k = 8 ∨ k = 9 ∨ k = 10 ∨ k = 11 ∨ k = 12 := by omega
    rcases this with rfl | rfl | rfl | rfl | rfl | rfl
    · exact fin [] 75 rfl fun j j1 j2 => by simp only [List.length_nil] at j2; omega
    · exact fin [] 74 rfl fun j j1 j2 => by simp only [List.length_nil] at j2; omega
    all_goals (exfalso; have : s.length < 1 := hl; omega)
theorem more_ends {s : List UInt8} (h : MoreC s) (hf : fullG s = true) : Ends s ∧ bt s 0 = 27 := by
  rcases h with h | ⟨h0, c, l, h1, h2, h3, h4⟩
  · rw [not_full_of_more h] at hf; cases hf
  · exact ends_of h1 h2 h0 h3 h4
theorem ends_more {s : List UInt8} (h0 : s ≠ []) {x : List UInt8} (hx : 1 ≤ x.length) (h : (wholeR (s ++ x)).2 = true) (h27 : bt s 0 = 27) : MoreC s := by
  have hs := whole_shape h
  refine .inr ⟨h0, _, _, hs, ?_, by rw [List.length_append]; omega, by rw [List.take_left]⟩
  intro h1
  generalize maybeM (s ++ x) = c at hs h1
  generalize he : s ++ x = l at hs
  cases hs with
  | text n hs =>
    obtain ⟨y, l', e, hy⟩ := enc_head hs
    have hp : 0 < s.length := by cases s with | nil => exact absurd rfl h0 | cons => simp
    have := bt_app_l (t := x) hp
    rw [he, e, bt_cons0] at this; omega
  | go a b => exact absurd h1 (by simp only; omega)
  | one k hk => exact absurd h1 (by simp only; omega)
  | move k a hk => exact absurd h1 (by simp only; omega)
  | form k hk => exact absurd h1 (by simp only; omega)
theorem more_iff {s : List UInt8} (h0 : s ≠ []) : (cmdM s).1 = 3 ↔ MoreC s := by
  constructor
  · intro h
    rcases cmd_sound s h0 with ⟨c, l, t, _, _, h3⟩ | ⟨_, h1⟩ | h1
    · rw [h3] at h; cases h
    · exact h1
    · rw [h1] at h; cases h
  · intro h; rw [cmd_more h]; rfl
end Go.Proofs.YtplabpjkkcillaaDoor
