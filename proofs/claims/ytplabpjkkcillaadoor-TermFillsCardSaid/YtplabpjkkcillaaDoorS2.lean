/- Layer 6 (scan), plainly: the next command is just what the document says. No condition. -/
import Derived.Test.YtplabpjkkcillaaDoorS1
namespace Go.Proofs.YtplabpjkkcillaaDoor
set_option linter.unusedSimpArgs false
set_option linter.unusedVariables false
set_option linter.unusedSectionVars false
set_option maxHeartbeats 4000000
open Go Go.RowKit
set_option maxRecDepth 100000
theorem home_hi {b : Nat} (h : 32 ≤ b) : homeK b = 0 := by
  unfold homeK; rw [if_neg (by omega), if_neg (by omega), if_neg (by omega), if_neg (by omega)]
theorem home_cases (b : Nat) : homeK b = 0 ∨ (b = 13 ∧ homeK b = 9) ∨ (b = 10 ∧ homeK b = 10) ∨ (b = 8 ∧ homeK b = 11) ∨ (b = 7 ∧ homeK b = 12) := by
  unfold homeK
  repeat' split
  all_goals simp_all
theorem cmdM_cons (b : UInt8) (l : List UInt8) : cmdM (b :: l) = if homeK b.toNat ≠ 0 then (0, (homeK b.toNat, 0, 0, 0), l)
    else if b.toNat = 27 then (match l with
      | [] => nok 3
      | x :: l2 => if x.toNat = 91 then ctlM l2 else nok 2)
    else if fullG (b :: l) = false then nok 3
    else if decG (b :: l) = (65533, 1) ∨ shown ((decG (b :: l)).1 : Nat) = false then nok 2
    else (0, (1, 0, 0, ((decG (b :: l)).1 : Nat)), (b :: l).drop (decG (b :: l)).2) := rfl
theorem cmd_27 (l : List UInt8) : cmdM (27 :: l) = match l with | [] => nok 3 | x :: l2 => if x.toNat = 91 then ctlM l2 else nok 2 := rfl
theorem home27 : homeK 27 = 0 := rfl
theorem cmd_esc (l : List UInt8) : cmdM (27 :: 91 :: l) = ctlM l := by
  rw [cmd_27]
  exact if_pos (by decide)
theorem ctl_dig {m : Nat} (h1 : 1 ≤ m) (h2 : m ≤ 80) {b : UInt8} {t : List UInt8} (hb : ¬ dig b) : ctlM (digB m ++ b :: t) = if m = 1 ∧ b.toNat ≠ 59 then nok 2 else endM true m (b :: t) := by
  have hn := num_full (most := 80) (by decide) h1 h2 (t := t) hb
  obtain ⟨y, ys, e, y1, y2⟩ := dig_head (n := m) (by omega)
  rw [e] at hn ⊢
  rw [List.cons_append] at hn ⊢
  rw [ctlM, if_pos ⟨y1, y2⟩, hn]; rfl
theorem end_go {m n : Nat} (h1 : m ≤ 24) (h2 : 1 ≤ n) (h3 : n ≤ 80) {b : UInt8} {t : List UInt8} (hb : ¬ dig b) : endM true m (59 :: (digB n ++ b :: t)) = if b.toNat = 72 then (0, (2, (m : Int) - 1, (n : Int) - 1, 0), t) else nok 2 := by
  rw [endM, if_neg (by decide), if_neg (by simp; omega), num_full (by decide) h2 h3 hb]; rfl
theorem d59 : ¬ dig 59 := by decide
theorem d72 : ¬ dig 72 := by decide
theorem mv_dig {k : Nat} (hk : 3 ≤ k ∧ k ≤ 6) : ¬ dig (UInt8.ofNat (62 + k)) := by have := mv_rng hk; unfold dig; omega
theorem end_mv {is : Bool} {n k : Nat} (hk : 3 ≤ k ∧ k ≤ 6) (t : List UInt8) : endM is n (UInt8.ofNat (62 + k) :: t) = (0, ((k : Int), (n : Int), 0, 0), t) := by
  have := mv_rng hk
  have e : (UInt8.ofNat (62 + k)).toNat = 62 + k := by simp; omega
  rw [endM, if_pos this, e, Nat.add_sub_cancel_left]
/-- a command that stands in front is found -/
theorem cmd_full {c : Cmd} {l : List UInt8} (h : Shape c l) (t : List UInt8) : cmdM (l ++ t) = (0, c, t) := by
  cases h with
  | text n hs =>
    obtain ⟨x, l', e, hx⟩ := enc_head hs
    have hg := isG_shown hs
    have h1 := full_enc hg t
    have h2 := dec_enc hg t
    rw [e] at h1 h2 ⊢
    rw [List.cons_append] at h1 h2 ⊢
    have hn : (decG (x :: (l' ++ t))).1 = n := by have := h2.1; omega
    rw [cmdM_cons, if_neg (by rw [home_hi hx]; decide), if_neg (by omega), if_neg (by rw [h1]; decide), if_neg, hn, h2.2]
    · rw [← List.cons_append]
      simp
    · rintro (h3 | h3)
      · rw [h3] at hn h2
        simp only at hn h2
        subst hn
        rw [← e] at h2
        have : (encC ((65533 : Nat) : Int)).length = 3 := by decide
        omega
      · rw [hn, hs] at h3; cases h3
  | go a b ha hb =>
    rw [List.cons_append, List.cons_append, cmd_esc, List.append_assoc, List.cons_append, List.append_assoc, ctl_dig (by omega) (by omega) d59, if_neg (by simp)]
    rw [List.cons_append, List.nil_append, end_go (by omega) (by omega) (by omega) d72, if_pos (by decide)]
    simp only [Prod.mk.injEq, true_and, and_true]; omega
  | one k hk =>
    have := mv_rng hk
    have hd := mv_dig hk
    rw [List.cons_append, List.cons_append, List.cons_append, List.nil_append, cmd_esc, ctlM, if_neg hd, if_neg (by omega), if_neg (by omega), end_mv hk]; rfl
  | move k a hk ha =>
    rw [List.cons_append, List.cons_append, cmd_esc, List.append_assoc, List.cons_append, List.nil_append, ctl_dig (by omega) (by omega) (mv_dig hk), if_neg (by omega), end_mv hk]
  | form k hk =>
    have hk' : k = 7 ∨ k = 8 ∨ k = 9 ∨ k = 10 ∨ k = 11 ∨ k = 12 := by omega
    rcases hk' with rfl | rfl | rfl | rfl | rfl | rfl
    · show cmdM (27 :: 91 :: (75 :: t)) = _
      rw [cmd_esc, ctlM, if_neg (by decide), if_pos (by decide)]; rfl
    · show cmdM (27 :: 91 :: (74 :: t)) = _
      rw [cmd_esc, ctlM, if_neg (by decide), if_neg (by decide), if_pos (by decide)]; rfl
    all_goals (simp only [formB]; rfl)
/-- a beginning is found to be one -/
theorem cmd_more {s : List UInt8} (h : MoreC s) : cmdM s = nok 3 := by
  rcases h with h | ⟨h0, c, l, hs, hc, hl, he⟩
  · have hf := not_full_of_more h
    obtain ⟨h0, _⟩ := h
    cases s with
    | nil => exact absurd rfl h0
    | cons x s =>
      have hx := fullN_false hf (by simp)
      rw [bt_cons0] at hx
      rw [cmdM_cons, if_neg (by rw [home_hi (by omega)]; decide), if_neg (by omega), if_pos hf]
  · have hp : 0 < s.length := List.length_pos_iff.2 h0
    obtain ⟨n, hn⟩ : ∃ n, n = s.length := ⟨_, rfl⟩
    rw [← hn] at he hl hp
    have t1 : ∀ r : List UInt8, cmdM ((27 :: 91 :: r).take 1) = nok 3 := fun r => rfl
    have t2 : ∀ r : List UInt8, cmdM ((27 :: 91 :: r).take 2) = nok 3 := fun r => by
      show cmdM (27 :: 91 :: []) = nok 3
      rw [cmd_esc, ctlM]
    have t3 : ∀ (m k : Nat) (r : List UInt8), 1 ≤ m → m ≤ 80 → 1 ≤ k → k ≤ (digB m).length → cmdM (27 :: 91 :: (digB m ++ r).take k) = nok 3 := fun m k r h1 h2 h3 h4 => by
      rw [cmd_esc, List.take_append_of_le_length h4]
      have hnum := num_part (most := 80) (k := k) (by decide) h1 h2
      obtain ⟨y, ys, e, y1, y2⟩ := dig_head (n := m) (by omega)
      rw [e] at hnum ⊢
      obtain ⟨k, rfl⟩ : ∃ j, k = j + 1 := ⟨k - 1, by omega⟩
      rw [List.take_succ_cons] at hnum ⊢
      rw [ctlM, if_pos ⟨y1, y2⟩, hnum]; rfl
    rw [he]
    cases hs with
    | text _ _ => exact absurd rfl hc
    | go a b ha hb =>
      match n, hp with
      | 1, _ => exact t1 _
      | 2, _ => exact t2 _
      | n + 3, _ =>
        rw [List.take_succ_cons, List.take_succ_cons]
        by_cases hk : n + 1 ≤ (digB (a + 1)).length
        · exact t3 (a + 1) (n + 1) _ (by omega) (by omega) (by omega) hk
        · have hk2 : n + 1 = (digB (a + 1)).length + (1 + (n - (digB (a + 1)).length)) := by omega
          rw [hk2, List.take_length_add_append, Nat.add_comm 1, List.take_succ_cons]
          simp only [List.length_cons, List.length_append, List.length_nil] at hl
          rw [List.take_append_of_le_length (by omega), cmd_esc, ctl_dig (by omega) (by omega) d59, if_neg (by simp), endM, if_neg (by decide), if_neg (by simp; omega), num_part (by decide) (by omega) (by omega)]; rfl
    | one k hk =>
      simp at hl
      match n, hp with
      | 1, _ => exact t1 _
      | 2, _ => exact t2 _
      | n + 3, _ => omega
    | move k a hk ha =>
      match n, hp with
      | 1, _ => exact t1 _
      | 2, _ => exact t2 _
      | n + 3, _ =>
        rw [List.take_succ_cons, List.take_succ_cons]
        simp only [List.length_cons, List.length_append, List.length_nil] at hl
        exact t3 a (n + 1) _ (by omega) (by omega) (by omega) (by omega)
    | form k hk =>
      have hk' : k = 7 ∨ k = 8 ∨ k = 9 ∨ k = 10 ∨ k = 11 ∨ k = 12 := by omega
      rcases hk' with rfl | rfl | rfl | rfl | rfl | rfl <;> simp [formB] at hl
      · match n, hp with
        | 1, _ => exact t1 _
        | 2, _ => exact t2 _
        | n + 3, _ => omega
      · match n, hp with
        | 1, _ => exact t1 _
        | 2, _ => exact t2 _
        | n + 3, _ => omega
      all_goals omega
theorem more_of {c : Cmd} {l s r : List UInt8} (h : Shape c l) (hc : c.1 ≠ 1) (e : l = s ++ r) (h0 : s ≠ []) (hr : r ≠ []) : MoreC s :=
  .inr ⟨h0, c, l, h, hc, by rw [e, List.length_append]; have := List.length_pos_iff.2 hr; omega, by rw [e]; simp⟩
theorem byte_eq {a b : UInt8} (h : a.toNat = b.toNat) : a = b := UInt8.toNat_inj.1 h
theorem ctl_sound (s : List UInt8) : (∃ c l t, Shape c (27 :: 91 :: l) ∧ s = l ++ t ∧ ctlM s = (0, c, t)) ∨ (ctlM s = nok 3 ∧ MoreC (27 :: 91 :: s)) ∨ ctlM s = nok 2 := by
  cases s with
  | nil => exact .inr (.inl ⟨rfl, more_of (.form 7 (by decide)) (by decide) (r := [75]) rfl (by simp) (by simp)⟩)
  | cons b l =>
    by_cases hb : dig b
    · rcases num_zero (most := 80) (by decide) (b :: l) with ⟨k, m, m1, m2, e, hk, hn⟩ | ⟨m, b2, t, m1, m2, e, hb2, hn⟩ | hn | h0
      · refine .inr (.inl ⟨by rw [ctlM, if_pos hb, hn]; rfl, ?_⟩)
        rw [e]
        by_cases h1 : m = 1
        · subst h1
          refine more_of (.go 0 0 (by decide) (by decide)) (by decide) (r := (digB 1).drop k ++ 59 :: (digB 1 ++ [72])) ?_ (by simp) (by simp)
          rw [List.cons_append, List.cons_append, ← List.append_assoc, List.take_append_drop]
        · refine more_of (.move 3 m (by decide) (by omega)) (by show (3 : Int) ≠ 1; decide) (r := (digB m).drop k ++ [65]) ?_ (by simp) (by simp)
          rw [List.cons_append, List.cons_append, ← List.append_assoc, List.take_append_drop]; rfl
      · rw [e, ctl_dig m1 m2 hb2]
        by_cases h1 : m = 1 ∧ b2.toNat ≠ 59
        · rw [if_pos h1]; exact .inr (.inr rfl)
        · rw [if_neg h1]
          by_cases hm : 65 ≤ b2.toNat ∧ b2.toNat ≤ 68
          · have hb3 : b2 = UInt8.ofNat (62 + (b2.toNat - 62)) := by rw [← UInt8.toNat_inj]; simp; omega
            refine .inl ⟨(((b2.toNat - 62 : Nat) : Int), (m : Int), 0, 0), digB m ++ [b2], t, ?_, by simp, by rw [endM, if_pos hm]⟩
            have := Shape.move (b2.toNat - 62) m (by omega) (by omega)
            rw [← hb3] at this; exact this
          · by_cases hf : b2.toNat ≠ 59 ∨ 24 < m ∨ true = false
            · rw [endM, if_neg hm, if_pos hf]; exact .inr (.inr rfl)
            · have h59 : b2 = 59 := byte_eq (by show b2.toNat = 59; omega)
              subst h59
              have hm24 : m ≤ 24 := by omega
              rcases num_zero (most := 80) (by decide) t with ⟨k, n, n1, n2, e2, hk, hn2⟩ | ⟨n, b3, t2, n1, n2, e2, hb3, hn2⟩ | hn2 | h0
              · refine .inr (.inl ⟨by rw [endM, if_neg hm, if_neg hf, hn2]; rfl, ?_⟩)
                rw [e2]
                refine more_of (.go (m - 1) (n - 1) (by omega) (by omega)) (by show (2 : Int) ≠ 1; decide) (r := (digB n).drop k ++ [72]) ?_ (by simp) (by simp)
                rw [show m - 1 + 1 = m by omega, show n - 1 + 1 = n by omega, List.cons_append, List.cons_append, List.append_assoc, List.cons_append, ← List.append_assoc ((digB n).take k), List.take_append_drop]
              · rw [e2, end_go hm24 n1 n2 hb3]
                by_cases h72 : b3.toNat = 72
                · rw [if_pos h72]
                  have h72' : b3 = 72 := byte_eq (by show b3.toNat = 72; omega)
                  subst h72'
                  refine .inl ⟨_, digB m ++ 59 :: (digB n ++ [72]), t2, ?_, by simp, rfl⟩
                  have := Shape.go (m - 1) (n - 1) (by omega) (by omega)
                  rw [show m - 1 + 1 = m by omega, show n - 1 + 1 = n by omega, show ((m - 1 : Nat) : Int) = (m : Int) - 1 by omega, show ((n - 1 : Nat) : Int) = (n : Int) - 1 by omega] at this
                  exact this
                · rw [if_neg h72]; exact .inr (.inr rfl)
              · exact .inr (.inr (by rw [endM, if_neg hm, if_neg hf, hn2]; rfl))
              · exact absurd h0 (by decide)
      · exact .inr (.inr (by rw [ctlM, if_pos hb, hn]; rfl))
      · exact absurd h0 (by decide)
    · rw [ctlM, if_neg hb]
      by_cases h75 : b.toNat = 75
      · have : b = 75 := byte_eq (by show b.toNat = 75; omega)
        subst this
        rw [if_pos h75]
        exact .inl ⟨_, [75], l, .form 7 (by decide), rfl, rfl⟩
      · rw [if_neg h75]
        by_cases h74 : b.toNat = 74
        · have : b = 74 := byte_eq (by show b.toNat = 74; omega)
          subst this
          rw [if_pos h74]
          exact .inl ⟨_, [74], l, .form 8 (by decide), rfl, rfl⟩
        · rw [if_neg h74]
          by_cases hm : 65 ≤ b.toNat ∧ b.toNat ≤ 68
          · have hb3 : b = UInt8.ofNat (62 + (b.toNat - 62)) := by rw [← UInt8.toNat_inj]; simp; omega
            refine .inl ⟨(((b.toNat - 62 : Nat) : Int), ((1 : Nat) : Int), 0, 0), [b], l, ?_, rfl, by rw [endM, if_pos hm]⟩
            have := Shape.one (b.toNat - 62) (by omega)
            rw [← hb3] at this; exact this
          · rw [endM, if_neg hm, if_pos (.inr (.inr rfl))]; exact .inr (.inr rfl)
/-- what is found is right -/
theorem cmd_sound (s : List UInt8) (h : s ≠ []) : (∃ c l t, Shape c l ∧ s = l ++ t ∧ cmdM s = (0, c, t)) ∨ (cmdM s = nok 3 ∧ MoreC s) ∨ cmdM s = nok 2 := by
  cases s with
  | nil => exact absurd rfl h
  | cons b l =>
    rcases home_cases b.toNat with h0 | ⟨hb, hk⟩ | ⟨hb, hk⟩ | ⟨hb, hk⟩ | ⟨hb, hk⟩
    · by_cases h27 : b.toNat = 27
      · have : b = 27 := byte_eq (by show b.toNat = 27; omega)
        subst this
        cases l with
        | nil => exact .inr (.inl ⟨rfl, more_of (.form 7 (by decide)) (by decide) (r := [91, 75]) rfl (by simp) (by simp)⟩)
        | cons x l =>
          by_cases h91 : x.toNat = 91
          · have : x = 91 := byte_eq (by show x.toNat = 91; omega)
            subst this
            rw [cmd_esc]
            rcases ctl_sound l with ⟨c, m, t, h1, h2, h3⟩ | ⟨h1, h2⟩ | h1
            · exact .inl ⟨c, 27 :: 91 :: m, t, h1, by rw [h2]; rfl, h3⟩
            · exact .inr (.inl ⟨h1, h2⟩)
            · exact .inr (.inr h1)
          · refine .inr (.inr ?_)
            rw [cmd_27]
            show (if x.toNat = 91 then ctlM l else nok 2) = nok 2
            rw [if_neg h91]
      · rw [cmdM_cons, if_neg (by rw [h0]; decide), if_neg h27]
        by_cases hf : fullG (b :: l) = false
        · rw [if_pos hf]; exact .inr (.inl ⟨rfl, .inl (more_of_not_full (by simp) hf)⟩)
        · rw [if_neg hf]
          by_cases hd : decG (b :: l) = (65533, 1) ∨ shown ((decG (b :: l)).1 : Nat) = false
          · rw [if_pos hd]; exact .inr (.inr rfl)
          · rw [if_neg hd]
            rcases dec_sound (s := b :: l) (by simp) with h1 | ⟨h1, h2, h3⟩
            · exact absurd (.inl h1) hd
            · refine .inl ⟨_, encC ((decG (b :: l)).1 : Nat), _, .text _ ?_, by rw [← h3, List.take_append_drop], rfl⟩
              cases hs : shown ((decG (b :: l)).1 : Nat) with
              | true => rfl
              | false => exact absurd (.inr hs) hd
    · have : b = 13 := byte_eq (by show b.toNat = 13; omega)
      subst this
      exact .inl ⟨(9, 0, 0, 0), [13], l, .form 9 (by decide), rfl, rfl⟩
    · have : b = 10 := byte_eq (by show b.toNat = 10; omega)
      subst this
      exact .inl ⟨(10, 0, 0, 0), [10], l, .form 10 (by decide), rfl, rfl⟩
    · have : b = 8 := byte_eq (by show b.toNat = 8; omega)
      subst this
      exact .inl ⟨(11, 0, 0, 0), [8], l, .form 11 (by decide), rfl, rfl⟩
    · have : b = 7 := byte_eq (by show b.toNat = 7; omega)
      subst this
      exact .inl ⟨(12, 0, 0, 0), [7], l, .form 12 (by decide), rfl, rfl⟩
end Go.Proofs.YtplabpjkkcillaaDoor
