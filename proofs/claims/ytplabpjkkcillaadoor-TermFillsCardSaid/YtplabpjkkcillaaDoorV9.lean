/- Layer 5 (vt), a plain law: no command's bytes are a beginning of another one's. No condition. -/
import Derived.Test.YtplabpjkkcillaaDoorV4
namespace Go.Proofs.YtplabpjkkcillaaDoor
set_option linter.unusedSimpArgs false
set_option linter.unusedVariables false
set_option linter.unusedSectionVars false
set_option maxHeartbeats 4000000
open Go Go.RowKit
set_option maxRecDepth 100000
theorem dig_inj {n m : Nat} (hn : n < 100) (hm : m < 100) (h : digB n = digB m) : n = m := by
  have key : ∀ a : Fin 100, ∀ b : Fin 100, digB a.1 = digB b.1 → a = b := by decide +kernel
  exact congrArg Fin.val (key ⟨n, hn⟩ ⟨m, hm⟩ h)
/-- digits end where no digit stands -/
theorem dig_sep {n m : Nat} {x y : UInt8} {s t : List UInt8} (hn : n < 100) (hm : m < 100) (hx : x = 59 ∨ x = 72 ∨ (65 ≤ x.toNat ∧ x.toNat ≤ 68)) (hy : y = 59 ∨ y = 72 ∨ (65 ≤ y.toNat ∧ y.toNat ≤ 68)) (h : digB n ++ x :: s = digB m ++ y :: t) : n = m ∧ x = y ∧ s = t := by
  have dv : ∀ k, k < 10 → (UInt8.ofNat (48 + k)).toNat = 48 + k := fun k hk => by simp; omega
  have nx : ∀ z : UInt8, (z = 59 ∨ z = 72 ∨ (65 ≤ z.toNat ∧ z.toNat ≤ 68)) → ∀ k, k < 10 → z ≠ UInt8.ofNat (48 + k) := fun z hz k hk e => by
    have e1 := congrArg UInt8.toNat e
    rw [dv k hk] at e1
    rcases hz with rfl | rfl | hz
    · have : (59 : UInt8).toNat = 59 := rfl
      omega
    · have : (72 : UInt8).toNat = 72 := rfl
      omega
    · omega
  unfold digB at h
  split at h <;> split at h <;> simp only [List.cons_append, List.nil_append, List.cons.injEq] at h
  · obtain ⟨h1, h2, h3⟩ := h
    have e1 := congrArg UInt8.toNat h1
    rw [dv n (by omega), dv m (by omega)] at e1
    exact ⟨by omega, h2, h3⟩
  · exact absurd h.2.1 (nx x hx _ (Nat.mod_lt _ (by decide)))
  · exact absurd h.2.1.symm (nx y hy _ (Nat.mod_lt _ (by decide)))
  · obtain ⟨h1, h2, h3, h4⟩ := h
    have e1 := congrArg UInt8.toNat h1
    have e2 := congrArg UInt8.toNat h2
    rw [dv _ (by omega), dv _ (by omega)] at e1
    rw [dv _ (Nat.mod_lt _ (by decide)), dv _ (Nat.mod_lt _ (by decide))] at e2
    exact ⟨by omega, h3, h4⟩
theorem enc_sep {n m : Nat} {s t : List UInt8} (hr : isG n = true) (hq : isG m = true) (h : encC n ++ s = encC m ++ t) : n = m ∧ s = t := by
  have h1 : n ≤ 1114111 := by simp [isG] at hr; omega
  have h2 : m ≤ 1114111 := by simp [isG] at hq; omega
  simp only [encC, Int.toNat_natCast] at h
  (repeat' split at h) <;> simp only [List.cons_append, List.nil_append, List.cons.injEq, ← UInt8.toNat_inj, UInt8.toNat_ofNat'] at h
  all_goals first
    | (exfalso; omega)
    | (obtain ⟨a, b⟩ := h; exact ⟨by omega, b⟩)
    | (obtain ⟨a, b, c⟩ := h; exact ⟨by omega, c⟩)
    | (obtain ⟨a, b, c, d⟩ := h; exact ⟨by omega, d⟩)
    | (obtain ⟨a, b, c, d, e⟩ := h; exact ⟨by omega, e⟩)
/-- the bytes of a right command, by its kind -/
inductive Shape : Cmd → List UInt8 → Prop
  | text (n : Nat) (hs : shown n = true) : Shape (1, 0, 0, n) (encC n)
  | go (a b : Nat) (ha : a ≤ 23) (hb : b ≤ 79) : Shape (2, a, b, 0) (27 :: 91 :: (digB (a + 1) ++ 59 :: (digB (b + 1) ++ [72])))
  | one (k : Nat) (hk : 3 ≤ k ∧ k ≤ 6) : Shape (k, 1, 0, 0) [27, 91, UInt8.ofNat (62 + k)]
  | move (k a : Nat) (hk : 3 ≤ k ∧ k ≤ 6) (ha : 2 ≤ a ∧ a ≤ 80) : Shape (k, a, 0, 0) (27 :: 91 :: (digB a ++ [UInt8.ofNat (62 + k)]))
  | form (k : Nat) (hk : 7 ≤ k ∧ k ≤ 12) : Shape (k, 0, 0, 0) (formB k)
theorem shape_of {c : Cmd} (h : isCmd c = true) : Shape c (bytesB c) := by
  obtain ⟨k, a, b, r⟩ := c
  have h0 := h
  simp only [isCmd] at h
  by_cases h1 : k = 1
  · subst h1
    simp at h
    obtain ⟨⟨hs, rfl⟩, rfl⟩ := h
    have hg := isG_shown hs
    have hr : 0 ≤ r := by simp [isG] at hg; omega
    obtain ⟨n, rfl⟩ := Int.eq_ofNat_of_zero_le hr
    simp only [bytesB, if_true]
    rw [encB_eq hg]; exact .text n hs
  · rw [if_neg h1] at h
    by_cases h2 : k = 2
    · subst h2
      simp at h
      obtain ⟨rfl, ⟨⟨h3, h4⟩, h5⟩, h6⟩ := h
      obtain ⟨a, rfl⟩ := Int.eq_ofNat_of_zero_le h3
      obtain ⟨b, rfl⟩ := Int.eq_ofNat_of_zero_le h5
      have : bytesB (2, (a : Int), (b : Int), 0) = 27 :: 91 :: (digB (a + 1) ++ 59 :: (digB (b + 1) ++ [72])) := by
        simp [bytesB, show ((a : Int) + 1).toNat = a + 1 by omega, show ((b : Int) + 1).toNat = b + 1 by omega]
      rw [this]; exact .go a b (by omega) (by omega)
    · rw [if_neg h2] at h
      by_cases h3 : 3 ≤ k ∧ k ≤ 6
      · rw [if_pos h3] at h
        simp at h
        obtain ⟨rfl, rfl, h4, h5⟩ := h
        obtain ⟨k, rfl⟩ := Int.eq_ofNat_of_zero_le (show 0 ≤ k by omega)
        obtain ⟨a, rfl⟩ := Int.eq_ofNat_of_zero_le (show 0 ≤ a by omega)
        have e1 : (62 + (k : Int)).toNat = 62 + k := by omega
        by_cases h6 : a = 1
        · subst h6
          have : bytesB ((k : Int), 1, 0, 0) = [27, 91, UInt8.ofNat (62 + k)] := by
            simp only [bytesB]; rw [if_neg h1, if_neg h2, if_pos (by omega), if_pos trivial, e1]; rfl
          show Shape ((k : Int), 1, 0, 0) (bytesB ((k : Int), 1, 0, 0))
          rw [this]; exact .one k (by omega)
        · have : bytesB ((k : Int), (a : Int), 0, 0) = 27 :: 91 :: (digB a ++ [UInt8.ofNat (62 + k)]) := by
            simp only [bytesB]; rw [if_neg h1, if_neg h2, if_pos (by omega), if_neg (by omega), e1]; rfl
          rw [this]; exact .move k a (by omega) (by omega)
      · rw [if_neg h3] at h
        simp at h
        obtain ⟨rfl, rfl, ⟨h4, h5⟩, rfl⟩ := h
        obtain ⟨k, rfl⟩ := Int.eq_ofNat_of_zero_le (show 0 ≤ k by omega)
        have : bytesB ((k : Int), 0, 0, 0) = formB k := by
          simp only [bytesB]; rw [if_neg h1, if_neg h2, if_neg (by omega)]
        rw [this]; exact .form k (by omega)
theorem enc_head {n : Nat} (hs : shown n = true) : ∃ x l, encC n = x :: l ∧ 32 ≤ x.toNat := by
  have hg := isG_shown hs
  have h1 : n ≤ 1114111 := by simp [isG] at hg; omega
  have h2 : 32 ≤ n := by simp [shown] at hs; omega
  unfold encC
  (repeat' split) <;> exact ⟨_, _, rfl, by simp; omega⟩
theorem form_head {k : Nat} (hk : 7 ≤ k ∧ k ≤ 12) : ∃ x l, formB k = x :: l ∧ x.toNat < 32 ∧ (x = 27 → l = [91, 75] ∨ l = [91, 74]) := by
  have : k = 7 ∨ k = 8 ∨ k = 9 ∨ k = 10 ∨ k = 11 ∨ k = 12 := by omega
  rcases this with rfl | rfl | rfl | rfl | rfl | rfl <;> exact ⟨_, _, rfl, by decide, by decide⟩
theorem dig_head {n : Nat} (h : n < 100) : ∃ x l, digB n = x :: l ∧ 48 ≤ x.toNat ∧ x.toNat ≤ 57 := by
  unfold digB; split <;> exact ⟨_, _, rfl, by simp; omega, by simp; omega⟩
theorem mv_rng {k : Nat} (hk : 3 ≤ k ∧ k ≤ 6) : 65 ≤ (UInt8.ofNat (62 + k)).toNat ∧ (UInt8.ofNat (62 + k)).toNat ≤ 68 := by simp; omega
theorem mv_inj {k j : Nat} (hk : 3 ≤ k ∧ k ≤ 6) (hj : 3 ≤ j ∧ j ≤ 6) (h : UInt8.ofNat (62 + k) = UInt8.ofNat (62 + j)) : k = j := by
  have := congrArg UInt8.toNat h
  simp at this; omega
theorem form_sep {k j : Nat} {s t : List UInt8} (hk : 7 ≤ k ∧ k ≤ 12) (hj : 7 ≤ j ∧ j ≤ 12) (h : formB k ++ s = formB j ++ t) : k = j ∧ s = t := by
  have h1 : k = 7 ∨ k = 8 ∨ k = 9 ∨ k = 10 ∨ k = 11 ∨ k = 12 := by omega
  have h2 : j = 7 ∨ j = 8 ∨ j = 9 ∨ j = 10 ∨ j = 11 ∨ j = 12 := by omega
  rcases h1 with rfl | rfl | rfl | rfl | rfl | rfl <;> rcases h2 with rfl | rfl | rfl | rfl | rfl | rfl <;> simp [formB] at h <;> first | exact ⟨rfl, h⟩ | exact absurd h.1 (by decide)
theorem no_dig {n : Nat} (hn : n < 100) {x : UInt8} {s t : List UInt8} (hx : 57 < x.toNat) (h : digB n ++ s = x :: t) : False := by
  obtain ⟨y, l, e, h1, h2⟩ := dig_head hn
  rw [e] at h
  simp only [List.cons_append, List.cons.injEq] at h
  rw [h.1] at h2; omega
theorem shape_sep {c d : Cmd} {l m s t : List UInt8} (hc : Shape c l) (hd : Shape d m) (h : l ++ s = m ++ t) : c = d ∧ s = t := by
  have lo : ∀ {x : UInt8} {a b : List UInt8}, 32 ≤ x.toNat → x :: a = 27 :: b → False := fun hx e => by
    obtain ⟨rfl, _⟩ := List.cons.inj e
    exact absurd hx (by decide)
  have lf : ∀ {x : UInt8} {a b : List UInt8} {k : Nat}, 7 ≤ k ∧ k ≤ 12 → 32 ≤ x.toNat → x :: a = formB k ++ b → False := fun hk hx e => by
    obtain ⟨y, ys, e', hy, _⟩ := form_head hk
    rw [e', List.cons_append] at e
    obtain ⟨rfl, _⟩ := List.cons.inj e
    omega
  have f27 : ∀ {a b : List UInt8} {k : Nat}, 7 ≤ k ∧ k ≤ 12 → 27 :: 91 :: a = formB k ++ b → ∃ z r, a = z :: r ∧ (z = 75 ∨ z = 74) := fun hk e => by
    obtain ⟨y, ys, e', hy, h2⟩ := form_head hk
    rw [e', List.cons_append] at e
    obtain ⟨rfl, e2⟩ := List.cons.inj e
    rcases h2 rfl with rfl | rfl
    · exact ⟨_, _, (List.cons.inj e2).2, .inl rfl⟩
    · exact ⟨_, _, (List.cons.inj e2).2, .inr rfl⟩
  cases hc with
  | text n hs =>
    obtain ⟨x, xs, e, hx⟩ := enc_head hs
    cases hd with
    | text m hs' => obtain ⟨r1, r2⟩ := enc_sep (isG_shown hs) (isG_shown hs') h; exact ⟨by rw [r1], r2⟩
    | go a b ha hb => rw [e] at h; exact (lo hx h).elim
    | one k hk => rw [e] at h; exact (lo hx h).elim
    | move k a hk ha => rw [e] at h; exact (lo hx h).elim
    | form k hk => rw [e] at h; exact (lf hk hx h).elim
  | go a b ha hb =>
    cases hd with
    | text m hs' => obtain ⟨x, xs, e, hx⟩ := enc_head hs'; rw [e] at h; exact (lo hx h.symm).elim
    | go a' b' ha' hb' =>
      simp only [List.cons_append, List.append_assoc, List.nil_append, List.cons.injEq, true_and] at h
      obtain ⟨r1, _, r2⟩ := dig_sep (by omega) (by omega) (.inl rfl) (.inl rfl) h
      obtain ⟨r3, _, r4⟩ := dig_sep (by omega) (by omega) (.inr (.inl rfl)) (.inr (.inl rfl)) r2
      exact ⟨by rw [show a = a' by omega, show b = b' by omega], r4⟩
    | one k hk => simp only [List.cons_append, List.append_assoc, List.nil_append, List.cons.injEq, true_and] at h; exact (no_dig (by omega) (by have := mv_rng hk; omega) h).elim
    | move k a' hk ha' =>
      simp only [List.cons_append, List.append_assoc, List.nil_append, List.cons.injEq, true_and] at h
      obtain ⟨_, r, _⟩ := dig_sep (by omega) (by omega) (.inl rfl) (.inr (.inr (mv_rng hk))) h
      have := mv_rng hk
      rw [← r] at this; exact absurd this.1 (by decide)
    | form k hk =>
      obtain ⟨z, r, e1, hz⟩ := f27 hk h
      rw [List.append_eq, List.append_assoc] at e1
      exact (no_dig (by omega) (by rcases hz with rfl | rfl <;> decide) e1).elim
  | one k hk =>
    cases hd with
    | text m hs' => obtain ⟨x, xs, e, hx⟩ := enc_head hs'; rw [e] at h; exact (lo hx h.symm).elim
    | go a' b' ha' hb' => simp only [List.cons_append, List.append_assoc, List.nil_append, List.cons.injEq, true_and] at h; exact (no_dig (by omega) (by have := mv_rng hk; omega) h.symm).elim
    | one j hj => simp only [List.cons_append, List.append_assoc, List.nil_append, List.cons.injEq, true_and] at h; exact ⟨by rw [mv_inj hk hj h.1], h.2⟩
    | move j a' hj ha' => simp only [List.cons_append, List.append_assoc, List.nil_append, List.cons.injEq, true_and] at h; exact (no_dig (by omega) (by have := mv_rng hk; omega) h.symm).elim
    | form j hj =>
      obtain ⟨z, r, e1, hz⟩ := f27 hj h
      have := mv_rng hk
      rw [(List.cons.inj e1).1] at this
      rcases hz with rfl | rfl <;> exact absurd this.2 (by decide)
  | move k a hk ha =>
    cases hd with
    | text m hs' => obtain ⟨x, xs, e, hx⟩ := enc_head hs'; rw [e] at h; exact (lo hx h.symm).elim
    | go a' b' ha' hb' =>
      simp only [List.cons_append, List.append_assoc, List.nil_append, List.cons.injEq, true_and] at h
      obtain ⟨_, r, _⟩ := dig_sep (by omega) (by omega) (.inr (.inr (mv_rng hk))) (.inl rfl) h
      have := mv_rng hk
      rw [r] at this; exact absurd this.1 (by decide)
    | one j hj => simp only [List.cons_append, List.append_assoc, List.nil_append, List.cons.injEq, true_and] at h; exact (no_dig (by omega) (by have := mv_rng hj; omega) h).elim
    | move j a' hj ha' =>
      simp only [List.cons_append, List.append_assoc, List.nil_append, List.cons.injEq, true_and] at h
      obtain ⟨r1, r2, r3⟩ := dig_sep (by omega) (by omega) (.inr (.inr (mv_rng hk))) (.inr (.inr (mv_rng hj))) h
      exact ⟨by rw [r1, mv_inj hk hj r2], r3⟩
    | form j hj =>
      obtain ⟨z, r, e1, hz⟩ := f27 hj h
      rw [List.append_eq, List.append_assoc] at e1
      exact (no_dig (by omega) (by rcases hz with rfl | rfl <;> decide) e1).elim
  | form k hk =>
    cases hd with
    | text m hs' => obtain ⟨x, xs, e, hx⟩ := enc_head hs'; rw [e] at h; exact (lf hk hx h.symm).elim
    | go a' b' ha' hb' =>
      obtain ⟨z, r, e1, hz⟩ := f27 hk h.symm
      rw [List.append_eq, List.append_assoc] at e1
      exact (no_dig (by omega) (by rcases hz with rfl | rfl <;> decide) e1).elim
    | one j hj =>
      obtain ⟨z, r, e1, hz⟩ := f27 hk h.symm
      have := mv_rng hj
      rw [(List.cons.inj e1).1] at this
      rcases hz with rfl | rfl <;> exact absurd this.2 (by decide)
    | move j a' hj ha' =>
      obtain ⟨z, r, e1, hz⟩ := f27 hk h.symm
      rw [List.append_eq, List.append_assoc] at e1
      exact (no_dig (by omega) (by rcases hz with rfl | rfl <;> decide) e1).elim
    | form j hj => obtain ⟨r1, r2⟩ := form_sep hk hj h; exact ⟨by rw [r1], r2⟩
end Go.Proofs.YtplabpjkkcillaaDoor
