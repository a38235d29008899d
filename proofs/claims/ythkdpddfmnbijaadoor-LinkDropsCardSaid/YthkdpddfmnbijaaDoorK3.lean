/- Layer 9 (link): plain laws of what is sent. No condition. -/
import Derived.Test.YthkdpddfmnbijaaDoorK1
namespace Go.Proofs.YthkdpddfmnbijaaDoor
set_option linter.unusedSimpArgs false
set_option linter.unusedVariables false
set_option maxHeartbeats 4000000
open Go Go.RowKit
set_option maxRecDepth 100000
/-- s bytes of l's first command are sent: fewer than it has -/
def okS (l : List Cmd) (s : Nat) : Prop := l.all isCmd = true ∧ (l = [] → s = 0) ∧ ∀ c r, l = c :: r → s < lenC c
theorem okS_of {room sent pad : Int} {l : List Cmd} (h : okL room l sent pad = true) : okS l sent.toNat := by
  cases l with
  | nil => have := okL_nil.1 h; exact ⟨rfl, fun _ => by omega, fun c r e => by cases e⟩
  | cons c l => have := okL_cons.1 h; exact ⟨this.2.1, fun e => by (cases e), fun d r e => by injection e with e1 e2; subst e1; omega⟩
theorem okL_of {room pad : Int} {s : Nat} {l : List Cmd} (h : okS l s) (h1 : 8 ≤ room ∧ room ≤ 48 ∧ 0 ≤ pad ∧ pad ≤ 2) (h2 : (costM l : Int) - s ≤ room) : okL room l s pad = true := by
  cases l with
  | nil => exact okL_nil.2 ⟨by omega, by have := h.2.1 rfl; omega⟩
  | cons c l => exact okL_cons.2 ⟨by omega, h.1, by have := h.2.2 c l rfl; omega, h2⟩
theorem okS_tail {c : Cmd} {l : List Cmd} {s : Nat} (h : okS (c :: l) s) : okS l 0 := by
  have h1 := h.1
  simp only [List.all_cons, Bool.and_eq_true] at h1
  refine ⟨h1.2, fun _ => rfl, fun d r e => ?_⟩
  subst e
  have h2 := h1.2
  simp only [List.all_cons, Bool.and_eq_true] at h2
  exact lenC_pos h2.1
theorem drop_cons {c : Cmd} {l : List Cmd} {s : Nat} (h : s ≤ lenC c) : (bytesM (c :: l)).drop s = (putR' c).1.drop s ++ bytesM l := by
  rw [bytesM_cons, List.drop_append_of_le_length h]
theorem pad_rng (c : Cmd) : (0 : Int) ≤ padC c ∧ (padC c : Int) ≤ 2 := by have := padC_le c; omega
/-- all of what is sent -/
theorem send_all : ∀ (l : List Cmd) (s : Nat) (p g : Int), okS l s → 0 ≤ p → p ≤ 2 →
    okS (sendM l s p g).2.1 (sendM l s p g).2.2.1 ∧ (0 ≤ (sendM l s p g).2.2.2 ∧ (sendM l s p g).2.2.2 ≤ 2) ∧ (sendM l s p g).1 ++ (bytesM (sendM l s p g).2.1).drop (sendM l s p g).2.2.1 = (bytesM l).drop s
      ∧ ((sendM l s p g).1.length : Int) ≤ max g 0 ∧ ((sendM l s p g).1 ≠ [] → p = 0) ∧ (((sendM l s p g).1.length : Int) < g → p = 0 → (sendM l s p g).2.2.2 = 0 → (sendM l s p g).2.1 = [])
      ∧ (∃ k, (sendM l s p g).2.1 = l.drop k ∧ k ≤ l.length)
  | [], s, p, g, h, h0, h1 => by
    rw [sendM_stop (.inl rfl)]
    exact ⟨h, ⟨h0, h1⟩, by simp, by simp; omega, fun e => absurd rfl e, fun _ _ _ => rfl, 0, rfl, by simp⟩
  | c :: l, s, p, g, h, h0, h1 => by
    by_cases hs : p ≠ 0 ∨ g ≤ 0
    · rw [sendM_stop (.inr hs)]
      exact ⟨h, ⟨h0, h1⟩, by simp, by simp; omega, fun e => absurd rfl e, fun e1 e2 _ => by simp at e1; omega, 0, rfl, by simp⟩
    · have hp : p = 0 := by omega
      subst hp
      have hlt := h.2.2 c l rfl
      have hlen : (putR' c).1.length = lenC c := rfl
      by_cases hw : g < ((lenC c - s : Nat) : Int)
      · rw [sendM_part (by omega) hw]
        refine ⟨⟨h.1, (fun e => nomatch e), (fun d r e => ?_)⟩, ⟨h0, h1⟩, ?_, ?_, (fun _ => rfl), ?_, 0, rfl, by simp⟩
        · simp only at e; injection e with e1 e2; subst e1; simp only; omega
        · simp only
          rw [drop_cons (by omega), drop_cons (by omega), ← List.append_assoc, ← List.drop_drop, List.take_append_drop]
        · simp only [List.length_take, List.length_drop]; omega
        · simp only [List.length_take, List.length_drop]; omega
      · rw [sendM_whole (by omega) (by omega)]
        obtain ⟨a1, a2, a3, a4, a5, a6, k, a7, a8⟩ := send_all l 0 (padC c) (g - ((lenC c - s : Nat) : Int)) (okS_tail h) (pad_rng c).1 (pad_rng c).2
        refine ⟨a1, a2, ?_, ?_, fun _ => rfl, ?_, k + 1, ?_, by simp; omega⟩
        · simp only
          rw [List.append_assoc, a3, drop_cons (by omega)]; rfl
        · simp only [List.length_append, List.length_drop]; omega
        · simp only [List.length_append, List.length_drop]
          intro e1 _ e3
          by_cases hq : (padC c : Int) = 0
          · exact a6 (by omega) hq e3
          · rw [sendM_stop (.inr (.inl hq))] at e3 ⊢
            exact absurd e3 hq
        · simpa using a7
/-- in two parts, or whole -/
theorem send_two : ∀ (l : List Cmd) (s : Nat) (p m n : Int), okS l s → 0 ≤ m → 0 ≤ n →
    ((sendM l s p m).1 ++ (sendM (sendM l s p m).2.1 (sendM l s p m).2.2.1 (sendM l s p m).2.2.2 n).1, (sendM (sendM l s p m).2.1 (sendM l s p m).2.2.1 (sendM l s p m).2.2.2 n).2) = sendM l s p (m + n)
  | [], s, p, m, n, h, h0, h1 => by
    rw [sendM_stop (.inl rfl), sendM_stop (.inl rfl), sendM_stop (.inl rfl)]; rfl
  | c :: l, s, p, m, n, h, h0, h1 => by
    by_cases hp : p ≠ 0
    · rw [sendM_stop (.inr (.inl hp)), sendM_stop (.inr (.inl hp)), sendM_stop (.inr (.inl hp))]; rfl
    have hp : p = 0 := by omega
    subst hp
    have hlt := h.2.2 c l rfl
    have hlen : (putR' c).1.length = lenC c := rfl
    by_cases hm : m = 0
    · subst hm
      rw [sendM_stop (g := 0) (.inr (.inr (by decide)))]; simp
    by_cases hw : m < ((lenC c - s : Nat) : Int)
    · rw [sendM_part (by omega) hw]
      simp only
      obtain ⟨m, rfl⟩ := Int.eq_ofNat_of_zero_le h0
      simp only [Int.toNat_natCast]
      by_cases hn : n = 0
      · subst hn
        rw [sendM_stop (g := 0) (.inr (.inr (by decide))), Int.add_zero, sendM_part (by omega) hw]; simp
      obtain ⟨n, rfl⟩ := Int.eq_ofNat_of_zero_le h1
      by_cases hw2 : ((m : Int) + n) < ((lenC c - s : Nat) : Int)
      · rw [sendM_part (by omega) (by omega), sendM_part (by omega) hw2]
        simp only [Int.toNat_natCast, Prod.mk.injEq, true_and, and_true]
        have e : ((m : Int) + n).toNat = m + n := by omega
        rw [e]
        refine ⟨?_, by omega⟩
        rw [← List.drop_drop, List.take_add]
      · rw [sendM_whole (by omega) (by omega), sendM_whole (by omega) (by omega)]
        have e : (n : Int) - ((lenC c - (s + m) : Nat) : Int) = m + n - ((lenC c - s : Nat) : Int) := by omega
        rw [e, ← List.append_assoc, ← List.drop_drop, List.take_append_drop]
    · rw [sendM_whole (by omega) (by omega), sendM_whole (by omega) (by omega)]
      simp only
      have ih := send_two l 0 (padC c) (m - ((lenC c - s : Nat) : Int)) n (okS_tail h) (by omega) h1
      have e : m - ((lenC c - s : Nat) : Int) + n = m + n - ((lenC c - s : Nat) : Int) := by omega
      rw [e] at ih
      rw [← ih]
      simp
end Go.Proofs.YthkdpddfmnbijaaDoor
