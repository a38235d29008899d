/- Layer 6 (scan), plainly: the next command of some bytes, as the program finds it. No condition. -/
import Derived.Test.YtplabpjkkcillaaDoorV9
import Derived.Test.YtplabpjkkcillaaDoorU2
namespace Go.Proofs.YtplabpjkkcillaaDoor
set_option linter.unusedSimpArgs false
set_option linter.unusedVariables false
set_option linter.unusedSectionVars false
set_option maxHeartbeats 4000000
open Go Go.RowKit
set_option maxRecDepth 100000
abbrev Sc := Int × Cmd × List UInt8
abbrev dig (b : UInt8) : Prop := 48 ≤ b.toNat ∧ b.toNat ≤ 57
/-- a number of digits: 0 and the number and what stands behind ¦ 2: none ¦ 3: more is wanted -/
def numM (most : Nat) : Nat → List UInt8 → Int × Nat × List UInt8
  | _, [] => (3, 0, [])
  | n, b :: l => if dig b then (if n * 10 + (b.toNat - 48) = 0 ∨ most < n * 10 + (b.toNat - 48) then (2, 0, []) else numM most (n * 10 + (b.toNat - 48)) l) else if n = 0 then (2, 0, []) else (0, n, b :: l)
def nok (e : Int) : Sc := (e, (0, 0, 0, 0), [])
/-- behind a number, or none -/
def endM (is : Bool) (n : Nat) : List UInt8 → Sc
  | [] => nok 3
  | b :: l => if 65 ≤ b.toNat ∧ b.toNat ≤ 68 then (0, (((b.toNat - 62 : Nat) : Int), (n : Int), 0, 0), l)
    else if b.toNat ≠ 59 ∨ 24 < n ∨ is = false then nok 2
    else match numM 80 0 l with
      | (0, m, b2 :: l2) => if b2.toNat = 72 then (0, (2, (n : Int) - 1, (m : Int) - 1, 0), l2) else nok 2
      | (0, _, []) => nok 3
      | (e, _, _) => nok e
/-- behind 27 and [ -/
def ctlM : List UInt8 → Sc
  | [] => nok 3
  | b :: l => if dig b then (match numM 80 0 (b :: l) with
      | (0, n, b2 :: l2) => if n = 1 ∧ b2.toNat ≠ 59 then nok 2 else endM true n (b2 :: l2)
      | (0, _, []) => nok 3
      | (e, _, _) => nok e)
    else if b.toNat = 75 then (0, (7, 0, 0, 0), l) else if b.toNat = 74 then (0, (8, 0, 0, 0), l) else endM false 1 (b :: l)
def homeK (b : Nat) : Int := if b = 13 then 9 else if b = 10 then 10 else if b = 8 then 11 else if b = 7 then 12 else 0
def cmdM : List UInt8 → Sc
  | [] => nok 3
  | b :: l => if homeK b.toNat ≠ 0 then (0, (homeK b.toNat, 0, 0, 0), l)
    else if b.toNat = 27 then (match l with
      | [] => nok 3
      | x :: l2 => if x.toNat = 91 then ctlM l2 else nok 2)
    else if fullG (b :: l) = false then nok 3
    else if decG (b :: l) = (65533, 1) ∨ shown ((decG (b :: l)).1 : Nat) = false then nok 2
    else (0, (1, 0, 0, ((decG (b :: l)).1 : Nat)), (b :: l).drop (decG (b :: l)).2)
/-- some bytes are a beginning of a right command's, or of a sign's, and not all of them -/
def MoreC (s : List UInt8) : Prop := MoreG s ∨ (s ≠ [] ∧ ∃ c l, Shape c l ∧ c.1 ≠ 1 ∧ s.length < l.length ∧ s = l.take s.length)
/-! ### numbers -/
theorem dig_ofNat {k : Nat} (h : k < 10) : dig (UInt8.ofNat (48 + k)) ∧ (UInt8.ofNat (48 + k)).toNat - 48 = k := by
  unfold dig; have : (UInt8.ofNat (48 + k)).toNat = 48 + k := by simp; omega
  omega
theorem of_dig {b : UInt8} (h : dig b) : b = UInt8.ofNat (48 + (b.toNat - 48)) := by
  rw [← UInt8.toNat_inj]
  unfold dig at h
  simp; omega
theorem numM_cons (most n : Nat) (b : UInt8) (l : List UInt8) : numM most n (b :: l) = if dig b then (if n * 10 + (b.toNat - 48) = 0 ∨ most < n * 10 + (b.toNat - 48) then (2, 0, []) else numM most (n * 10 + (b.toNat - 48)) l) else if n = 0 then (2, 0, []) else (0, n, b :: l) := rfl
theorem num_zero {most : Nat} (hm : most ≤ 99) : ∀ (l : List UInt8), (∃ k m, 1 ≤ m ∧ m ≤ most ∧ l = (digB m).take k ∧ k ≤ (digB m).length ∧ numM most 0 l = (3, 0, []))
    ∨ (∃ m b t, 1 ≤ m ∧ m ≤ most ∧ l = digB m ++ b :: t ∧ ¬ dig b ∧ numM most 0 l = (0, m, b :: t))
    ∨ numM most 0 l = (2, 0, []) ∨ most = 0
  | [] => by
    by_cases h : most = 0
    · exact .inr (.inr (.inr h))
    · exact .inl ⟨0, 1, by omega, by omega, by simp, by simp, rfl⟩
  | b :: l => by
    by_cases h0 : most = 0
    · exact .inr (.inr (.inr h0))
    by_cases hb : dig b
    · have hb' := hb
      unfold dig at hb'
      have e1 : numM most 0 (b :: l) = if 0 * 10 + (b.toNat - 48) = 0 ∨ most < 0 * 10 + (b.toNat - 48) then (2, 0, []) else numM most (0 * 10 + (b.toNat - 48)) l := by rw [numM, if_pos hb]
      by_cases h1 : 0 * 10 + (b.toNat - 48) = 0 ∨ most < 0 * 10 + (b.toNat - 48)
      · rw [if_pos h1] at e1; exact .inr (.inr (.inl e1))
      · rw [if_neg h1] at e1
        obtain ⟨n, hn⟩ : ∃ n, n = b.toNat - 48 := ⟨_, rfl⟩
        have hbn : b = UInt8.ofNat (48 + n) := by rw [hn]; exact of_dig hb
        rw [← hn, Nat.zero_mul, Nat.zero_add] at e1
        have hd1 : digB n = [b] := by rw [digB, if_pos (by omega), hbn]
        cases l with
        | nil => exact .inl ⟨1, n, by omega, by omega, by rw [hd1]; rfl, by rw [hd1]; simp, by rw [e1, numM]⟩
        | cons b2 l2 =>
          by_cases hb2 : dig b2
          · have hb2' := hb2
            unfold dig at hb2'
            rw [numM_cons most n b2, if_pos hb2] at e1
            by_cases h2 : n * 10 + (b2.toNat - 48) = 0 ∨ most < n * 10 + (b2.toNat - 48)
            · rw [if_pos h2] at e1; exact .inr (.inr (.inl e1))
            · rw [if_neg h2] at e1
              obtain ⟨m, hm2⟩ : ∃ m, m = n * 10 + (b2.toNat - 48) := ⟨_, rfl⟩
              rw [← hm2] at e1
              have hbm : b2 = UInt8.ofNat (48 + m % 10) := by
                have := of_dig hb2
                rw [this]; congr 1; simp; omega
              have hd2 : digB m = [b, b2] := by
                rw [digB, if_neg (by omega), hbm, hbn, show m / 10 = n by omega]
              cases l2 with
              | nil => exact .inl ⟨2, m, by omega, by omega, by rw [hd2]; rfl, by rw [hd2]; simp, by rw [e1, numM]⟩
              | cons b3 l3 =>
                by_cases hb3 : dig b3
                · rw [numM_cons most m b3, if_pos hb3, if_pos (.inr (by omega))] at e1
                  exact .inr (.inr (.inl e1))
                · rw [numM_cons most m b3, if_neg hb3, if_neg (by omega)] at e1
                  exact .inr (.inl ⟨m, b3, l3, by omega, by omega, by rw [hd2]; rfl, hb3, e1⟩)
          · rw [numM_cons most n b2, if_neg hb2, if_neg (by omega)] at e1
            exact .inr (.inl ⟨n, b2, l2, by omega, by omega, by rw [hd1]; rfl, hb2, e1⟩)
    · exact .inr (.inr (.inl (by rw [numM, if_neg hb, if_pos rfl])))
theorem num_full {most m : Nat} (hm : most ≤ 99) (h1 : 1 ≤ m) (h2 : m ≤ most) {b : UInt8} {t : List UInt8} (hb : ¬ dig b) : numM most 0 (digB m ++ b :: t) = (0, m, b :: t) := by
  unfold digB
  split
  · rename_i h
    obtain ⟨d1, d2⟩ := dig_ofNat h
    rw [List.cons_append, List.nil_append, numM, if_pos d1, d2, if_neg (by omega), numM, if_neg hb, if_neg (by omega)]
    simp
  · rename_i h
    obtain ⟨d1, d2⟩ := dig_ofNat (k := m / 10) (by omega)
    obtain ⟨d3, d4⟩ := dig_ofNat (k := m % 10) (by omega)
    rw [List.cons_append, List.cons_append, List.nil_append, numM, if_pos d1, d2, if_neg (by omega), numM, if_pos d3, d4, if_neg (by omega), numM, if_neg hb, if_neg (by omega)]
    simp only [Prod.mk.injEq, and_true, true_and]; omega
theorem num_part {most m k : Nat} (hm : most ≤ 99) (h1 : 1 ≤ m) (h2 : m ≤ most) : numM most 0 ((digB m).take k) = (3, 0, []) := by
  unfold digB
  split
  · rename_i h
    obtain ⟨d1, d2⟩ := dig_ofNat h
    match k with
    | 0 => rfl
    | k + 1 =>
      rw [List.take_succ_cons, List.take_nil, numM, if_pos d1, d2, if_neg (by omega), numM]
  · rename_i h
    obtain ⟨d1, d2⟩ := dig_ofNat (k := m / 10) (by omega)
    obtain ⟨d3, d4⟩ := dig_ofNat (k := m % 10) (by omega)
    match k with
    | 0 => rfl
    | 1 => rw [List.take_succ_cons, List.take_zero, numM, if_pos d1, d2, if_neg (by omega), numM]
    | k + 2 => rw [List.take_succ_cons, List.take_succ_cons, List.take_nil, numM, if_pos d1, d2, if_neg (by omega), numM, if_pos d3, d4, if_neg (by omega), numM]
theorem shape_is {c : Cmd} {l : List UInt8} (h : Shape c l) : isCmd c = true ∧ bytesB c = l := by
  cases h with
  | text n hs =>
    refine ⟨by simp [isCmd, hs], ?_⟩
    simp only [bytesB, if_true]
    exact encB_eq (isG_shown hs)
  | go a b ha hb =>
    refine ⟨by simp [isCmd]; omega, ?_⟩
    simp [bytesB, show ((a : Int) + 1).toNat = a + 1 by omega, show ((b : Int) + 1).toNat = b + 1 by omega]
  | one k hk =>
    have e1 : (62 + (k : Int)).toNat = 62 + k := by omega
    refine ⟨by simp only [isCmd]; rw [if_neg (by omega), if_neg (by omega), if_pos (by omega)]; simp, ?_⟩
    simp only [bytesB]; rw [if_neg (by omega), if_neg (by omega), if_pos (by omega), if_pos trivial, e1]; rfl
  | move k a hk ha =>
    have e1 : (62 + (k : Int)).toNat = 62 + k := by omega
    refine ⟨by simp only [isCmd]; rw [if_neg (by omega), if_neg (by omega), if_pos (by omega)]; simp; omega, ?_⟩
    simp only [bytesB]; rw [if_neg (by omega), if_neg (by omega), if_pos (by omega), if_neg (by omega), e1]; rfl
  | form k hk =>
    refine ⟨by simp only [isCmd]; rw [if_neg (by omega), if_neg (by omega), if_neg (by omega)]; simp; omega, ?_⟩
    simp only [bytesB]; rw [if_neg (by omega), if_neg (by omega), if_neg (by omega)]
end Go.Proofs.YtplabpjkkcillaaDoor
