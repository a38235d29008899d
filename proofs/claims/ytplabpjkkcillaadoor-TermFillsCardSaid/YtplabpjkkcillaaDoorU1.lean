/- Layer 1: bytes of signs, plainly: what decoding gives, and which bytes are a beginning. No condition. -/
import Derived.Test.YtplabpjkkcillaaDoorV1
import Derived.Lib.DecodeN
namespace Go.Proofs.YtplabpjkkcillaaDoor
set_option linter.unusedSimpArgs false
set_option linter.unusedVariables false
set_option linter.unusedSectionVars false
set_option maxHeartbeats 4000000
open Go Go.RowKit
set_option maxRecDepth 100000
/-- the byte at a place; 0 behind the end -/
def bt (s : List UInt8) (j : Nat) : Nat := ((s[j]?).map UInt8.toNat).getD 0
theorem bt_lt (s : List UInt8) (j : Nat) : bt s j < 256 := by
  unfold bt
  cases h : s[j]? with
  | none => simp
  | some b => simpa using b.toNat_lt
theorem bt_at {s : List UInt8} {j : Nat} {b : UInt8} (h : s[j]? = some b) : bt s j = b.toNat := by simp [bt, h]
theorem bt_get {s : List UInt8} {j : Nat} (h : j < s.length) : s[j]? = some (UInt8.ofNat (bt s j)) := by
  rw [bt, List.getElem?_eq_getElem h]; simp
theorem ofNat_bt {n : Nat} (h : n < 256) : (UInt8.ofNat n).toNat = n := by simp; omega
/-- the sign that the bytes begin with, and how many they are -/
def decG (s : List UInt8) : Nat × Nat := Go.Lib.decodeN s.length (bt s 0) (bt s 1) (bt s 2) (bt s 3)
/-- is the first sign whole (right or not)? -/
def fullN (n b0 b1 b2 : Nat) : Bool :=
  if n = 0 then false else if Go.Lib.firstT b0 % 8 ≤ n then true
  else if 1 < n ∧ (b1 < Go.Lib.accLo (Go.Lib.firstT b0 / 16) ∨ Go.Lib.accHi (Go.Lib.firstT b0 / 16) < b1) then true
  else if 2 < n ∧ (b2 < 128 ∨ 191 < b2) then true else false
def fullG (s : List UInt8) : Bool := fullN s.length (bt s 0) (bt s 1) (bt s 2)
/-- some bytes are a beginning of a sign's, and not all of them -/
def MoreG (s : List UInt8) : Prop := s ≠ [] ∧ ∃ r, isG r = true ∧ s.length < (encC r).length ∧ s = (encC r).take s.length
theorem isG_iff {r : Int} : isG r = true ↔ 0 ≤ r ∧ r ≤ 1114111 ∧ ¬ (55296 ≤ r ∧ r ≤ 57343) := by simp [isG]; omega
theorem bt_app_l {s t : List UInt8} {j : Nat} (h : j < s.length) : bt (s ++ t) j = bt s j := by rw [bt, bt, List.getElem?_append_left h]
theorem bt_cons0 (b : UInt8) (s : List UInt8) : bt (b :: s) 0 = b.toNat := rfl
theorem bt_cons1 (a b : UInt8) (s : List UInt8) : bt (a :: b :: s) 1 = b.toNat := rfl
theorem bt_cons2 (a b c : UInt8) (s : List UInt8) : bt (a :: b :: c :: s) 2 = c.toNat := rfl
theorem bt_cons3 (a b c d : UInt8) (s : List UInt8) : bt (a :: b :: c :: d :: s) 3 = d.toNat := rfl
/-- a sign's bytes, by their number -/
theorem enc_cases {r : Int} (h : isG r = true) : ∃ n : Nat, r = n ∧ n ≤ 1114111 ∧ ¬ (55296 ≤ n ∧ n ≤ 57343) ∧
    ((n < 128 ∧ encC r = [UInt8.ofNat n]) ∨ (128 ≤ n ∧ n < 2048 ∧ encC r = [UInt8.ofNat (192 + n / 64), UInt8.ofNat (128 + n % 64)])
    ∨ (2048 ≤ n ∧ n < 65536 ∧ encC r = [UInt8.ofNat (224 + n / 4096), UInt8.ofNat (128 + n / 64 % 64), UInt8.ofNat (128 + n % 64)])
    ∨ (65536 ≤ n ∧ encC r = [UInt8.ofNat (240 + n / 262144), UInt8.ofNat (128 + n / 4096 % 64), UInt8.ofNat (128 + n / 64 % 64), UInt8.ofNat (128 + n % 64)])) := by
  have h2 := isG_iff.1 h
  obtain ⟨n, rfl⟩ := Int.eq_ofNat_of_zero_le h2.1
  refine ⟨n, rfl, by omega, by omega, ?_⟩
  unfold encC
  by_cases h1 : n < 128
  · exact .inl ⟨h1, by rw [if_pos (by omega)]; rfl⟩
  · by_cases h2 : n < 2048
    · exact .inr (.inl ⟨by omega, h2, by rw [if_neg (by omega), if_pos (by omega)]; rfl⟩)
    · by_cases h3 : n < 65536
      · exact .inr (.inr (.inl ⟨by omega, h3, by rw [if_neg (by omega), if_neg (by omega), if_pos (by omega)]; rfl⟩))
      · exact .inr (.inr (.inr ⟨by omega, by rw [if_neg (by omega), if_neg (by omega), if_neg (by omega)]; rfl⟩))
theorem dec_enc {r : Int} (h : isG r = true) (t : List UInt8) : (((decG (encC r ++ t)).1 : Nat) : Int) = r ∧ (decG (encC r ++ t)).2 = (encC r).length := by
  obtain ⟨n, rfl, hn, hs, hc⟩ := enc_cases h
  rcases hc with ⟨h1, e⟩ | ⟨h1, h2, e⟩ | ⟨h1, h2, e⟩ | ⟨h1, e⟩ <;> rw [e]
  · have e0 : bt ([UInt8.ofNat n] ++ t) 0 = n := by rw [List.cons_append, bt_cons0, ofNat_bt (by omega)]
    unfold decG Go.Lib.decodeN
    rw [e0, if_pos h1]; exact ⟨rfl, rfl⟩
  · have e0 : bt ([UInt8.ofNat (192 + n / 64), UInt8.ofNat (128 + n % 64)] ++ t) 0 = 192 + n / 64 := by rw [List.cons_append, bt_cons0, ofNat_bt (by omega)]
    have e1 : bt ([UInt8.ofNat (192 + n / 64), UInt8.ofNat (128 + n % 64)] ++ t) 1 = 128 + n % 64 := by rw [List.cons_append, List.cons_append, bt_cons1, ofNat_bt (by omega)]
    unfold decG Go.Lib.decodeN
    rw [e0, e1, if_neg (by omega), if_pos ⟨by omega, by simp, by omega⟩, if_pos (by omega)]
    refine ⟨?_, rfl⟩; simp only; omega
  · have e0 : bt ([UInt8.ofNat (224 + n / 4096), UInt8.ofNat (128 + n / 64 % 64), UInt8.ofNat (128 + n % 64)] ++ t) 0 = 224 + n / 4096 := by rw [List.cons_append, bt_cons0, ofNat_bt (by omega)]
    have e1 : bt ([UInt8.ofNat (224 + n / 4096), UInt8.ofNat (128 + n / 64 % 64), UInt8.ofNat (128 + n % 64)] ++ t) 1 = 128 + n / 64 % 64 := by rw [List.cons_append, List.cons_append, bt_cons1, ofNat_bt (by omega)]
    have e2 : bt ([UInt8.ofNat (224 + n / 4096), UInt8.ofNat (128 + n / 64 % 64), UInt8.ofNat (128 + n % 64)] ++ t) 2 = 128 + n % 64 := by rw [List.cons_append, List.cons_append, List.cons_append, bt_cons2, ofNat_bt (by omega)]
    unfold decG Go.Lib.decodeN
    rw [e0, e1, e2, if_neg (by omega), if_neg (by omega), if_pos ⟨by omega, ⟨by simp, by omega⟩, by simp, by omega⟩, if_pos (by omega)]
    refine ⟨?_, rfl⟩; simp only; omega
  · have e0 : bt ([UInt8.ofNat (240 + n / 262144), UInt8.ofNat (128 + n / 4096 % 64), UInt8.ofNat (128 + n / 64 % 64), UInt8.ofNat (128 + n % 64)] ++ t) 0 = 240 + n / 262144 := by rw [List.cons_append, bt_cons0, ofNat_bt (by omega)]
    have e1 : bt ([UInt8.ofNat (240 + n / 262144), UInt8.ofNat (128 + n / 4096 % 64), UInt8.ofNat (128 + n / 64 % 64), UInt8.ofNat (128 + n % 64)] ++ t) 1 = 128 + n / 4096 % 64 := by rw [List.cons_append, List.cons_append, bt_cons1, ofNat_bt (by omega)]
    have e2 : bt ([UInt8.ofNat (240 + n / 262144), UInt8.ofNat (128 + n / 4096 % 64), UInt8.ofNat (128 + n / 64 % 64), UInt8.ofNat (128 + n % 64)] ++ t) 2 = 128 + n / 64 % 64 := by rw [List.cons_append, List.cons_append, List.cons_append, bt_cons2, ofNat_bt (by omega)]
    have e3 : bt ([UInt8.ofNat (240 + n / 262144), UInt8.ofNat (128 + n / 4096 % 64), UInt8.ofNat (128 + n / 64 % 64), UInt8.ofNat (128 + n % 64)] ++ t) 3 = 128 + n % 64 := by rw [List.cons_append, List.cons_append, List.cons_append, List.cons_append, bt_cons3, ofNat_bt (by omega)]
    unfold decG Go.Lib.decodeN
    rw [e0, e1, e2, e3, if_neg (by omega), if_neg (by omega), if_neg (by omega), if_pos ⟨by omega, ⟨by simp, by omega⟩, ⟨by simp, by omega⟩, by simp, by omega⟩, if_pos (by omega)]
    refine ⟨?_, rfl⟩; simp only; omega
theorem take1 {s : List UInt8} (h : 0 < s.length) : s.take 1 = [UInt8.ofNat (bt s 0)] := by
  obtain ⟨a, t, rfl⟩ : ∃ a t, s = a :: t := by cases s with | nil => simp at h | cons a t => exact ⟨a, t, rfl⟩
  simp [bt]
theorem take2 {s : List UInt8} (h : 1 < s.length) : s.take 2 = [UInt8.ofNat (bt s 0), UInt8.ofNat (bt s 1)] := by
  match s, h with
  | a :: b :: t, _ => simp [bt]
theorem take3 {s : List UInt8} (h : 2 < s.length) : s.take 3 = [UInt8.ofNat (bt s 0), UInt8.ofNat (bt s 1), UInt8.ofNat (bt s 2)] := by
  match s, h with
  | a :: b :: c :: t, _ => simp [bt]
theorem take4 {s : List UInt8} (h : 3 < s.length) : s.take 4 = [UInt8.ofNat (bt s 0), UInt8.ofNat (bt s 1), UInt8.ofNat (bt s 2), UInt8.ofNat (bt s 3)] := by
  match s, h with
  | a :: b :: c :: d :: t, _ => simp [bt]
theorem encN {n : Nat} : (n < 128 → encC (n : Int) = [UInt8.ofNat n]) ∧ (128 ≤ n → n < 2048 → encC (n : Int) = [UInt8.ofNat (192 + n / 64), UInt8.ofNat (128 + n % 64)])
    ∧ (2048 ≤ n → n < 65536 → encC (n : Int) = [UInt8.ofNat (224 + n / 4096), UInt8.ofNat (128 + n / 64 % 64), UInt8.ofNat (128 + n % 64)])
    ∧ (65536 ≤ n → encC (n : Int) = [UInt8.ofNat (240 + n / 262144), UInt8.ofNat (128 + n / 4096 % 64), UInt8.ofNat (128 + n / 64 % 64), UInt8.ofNat (128 + n % 64)]) := by
  unfold encC
  refine ⟨fun h => by rw [if_pos (by omega)]; rfl, fun h h2 => by rw [if_neg (by omega), if_pos (by omega)]; rfl, fun h h2 => by rw [if_neg (by omega), if_neg (by omega), if_pos (by omega)]; rfl, fun h => by rw [if_neg (by omega), if_neg (by omega), if_neg (by omega)]; rfl⟩
theorem lst2 {a b a' b' : Nat} (h1 : a = a') (h2 : b = b') : [UInt8.ofNat a, UInt8.ofNat b] = [UInt8.ofNat a', UInt8.ofNat b'] := by rw [h1, h2]
theorem lst3 {a b c a' b' c' : Nat} (h1 : a = a') (h2 : b = b') (h3 : c = c') : [UInt8.ofNat a, UInt8.ofNat b, UInt8.ofNat c] = [UInt8.ofNat a', UInt8.ofNat b', UInt8.ofNat c'] := by rw [h1, h2, h3]
theorem lst4 {a b c d a' b' c' d' : Nat} (h1 : a = a') (h2 : b = b') (h3 : c = c') (h4 : d = d') : [UInt8.ofNat a, UInt8.ofNat b, UInt8.ofNat c, UInt8.ofNat d] = [UInt8.ofNat a', UInt8.ofNat b', UInt8.ofNat c', UInt8.ofNat d'] := by rw [h1, h2, h3, h4]
/-- what is decoded is a right sign, and stands there, or it is the mark of what is none -/
theorem dec_sound {s : List UInt8} (h : s ≠ []) : decG s = (65533, 1) ∨ (isG ((decG s).1 : Nat) = true ∧ (decG s).2 ≤ s.length ∧ s.take (decG s).2 = encC ((decG s).1 : Nat)) := by
  have hp : 0 < s.length := List.length_pos_iff.2 h
  have q0 := bt_lt s 0
  have q1 := bt_lt s 1
  have q2 := bt_lt s 2
  have q3 := bt_lt s 3
  unfold decG Go.Lib.decodeN
  split
  · rename_i h0
    right
    exact ⟨isG_iff.2 (by omega), by omega, by rw [encN.1 h0]; exact take1 hp⟩
  · split
    · rename_i h0 h1
      split
      · rename_i h2
        right
        refine ⟨isG_iff.2 (by simp only; omega), by simp only; omega, ?_⟩
        simp only
        rw [encN.2.1 (by omega) (by omega), take2 (by omega)]
        exact lst2 (by omega) (by omega)
      · exact .inl rfl
    · split
      · rename_i h0 h1 h3
        split
        · rename_i h2
          right
          refine ⟨isG_iff.2 (by simp only; omega), by simp only; omega, ?_⟩
          simp only
          rw [encN.2.2.1 (by omega) (by omega), take3 (by omega)]
          exact lst3 (by omega) (by omega) (by omega)
        · exact .inl rfl
      · split
        · rename_i h0 h1 h3 h4
          split
          · rename_i h2
            right
            refine ⟨isG_iff.2 (by simp only; omega), by simp only; omega, ?_⟩
            simp only
            rw [encN.2.2.2 (by omega), take4 (by omega)]
            exact lst4 (by omega) (by omega) (by omega) (by omega)
          · exact .inl rfl
        · exact .inl rfl
end Go.Proofs.YtplabpjkkcillaaDoor
