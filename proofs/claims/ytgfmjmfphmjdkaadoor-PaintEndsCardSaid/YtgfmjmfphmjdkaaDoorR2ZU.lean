/- Several texts in one: see the comment ahead of each. No condition. -/
import Derived.Test.YtgfmjmfphmjdkaaDoorR2ZV
import Derived.Lib.DecodeN
import Derived.Shelf.Unicode.DecodeAny
import Derived.Test.YtgfmjmfphmjdkaaDoorR2ZB
/- Layer 1: bytes of signs, plainly: what decoding gives, and which bytes are a beginning. No condition. -/
namespace Go.Proofs.YtgfmjmfphmjdkaaDoor
set_option linter.unusedSimpArgs false
set_option linter.unusedVariables false
set_option linter.unusedSectionVars false
set_option maxHeartbeats 4000000
section
open Go Go.RowKit
set_option maxRecDepth 100000
/-- the byte at a place; 0 behind the end -/
def bt (s : List UInt8) (j : Nat) : Nat := ((s[j]?).map UInt8.toNat).getD 0
theorem bt_lt (s : List UInt8) (j : Nat) : bt s j < 256 := by
  unfold bt
  cases h : s[j]? with
  | none => simp
  | some b => simpa using b.toNat_lt
theorem bt_at {s : List UInt8} {j : Nat} {b : UInt8} (h : s[j]? = some b) : bt s j = b.toNat := by simp [bt, h]
/-- the sign that the bytes begin with, and how many they are -/
def decG (s : List UInt8) : Nat × Nat := Go.Lib.decodeN s.length (bt s 0) (bt s 1) (bt s 2) (bt s 3)
/-- is the first sign whole (right or not)? -/
def fullN (n b0 b1 b2 : Nat) : Bool :=
  if n = 0 then false else if Go.Lib.firstT b0 % 8 ≤ n then true
  else if 1 < n ∧ (b1 < Go.Lib.accLo (Go.Lib.firstT b0 / 16) ∨ Go.Lib.accHi (Go.Lib.firstT b0 / 16) < b1) then true
  else if 2 < n ∧ (b2 < 128 ∨ 191 < b2) then true else false
def fullG (s : List UInt8) : Bool := fullN s.length (bt s 0) (bt s 1) (bt s 2)
/-- some bytes are a beginning of a sign's, and not all of them -/
def MoreG (s : List UInt8) : Prop := s ≠ [] ∧ ∃ r, isG r = true ∧ s.length < (encC r).length ∧ s = (encC r).take s.length
theorem isG_iff {r : Int} : isG r = true ↔ 0 ≤ r ∧ r ≤ 1114111 ∧ ¬ (55296 ≤ r ∧ r ≤ 57343) := by simp [isG]; omega
theorem take1 {s : List UInt8} (h : 0 < s.length) : s.take 1 = [UInt8.ofNat (bt s 0)] := by
  obtain ⟨a, t, rfl⟩ : ∃ a t, s = a :: t := by cases s with | nil => simp at h | cons a t => exact ⟨a, t, rfl⟩
  simp [bt]
theorem take2 {s : List UInt8} (h : 1 < s.length) : s.take 2 = [UInt8.ofNat (bt s 0), UInt8.ofNat (bt s 1)] := by
  match s, h with
  | a :: b :: t, _ => simp [bt]
theorem take3 {s : List UInt8} (h : 2 < s.length) : s.take 3 = [UInt8.ofNat (bt s 0), UInt8.ofNat (bt s 1), UInt8.ofNat (bt s 2)] := by
  match s, h with
  | a :: b :: c :: t, _ => simp [bt]
theorem take4 {s : List UInt8} (h : 3 < s.length) : s.take 4 = [UInt8.ofNat (bt s 0), UInt8.ofNat (bt s 1), UInt8.ofNat (bt s 2), UInt8.ofNat (bt s 3)] := by
  match s, h with
  | a :: b :: c :: d :: t, _ => simp [bt]
theorem encN {n : Nat} : (n < 128 → encC (n : Int) = [UInt8.ofNat n]) ∧ (128 ≤ n → n < 2048 → encC (n : Int) = [UInt8.ofNat (192 + n / 64), UInt8.ofNat (128 + n % 64)])
    ∧ (2048 ≤ n → n < 65536 → encC (n : Int) = [UInt8.ofNat (224 + n / 4096), UInt8.ofNat (128 + n / 64 % 64), UInt8.ofNat (128 + n % 64)])
    ∧ (65536 ≤ n → encC (n : Int) = [UInt8.ofNat (240 + n / 262144), UInt8.ofNat (128 + n / 4096 % 64), UInt8.ofNat (128 + n / 64 % 64), UInt8.ofNat (128 + n % 64)]) := by
  unfold encC
  refine ⟨fun h => by rw [if_pos (by omega)]; rfl, fun h h2 => by rw [if_neg (by omega), if_pos (by omega)]; rfl, fun h h2 => by rw [if_neg (by omega), if_neg (by omega), if_pos (by omega)]; rfl, fun h => by rw [if_neg (by omega), if_neg (by omega), if_neg (by omega)]; rfl⟩
theorem lst2 {a b a' b' : Nat} (h1 : a = a') (h2 : b = b') : [UInt8.ofNat a, UInt8.ofNat b] = [UInt8.ofNat a', UInt8.ofNat b'] := by rw [h1, h2]
theorem lst3 {a b c a' b' c' : Nat} (h1 : a = a') (h2 : b = b') (h3 : c = c') : [UInt8.ofNat a, UInt8.ofNat b, UInt8.ofNat c] = [UInt8.ofNat a', UInt8.ofNat b', UInt8.ofNat c'] := by rw [h1, h2, h3]
theorem lst4 {a b c d a' b' c' d' : Nat} (h1 : a = a') (h2 : b = b') (h3 : c = c') (h4 : d = d') : [UInt8.ofNat a, UInt8.ofNat b, UInt8.ofNat c, UInt8.ofNat d] = [UInt8.ofNat a', UInt8.ofNat b', UInt8.ofNat c', UInt8.ofNat d'] := by rw [h1, h2, h3, h4]
/-- what is decoded is a right sign, and stands there, or it is the mark of what is none -/
theorem dec_sound {s : List UInt8} (h : s ≠ []) : decG s = (65533, 1) ∨ (isG ((decG s).1 : Nat) = true ∧ (decG s).2 ≤ s.length ∧ s.take (decG s).2 = encC ((decG s).1 : Nat)) := by
  have hp : 0 < s.length := List.length_pos_iff.2 h
  have q0 := bt_lt s 0
  have q1 := bt_lt s 1
  have q2 := bt_lt s 2
  have q3 := bt_lt s 3
  unfold decG Go.Lib.decodeN
  split
  · rename_i h0
    right
    exact ⟨isG_iff.2 (by omega), by omega, by rw [encN.1 h0]; exact take1 hp⟩
  · split
    · rename_i h0 h1
      split
      · rename_i h2
        right
        refine ⟨isG_iff.2 (by simp only; omega), by simp only; omega, ?_⟩
        simp only
        rw [encN.2.1 (by omega) (by omega), take2 (by omega)]
        exact lst2 (by omega) (by omega)
      · exact .inl rfl
    · split
      · rename_i h0 h1 h3
        split
        · rename_i h2
          right
          refine ⟨isG_iff.2 (by simp only; omega), by simp only; omega, ?_⟩
          simp only
          rw [encN.2.2.1 (by omega) (by omega), take3 (by omega)]
          exact lst3 (by omega) (by omega) (by omega)
        · exact .inl rfl
      · split
        · rename_i h0 h1 h3 h4
          split
          · rename_i h2
            right
            refine ⟨isG_iff.2 (by simp only; omega), by simp only; omega, ?_⟩
            simp only
            rw [encN.2.2.2 (by omega), take4 (by omega)]
            exact lst4 (by omega) (by omega) (by omega) (by omega)
          · exact .inl rfl
        · exact .inl rfl
end
/- Layer 1: which bytes are a beginning of a sign's, plainly. No condition. -/
section
open Go Go.RowKit
set_option maxRecDepth 100000
theorem firstT_rng (b : Nat) : (b < 128 ∧ Go.Lib.firstT b = 240) ∨ (128 ≤ b ∧ b < 194 ∧ Go.Lib.firstT b = 241) ∨ (194 ≤ b ∧ b < 224 ∧ Go.Lib.firstT b = 2) ∨ (b = 224 ∧ Go.Lib.firstT b = 19) ∨ (225 ≤ b ∧ b < 237 ∧ Go.Lib.firstT b = 3)
    ∨ (b = 237 ∧ Go.Lib.firstT b = 35) ∨ (238 ≤ b ∧ b < 240 ∧ Go.Lib.firstT b = 3) ∨ (b = 240 ∧ Go.Lib.firstT b = 52) ∨ (241 ≤ b ∧ b < 244 ∧ Go.Lib.firstT b = 4) ∨ (b = 244 ∧ Go.Lib.firstT b = 68) ∨ (245 ≤ b ∧ Go.Lib.firstT b = 241) := by
  unfold Go.Lib.firstT
  repeat' split
  all_goals omega
theorem acc0 : Go.Lib.accLo 0 = 128 ∧ Go.Lib.accHi 0 = 191 := ⟨rfl, rfl⟩
theorem acc1 : Go.Lib.accLo 1 = 160 ∧ Go.Lib.accHi 1 = 191 := ⟨rfl, rfl⟩
theorem acc2 : Go.Lib.accLo 2 = 128 ∧ Go.Lib.accHi 2 = 159 := ⟨rfl, rfl⟩
theorem acc3 : Go.Lib.accLo 3 = 144 ∧ Go.Lib.accHi 3 = 191 := ⟨rfl, rfl⟩
theorem acc4 : Go.Lib.accLo 4 = 128 ∧ Go.Lib.accHi 4 = 143 := ⟨rfl, rfl⟩
/-- not full, told by the class of the first byte -/
theorem fullN_false {n b0 b1 b2 : Nat} (h : fullN n b0 b1 b2 = false) (hn : n ≠ 0) :
    (194 ≤ b0 ∧ b0 < 224 ∧ n = 1) ∨ (224 ≤ b0 ∧ b0 < 240 ∧ (n = 1 ∨ (n = 2 ∧ 128 ≤ b1 ∧ b1 ≤ 191 ∧ (b0 = 224 → 160 ≤ b1) ∧ (b0 = 237 → b1 ≤ 159))))
    ∨ (240 ≤ b0 ∧ b0 < 245 ∧ (n = 1 ∨ ((n = 2 ∨ (n = 3 ∧ 128 ≤ b2 ∧ b2 ≤ 191)) ∧ 128 ≤ b1 ∧ b1 ≤ 191 ∧ (b0 = 240 → 144 ≤ b1) ∧ (b0 = 244 → b1 ≤ 143)))) := by
  unfold fullN at h
  rw [if_neg hn] at h
  rcases firstT_rng b0 with ⟨r, e⟩ | ⟨r, r', e⟩ | ⟨r, r', e⟩ | ⟨r, e⟩ | ⟨r, r', e⟩ | ⟨r, e⟩ | ⟨r, r', e⟩ | ⟨r, e⟩ | ⟨r, r', e⟩ | ⟨r, e⟩ | ⟨r, e⟩ <;> rw [e] at h <;>
    simp only [show 240 % 8 = 0 from rfl, show 241 % 8 = 1 from rfl, show 2 % 8 = 2 from rfl, show 19 % 8 = 3 from rfl, show 3 % 8 = 3 from rfl, show 35 % 8 = 3 from rfl, show 52 % 8 = 4 from rfl, show 4 % 8 = 4 from rfl, show 68 % 8 = 4 from rfl,
      show 2 / 16 = 0 from rfl, show 19 / 16 = 1 from rfl, show 3 / 16 = 0 from rfl, show 35 / 16 = 2 from rfl, show 52 / 16 = 3 from rfl, show 4 / 16 = 0 from rfl, show 68 / 16 = 4 from rfl, acc0.1, acc0.2, acc1.1, acc1.2, acc2.1, acc2.2, acc3.1, acc3.2, acc4.1, acc4.2] at h <;>
    (split at h
     · cases h
     · split at h
       · cases h
       · split at h
         · cases h
         · omega)
theorem lst1 {a a' : Nat} (h1 : a = a') : [UInt8.ofNat a] = [UInt8.ofNat a'] := by rw [h1]
theorem more_of_not_full {s : List UInt8} (h : s ≠ []) (hf : fullG s = false) : MoreG s := by
  have hp : 0 < s.length := List.length_pos_iff.2 h
  have key : ∀ r : Nat, isG (r : Int) = true → s.length < (encC r).length → s = (encC r).take s.length → MoreG s := fun r a b c => ⟨h, r, a, b, c⟩
  have whole : s.take s.length = s := List.take_length
  rcases fullN_false hf (by omega) with ⟨a, b, n1⟩ | ⟨a, b, n1 | ⟨n2, c1, c2, c3, c4⟩⟩ | ⟨a, b, n1 | ⟨n2, c1, c2, c3, c4⟩⟩
  · have e := encN (n := (bt s 0 - 192) * 64)
    refine key ((bt s 0 - 192) * 64) (isG_iff.2 (by omega)) (by rw [e.2.1 (by omega) (by omega), n1]; simp) ?_
    refine whole.symm.trans ?_
    rw [n1, take1 hp, e.2.1 (by omega) (by omega)]
    simp only [List.take_succ_cons, List.take_zero]
    exact lst1 (by omega)
  · by_cases h0 : bt s 0 = 224
    · have e := encN (n := 2048)
      refine key 2048 (by decide) (by rw [e.2.2.1 (by omega) (by omega), n1]; simp) ?_
      refine whole.symm.trans ?_
      rw [n1, take1 hp, h0, e.2.2.1 (by omega) (by omega)]; rfl
    · have e := encN (n := (bt s 0 - 224) * 4096)
      refine key ((bt s 0 - 224) * 4096) (isG_iff.2 (by omega)) (by rw [e.2.2.1 (by omega) (by omega), n1]; simp) ?_
      refine whole.symm.trans ?_
      rw [n1, take1 hp, e.2.2.1 (by omega) (by omega)]
      simp only [List.take_succ_cons, List.take_zero]
      exact lst1 (by omega)
  · have e := encN (n := (bt s 0 - 224) * 4096 + (bt s 1 - 128) * 64)
    refine key ((bt s 0 - 224) * 4096 + (bt s 1 - 128) * 64) (isG_iff.2 (by omega)) (by rw [e.2.2.1 (by omega) (by omega), n2]; simp) ?_
    refine whole.symm.trans ?_
    rw [n2, take2 (by omega), e.2.2.1 (by omega) (by omega)]
    simp only [List.take_succ_cons, List.take_zero]
    exact lst2 (by omega) (by omega)
  · by_cases h0 : bt s 0 = 240
    · have e := encN (n := 65536)
      refine key 65536 (by decide) (by rw [e.2.2.2 (by omega), n1]; simp) ?_
      refine whole.symm.trans ?_
      rw [n1, take1 hp, h0, e.2.2.2 (by omega)]; rfl
    · have e := encN (n := (bt s 0 - 240) * 262144)
      refine key ((bt s 0 - 240) * 262144) (isG_iff.2 (by omega)) (by rw [e.2.2.2 (by omega), n1]; simp) ?_
      refine whole.symm.trans ?_
      rw [n1, take1 hp, e.2.2.2 (by omega)]
      simp only [List.take_succ_cons, List.take_zero]
      exact lst1 (by omega)
  · rcases n2 with n2 | ⟨n3, d1, d2⟩
    · have e := encN (n := (bt s 0 - 240) * 262144 + (bt s 1 - 128) * 4096)
      refine key ((bt s 0 - 240) * 262144 + (bt s 1 - 128) * 4096) (isG_iff.2 (by omega)) (by rw [e.2.2.2 (by omega), n2]; simp) ?_
      refine whole.symm.trans ?_
      rw [n2, take2 (by omega), e.2.2.2 (by omega)]
      simp only [List.take_succ_cons, List.take_zero]
      exact lst2 (by omega) (by omega)
    · have e := encN (n := (bt s 0 - 240) * 262144 + (bt s 1 - 128) * 4096 + (bt s 2 - 128) * 64)
      refine key ((bt s 0 - 240) * 262144 + (bt s 1 - 128) * 4096 + (bt s 2 - 128) * 64) (isG_iff.2 (by omega)) (by rw [e.2.2.2 (by omega), n3]; simp) ?_
      refine whole.symm.trans ?_
      rw [n3, take3 (by omega), e.2.2.2 (by omega)]
      simp only [List.take_succ_cons, List.take_zero]
      exact lst3 (by omega) (by omega) (by omega)
end
/- Layer 5 (vt), a plain law: no command's bytes are a beginning of another one's. No condition. -/
section
open Go Go.RowKit
set_option maxRecDepth 100000
/-- the bytes of a right command, by its kind -/
inductive Shape : Cmd → List UInt8 → Prop
  | text (n : Nat) (hs : shown n = true) : Shape (1, 0, 0, n) (encC n)
  | go (a b : Nat) (ha : a ≤ 23) (hb : b ≤ 79) : Shape (2, a, b, 0) (27 :: 91 :: (digB (a + 1) ++ 59 :: (digB (b + 1) ++ [72])))
  | one (k : Nat) (hk : 3 ≤ k ∧ k ≤ 6) : Shape (k, 1, 0, 0) [27, 91, UInt8.ofNat (62 + k)]
  | move (k a : Nat) (hk : 3 ≤ k ∧ k ≤ 6) (ha : 2 ≤ a ∧ a ≤ 80) : Shape (k, a, 0, 0) (27 :: 91 :: (digB a ++ [UInt8.ofNat (62 + k)]))
  | form (k : Nat) (hk : 7 ≤ k ∧ k ≤ 12) : Shape (k, 0, 0, 0) (formB k)
theorem shape_of {c : Cmd} (h : isCmd c = true) : Shape c (bytesB c) := by
  obtain ⟨k, a, b, r⟩ := c
  have h0 := h
  simp only [isCmd] at h
  by_cases h1 : k = 1
  · subst h1
    simp at h
    obtain ⟨⟨hs, rfl⟩, rfl⟩ := h
    have hg := isG_shown hs
    have hr : 0 ≤ r := by simp [isG] at hg; omega
    obtain ⟨n, rfl⟩ := Int.eq_ofNat_of_zero_le hr
    simp only [bytesB, if_true]
    rw [encB_eq hg]; exact .text n hs
  · rw [if_neg h1] at h
    by_cases h2 : k = 2
    · subst h2
      simp at h
      obtain ⟨rfl, ⟨⟨h3, h4⟩, h5⟩, h6⟩ := h
      obtain ⟨a, rfl⟩ := Int.eq_ofNat_of_zero_le h3
      obtain ⟨b, rfl⟩ := Int.eq_ofNat_of_zero_le h5
      have : bytesB (2, (a : Int), (b : Int), 0) = 27 :: 91 :: (digB (a + 1) ++ 59 :: (digB (b + 1) ++ [72])) := by
        simp [bytesB, show ((a : Int) + 1).toNat = a + 1 by omega, show ((b : Int) + 1).toNat = b + 1 by omega]
      rw [this]; exact .go a b (by omega) (by omega)
    · rw [if_neg h2] at h
      by_cases h3 : 3 ≤ k ∧ k ≤ 6
      · rw [if_pos h3] at h
        simp at h
        obtain ⟨rfl, rfl, h4, h5⟩ := h
        obtain ⟨k, rfl⟩ := Int.eq_ofNat_of_zero_le (show 0 ≤ k by omega)
        obtain ⟨a, rfl⟩ := Int.eq_ofNat_of_zero_le (show 0 ≤ a by omega)
        have e1 : (62 + (k : Int)).toNat = 62 + k := by omega
        by_cases h6 : a = 1
        · subst h6
          have : bytesB ((k : Int), 1, 0, 0) = [27, 91, UInt8.ofNat (62 + k)] := by
            simp only [bytesB]; rw [if_neg h1, if_neg h2, if_pos (by omega), if_pos trivial, e1]; rfl
          show Shape ((k : Int), 1, 0, 0) (bytesB ((k : Int), 1, 0, 0))
          rw [this]; exact .one k (by omega)
        · have : bytesB ((k : Int), (a : Int), 0, 0) = 27 :: 91 :: (digB a ++ [UInt8.ofNat (62 + k)]) := by
            simp only [bytesB]; rw [if_neg h1, if_neg h2, if_pos (by omega), if_neg (by omega), e1]; rfl
          rw [this]; exact .move k a (by omega) (by omega)
      · rw [if_neg h3] at h
        simp at h
        obtain ⟨rfl, rfl, ⟨h4, h5⟩, rfl⟩ := h
        obtain ⟨k, rfl⟩ := Int.eq_ofNat_of_zero_le (show 0 ≤ k by omega)
        have : bytesB ((k : Int), 0, 0, 0) = formB k := by
          simp only [bytesB]; rw [if_neg h1, if_neg h2, if_neg (by omega)]
        rw [this]; exact .form k (by omega)
theorem dig_head {n : Nat} (h : n < 100) : ∃ x l, digB n = x :: l ∧ 48 ≤ x.toNat ∧ x.toNat ≤ 57 := by
  unfold digB; split <;> exact ⟨_, _, rfl, by simp; omega, by simp; omega⟩
end
/- Layer 6 (scan), plainly: the next command of some bytes, as the program finds it. No condition. -/
section
open Go Go.RowKit
set_option maxRecDepth 100000
abbrev Sc := Int × Cmd × List UInt8
abbrev dig (b : UInt8) : Prop := 48 ≤ b.toNat ∧ b.toNat ≤ 57
/-- a number of digits: 0 and the number and what stands behind ¦ 2: none ¦ 3: more is wanted -/
def numM (most : Nat) : Nat → List UInt8 → Int × Nat × List UInt8
  | _, [] => (3, 0, [])
  | n, b :: l => if dig b then (if n * 10 + (b.toNat - 48) = 0 ∨ most < n * 10 + (b.toNat - 48) then (2, 0, []) else numM most (n * 10 + (b.toNat - 48)) l) else if n = 0 then (2, 0, []) else (0, n, b :: l)
def nok (e : Int) : Sc := (e, (0, 0, 0, 0), [])
/-- behind a number, or none -/
def endM (is : Bool) (n : Nat) : List UInt8 → Sc
  | [] => nok 3
  | b :: l => if 65 ≤ b.toNat ∧ b.toNat ≤ 68 then (0, (((b.toNat - 62 : Nat) : Int), (n : Int), 0, 0), l)
    else if b.toNat ≠ 59 ∨ 24 < n ∨ is = false then nok 2
    else match numM 80 0 l with
      | (0, m, b2 :: l2) => if b2.toNat = 72 then (0, (2, (n : Int) - 1, (m : Int) - 1, 0), l2) else nok 2
      | (0, _, []) => nok 3
      | (e, _, _) => nok e
/-- behind 27 and [ -/
def ctlM : List UInt8 → Sc
  | [] => nok 3
  | b :: l => if dig b then (match numM 80 0 (b :: l) with
      | (0, n, b2 :: l2) => if n = 1 ∧ b2.toNat ≠ 59 then nok 2 else endM true n (b2 :: l2)
      | (0, _, []) => nok 3
      | (e, _, _) => nok e)
    else if b.toNat = 75 then (0, (7, 0, 0, 0), l) else if b.toNat = 74 then (0, (8, 0, 0, 0), l) else endM false 1 (b :: l)
def homeK (b : Nat) : Int := if b = 13 then 9 else if b = 10 then 10 else if b = 8 then 11 else if b = 7 then 12 else 0
def cmdM : List UInt8 → Sc
  | [] => nok 3
  | b :: l => if homeK b.toNat ≠ 0 then (0, (homeK b.toNat, 0, 0, 0), l)
    else if b.toNat = 27 then (match l with
      | [] => nok 3
      | x :: l2 => if x.toNat = 91 then ctlM l2 else nok 2)
    else if fullG (b :: l) = false then nok 3
    else if decG (b :: l) = (65533, 1) ∨ shown ((decG (b :: l)).1 : Nat) = false then nok 2
    else (0, (1, 0, 0, ((decG (b :: l)).1 : Nat)), (b :: l).drop (decG (b :: l)).2)
/-- some bytes are a beginning of a right command's, or of a sign's, and not all of them -/
def MoreC (s : List UInt8) : Prop := MoreG s ∨ (s ≠ [] ∧ ∃ c l, Shape c l ∧ c.1 ≠ 1 ∧ s.length < l.length ∧ s = l.take s.length)
/-! ### numbers -/
theorem dig_ofNat {k : Nat} (h : k < 10) : dig (UInt8.ofNat (48 + k)) ∧ (UInt8.ofNat (48 + k)).toNat - 48 = k := by
  unfold dig; have : (UInt8.ofNat (48 + k)).toNat = 48 + k := by simp; omega
  omega
theorem of_dig {b : UInt8} (h : dig b) : b = UInt8.ofNat (48 + (b.toNat - 48)) := by
  rw [← UInt8.toNat_inj]
  unfold dig at h
  simp; omega
theorem numM_cons (most n : Nat) (b : UInt8) (l : List UInt8) : numM most n (b :: l) = if dig b then (if n * 10 + (b.toNat - 48) = 0 ∨ most < n * 10 + (b.toNat - 48) then (2, 0, []) else numM most (n * 10 + (b.toNat - 48)) l) else if n = 0 then (2, 0, []) else (0, n, b :: l) := rfl
theorem num_zero {most : Nat} (hm : most ≤ 99) : ∀ (l : List UInt8), (∃ k m, 1 ≤ m ∧ m ≤ most ∧ l = (digB m).take k ∧ k ≤ (digB m).length ∧ numM most 0 l = (3, 0, []))
    ∨ (∃ m b t, 1 ≤ m ∧ m ≤ most ∧ l = digB m ++ b :: t ∧ ¬ dig b ∧ numM most 0 l = (0, m, b :: t))
    ∨ numM most 0 l = (2, 0, []) ∨ most = 0
  | [] => by
    by_cases h : most = 0
    · exact .inr (.inr (.inr h))
    · exact .inl ⟨0, 1, by omega, by omega, by simp, by simp, rfl⟩
  | b :: l => by
    by_cases h0 : most = 0
    · exact .inr (.inr (.inr h0))
    by_cases hb : dig b
    · have hb' := hb
      unfold dig at hb'
      have e1 : numM most 0 (b :: l) = if 0 * 10 + (b.toNat - 48) = 0 ∨ most < 0 * 10 + (b.toNat - 48) then (2, 0, []) else numM most (0 * 10 + (b.toNat - 48)) l := by rw [numM, if_pos hb]
      by_cases h1 : 0 * 10 + (b.toNat - 48) = 0 ∨ most < 0 * 10 + (b.toNat - 48)
      · rw [if_pos h1] at e1; exact .inr (.inr (.inl e1))
      · rw [if_neg h1] at e1
        obtain ⟨n, hn⟩ : ∃ n, n = b.toNat - 48 := ⟨_, rfl⟩
        have hbn : b = UInt8.ofNat (48 + n) := by rw [hn]; exact of_dig hb
        rw [← hn, Nat.zero_mul, Nat.zero_add] at e1
        have hd1 : digB n = [b] := by rw [digB, if_pos (by omega), hbn]
        cases l with
        | nil => exact .inl ⟨1, n, by omega, by omega, by rw [hd1]; rfl, by rw [hd1]; simp, by rw [e1, numM]⟩
        | cons b2 l2 =>
          by_cases hb2 : dig b2
          · have hb2' := hb2
            unfold dig at hb2'
            rw [numM_cons most n b2, if_pos hb2] at e1
            by_cases h2 : n * 10 + (b2.toNat - 48) = 0 ∨ most < n * 10 + (b2.toNat - 48)
            · rw [if_pos h2] at e1; exact .inr (.inr (.inl e1))
            · rw [if_neg h2] at e1
              obtain ⟨m, hm2⟩ : ∃ m, m = n * 10 + (b2.toNat - 48) := ⟨_, rfl⟩
              rw [← hm2] at e1
              have hbm : b2 = UInt8.ofNat (48 + m % 10) := by
                have := of_dig hb2
                rw [this]; congr 1; simp; omega
              have hd2 : digB m = [b, b2] := by
                rw [digB, if_neg (by omega), hbm, hbn, show m / 10 = n by omega]
              cases l2 with
              | nil => exact .inl ⟨2, m, by omega, by omega, by rw [hd2]; rfl, by rw [hd2]; simp, by rw [e1, numM]⟩
              | cons b3 l3 =>
                by_cases hb3 : dig b3
                · rw [numM_cons most m b3, if_pos hb3, if_pos (.inr (by omega))] at e1
                  exact .inr (.inr (.inl e1))
                · rw [numM_cons most m b3, if_neg hb3, if_neg (by omega)] at e1
                  exact .inr (.inl ⟨m, b3, l3, by omega, by omega, by rw [hd2]; rfl, hb3, e1⟩)
          · rw [numM_cons most n b2, if_neg hb2, if_neg (by omega)] at e1
            exact .inr (.inl ⟨n, b2, l2, by omega, by omega, by rw [hd1]; rfl, hb2, e1⟩)
    · exact .inr (.inr (.inl (by rw [numM, if_neg hb, if_pos rfl])))
theorem num_full {most m : Nat} (hm : most ≤ 99) (h1 : 1 ≤ m) (h2 : m ≤ most) {b : UInt8} {t : List UInt8} (hb : ¬ dig b) : numM most 0 (digB m ++ b :: t) = (0, m, b :: t) := by
  unfold digB
  split
  · rename_i h
    obtain ⟨d1, d2⟩ := dig_ofNat h
    rw [List.cons_append, List.nil_append, numM, if_pos d1, d2, if_neg (by omega), numM, if_neg hb, if_neg (by omega)]
    simp
  · rename_i h
    obtain ⟨d1, d2⟩ := dig_ofNat (k := m / 10) (by omega)
    obtain ⟨d3, d4⟩ := dig_ofNat (k := m % 10) (by omega)
    rw [List.cons_append, List.cons_append, List.nil_append, numM, if_pos d1, d2, if_neg (by omega), numM, if_pos d3, d4, if_neg (by omega), numM, if_neg hb, if_neg (by omega)]
    simp only [Prod.mk.injEq, and_true, true_and]; omega
theorem shape_is {c : Cmd} {l : List UInt8} (h : Shape c l) : isCmd c = true ∧ bytesB c = l := by
  cases h with
  | text n hs =>
    refine ⟨by simp [isCmd, hs], ?_⟩
    simp only [bytesB, if_true]
    exact encB_eq (isG_shown hs)
  | go a b ha hb =>
    refine ⟨by simp [isCmd]; omega, ?_⟩
    simp [bytesB, show ((a : Int) + 1).toNat = a + 1 by omega, show ((b : Int) + 1).toNat = b + 1 by omega]
  | one k hk =>
    have e1 : (62 + (k : Int)).toNat = 62 + k := by omega
    refine ⟨by simp only [isCmd]; rw [if_neg (by omega), if_neg (by omega), if_pos (by omega)]; simp, ?_⟩
    simp only [bytesB]; rw [if_neg (by omega), if_neg (by omega), if_pos (by omega), if_pos trivial, e1]; rfl
  | move k a hk ha =>
    have e1 : (62 + (k : Int)).toNat = 62 + k := by omega
    refine ⟨by simp only [isCmd]; rw [if_neg (by omega), if_neg (by omega), if_pos (by omega)]; simp; omega, ?_⟩
    simp only [bytesB]; rw [if_neg (by omega), if_neg (by omega), if_pos (by omega), if_neg (by omega), e1]; rfl
  | form k hk =>
    refine ⟨by simp only [isCmd]; rw [if_neg (by omega), if_neg (by omega), if_neg (by omega)]; simp; omega, ?_⟩
    simp only [bytesB]; rw [if_neg (by omega), if_neg (by omega), if_neg (by omega)]
end
/- Layer 6 (scan), plainly: the next command is just what the document says. No condition. -/
section
open Go Go.RowKit
set_option maxRecDepth 100000
theorem home_cases (b : Nat) : homeK b = 0 ∨ (b = 13 ∧ homeK b = 9) ∨ (b = 10 ∧ homeK b = 10) ∨ (b = 8 ∧ homeK b = 11) ∨ (b = 7 ∧ homeK b = 12) := by
  unfold homeK
  repeat' split
  all_goals simp_all
theorem cmdM_cons (b : UInt8) (l : List UInt8) : cmdM (b :: l) = if homeK b.toNat ≠ 0 then (0, (homeK b.toNat, 0, 0, 0), l)
    else if b.toNat = 27 then (match l with
      | [] => nok 3
      | x :: l2 => if x.toNat = 91 then ctlM l2 else nok 2)
    else if fullG (b :: l) = false then nok 3
    else if decG (b :: l) = (65533, 1) ∨ shown ((decG (b :: l)).1 : Nat) = false then nok 2
    else (0, (1, 0, 0, ((decG (b :: l)).1 : Nat)), (b :: l).drop (decG (b :: l)).2) := rfl
theorem cmd_27 (l : List UInt8) : cmdM (27 :: l) = match l with | [] => nok 3 | x :: l2 => if x.toNat = 91 then ctlM l2 else nok 2 := rfl
theorem cmd_esc (l : List UInt8) : cmdM (27 :: 91 :: l) = ctlM l := by
  rw [cmd_27]
  exact if_pos (by decide)
theorem ctl_dig {m : Nat} (h1 : 1 ≤ m) (h2 : m ≤ 80) {b : UInt8} {t : List UInt8} (hb : ¬ dig b) : ctlM (digB m ++ b :: t) = if m = 1 ∧ b.toNat ≠ 59 then nok 2 else endM true m (b :: t) := by
  have hn := num_full (most := 80) (by decide) h1 h2 (t := t) hb
  obtain ⟨y, ys, e, y1, y2⟩ := dig_head (n := m) (by omega)
  rw [e] at hn ⊢
  rw [List.cons_append] at hn ⊢
  rw [ctlM, if_pos ⟨y1, y2⟩, hn]; rfl
theorem end_go {m n : Nat} (h1 : m ≤ 24) (h2 : 1 ≤ n) (h3 : n ≤ 80) {b : UInt8} {t : List UInt8} (hb : ¬ dig b) : endM true m (59 :: (digB n ++ b :: t)) = if b.toNat = 72 then (0, (2, (m : Int) - 1, (n : Int) - 1, 0), t) else nok 2 := by
  rw [endM, if_neg (by decide), if_neg (by simp; omega), num_full (by decide) h2 h3 hb]; rfl
theorem more_of {c : Cmd} {l s r : List UInt8} (h : Shape c l) (hc : c.1 ≠ 1) (e : l = s ++ r) (h0 : s ≠ []) (hr : r ≠ []) : MoreC s :=
  .inr ⟨h0, c, l, h, hc, by rw [e, List.length_append]; have := List.length_pos_iff.2 hr; omega, by rw [e]; simp⟩
theorem byte_eq {a b : UInt8} (h : a.toNat = b.toNat) : a = b := UInt8.toNat_inj.1 h
theorem ctl_sound (s : List UInt8) : (∃ c l t, Shape c (27 :: 91 :: l) ∧ s = l ++ t ∧ ctlM s = (0, c, t)) ∨ (ctlM s = nok 3 ∧ MoreC (27 :: 91 :: s)) ∨ ctlM s = nok 2 := by
  cases s with
  | nil => exact .inr (.inl ⟨rfl, more_of (.form 7 (by decide)) (by decide) (r := [75]) rfl (by simp) (by simp)⟩)
  | cons b l =>
    by_cases hb : dig b
    · rcases num_zero (most := 80) (by decide) (b :: l) with ⟨k, m, m1, m2, e, hk, hn⟩ | ⟨m, b2, t, m1, m2, e, hb2, hn⟩ | hn | h0
      · refine .inr (.inl ⟨by rw [ctlM, if_pos hb, hn]; rfl, ?_⟩)
        rw [e]
        by_cases h1 : m = 1
        · subst h1
          refine more_of (.go 0 0 (by decide) (by decide)) (by decide) (r := (digB 1).drop k ++ 59 :: (digB 1 ++ [72])) ?_ (by simp) (by simp)
          rw [List.cons_append, List.cons_append, ← List.append_assoc, List.take_append_drop]
        · refine more_of (.move 3 m (by decide) (by omega)) (by show (3 : Int) ≠ 1; decide) (r := (digB m).drop k ++ [65]) ?_ (by simp) (by simp)
          rw [List.cons_append, List.cons_append, ← List.append_assoc, List.take_append_drop]; rfl
      · rw [e, ctl_dig m1 m2 hb2]
        by_cases h1 : m = 1 ∧ b2.toNat ≠ 59
        · rw [if_pos h1]; exact .inr (.inr rfl)
        · rw [if_neg h1]
          by_cases hm : 65 ≤ b2.toNat ∧ b2.toNat ≤ 68
          · have hb3 : b2 = UInt8.ofNat (62 + (b2.toNat - 62)) := by rw [← UInt8.toNat_inj]; simp; omega
            refine .inl ⟨(((b2.toNat - 62 : Nat) : Int), (m : Int), 0, 0), digB m ++ [b2], t, ?_, by simp, by rw [endM, if_pos hm]⟩
            have := Shape.move (b2.toNat - 62) m (by omega) (by omega)
            rw [← hb3] at this; exact this
          · by_cases hf : b2.toNat ≠ 59 ∨ 24 < m ∨ true = false
            · rw [endM, if_neg hm, if_pos hf]; exact .inr (.inr rfl)
            · have h59 : b2 = 59 := byte_eq (by show b2.toNat = 59; omega)
              subst h59
              have hm24 : m ≤ 24 := by omega
              rcases num_zero (most := 80) (by decide) t with ⟨k, n, n1, n2, e2, hk, hn2⟩ | ⟨n, b3, t2, n1, n2, e2, hb3, hn2⟩ | hn2 | h0
              · refine .inr (.inl ⟨by rw [endM, if_neg hm, if_neg hf, hn2]; rfl, ?_⟩)
                rw [e2]
                refine more_of (.go (m - 1) (n - 1) (by omega) (by omega)) (by show (2 : Int) ≠ 1; decide) (r := (digB n).drop k ++ [72]) ?_ (by simp) (by simp)
                rw [show m - 1 + 1 = m by omega, show n - 1 + 1 = n by omega, List.cons_append, List.cons_append, List.append_assoc, List.cons_append, ← List.append_assoc ((digB n).take k), List.take_append_drop]
              · rw [e2, end_go hm24 n1 n2 hb3]
                by_cases h72 : b3.toNat = 72
                · rw [if_pos h72]
                  have h72' : b3 = 72 := byte_eq (by show b3.toNat = 72; omega)
                  subst h72'
                  refine .inl ⟨_, digB m ++ 59 :: (digB n ++ [72]), t2, ?_, by simp, rfl⟩
                  have := Shape.go (m - 1) (n - 1) (by omega) (by omega)
                  rw [show m - 1 + 1 = m by omega, show n - 1 + 1 = n by omega, show ((m - 1 : Nat) : Int) = (m : Int) - 1 by omega, show ((n - 1 : Nat) : Int) = (n : Int) - 1 by omega] at this
                  exact this
                · rw [if_neg h72]; exact .inr (.inr rfl)
              · exact .inr (.inr (by rw [endM, if_neg hm, if_neg hf, hn2]; rfl))
              · exact absurd h0 (by decide)
      · exact .inr (.inr (by rw [ctlM, if_pos hb, hn]; rfl))
      · exact absurd h0 (by decide)
    · rw [ctlM, if_neg hb]
      by_cases h75 : b.toNat = 75
      · have : b = 75 := byte_eq (by show b.toNat = 75; omega)
        subst this
        rw [if_pos h75]
        exact .inl ⟨_, [75], l, .form 7 (by decide), rfl, rfl⟩
      · rw [if_neg h75]
        by_cases h74 : b.toNat = 74
        · have : b = 74 := byte_eq (by show b.toNat = 74; omega)
          subst this
          rw [if_pos h74]
          exact .inl ⟨_, [74], l, .form 8 (by decide), rfl, rfl⟩
        · rw [if_neg h74]
          by_cases hm : 65 ≤ b.toNat ∧ b.toNat ≤ 68
          · have hb3 : b = UInt8.ofNat (62 + (b.toNat - 62)) := by rw [← UInt8.toNat_inj]; simp; omega
            refine .inl ⟨(((b.toNat - 62 : Nat) : Int), ((1 : Nat) : Int), 0, 0), [b], l, ?_, rfl, by rw [endM, if_pos hm]⟩
            have := Shape.one (b.toNat - 62) (by omega)
            rw [← hb3] at this; exact this
          · rw [endM, if_neg hm, if_pos (.inr (.inr rfl))]; exact .inr (.inr rfl)
/-- what is found is right -/
theorem cmd_sound (s : List UInt8) (h : s ≠ []) : (∃ c l t, Shape c l ∧ s = l ++ t ∧ cmdM s = (0, c, t)) ∨ (cmdM s = nok 3 ∧ MoreC s) ∨ cmdM s = nok 2 := by
  cases s with
  | nil => exact absurd rfl h
  | cons b l =>
    rcases home_cases b.toNat with h0 | ⟨hb, hk⟩ | ⟨hb, hk⟩ | ⟨hb, hk⟩ | ⟨hb, hk⟩
    · by_cases h27 : b.toNat = 27
      · have : b = 27 := byte_eq (by show b.toNat = 27; omega)
        subst this
        cases l with
        | nil => exact .inr (.inl ⟨rfl, more_of (.form 7 (by decide)) (by decide) (r := [91, 75]) rfl (by simp) (by simp)⟩)
        | cons x l =>
          by_cases h91 : x.toNat = 91
          · have : x = 91 := byte_eq (by show x.toNat = 91; omega)
            subst this
            rw [cmd_esc]
            rcases ctl_sound l with ⟨c, m, t, h1, h2, h3⟩ | ⟨h1, h2⟩ | h1
            · exact .inl ⟨c, 27 :: 91 :: m, t, h1, by rw [h2]; rfl, h3⟩
            · exact .inr (.inl ⟨h1, h2⟩)
            · exact .inr (.inr h1)
          · refine .inr (.inr ?_)
            rw [cmd_27]
            show (if x.toNat = 91 then ctlM l else nok 2) = nok 2
            rw [if_neg h91]
      · rw [cmdM_cons, if_neg (by rw [h0]; decide), if_neg h27]
        by_cases hf : fullG (b :: l) = false
        · rw [if_pos hf]; exact .inr (.inl ⟨rfl, .inl (more_of_not_full (by simp) hf)⟩)
        · rw [if_neg hf]
          by_cases hd : decG (b :: l) = (65533, 1) ∨ shown ((decG (b :: l)).1 : Nat) = false
          · rw [if_pos hd]; exact .inr (.inr rfl)
          · rw [if_neg hd]
            rcases dec_sound (s := b :: l) (by simp) with h1 | ⟨h1, h2, h3⟩
            · exact absurd (.inl h1) hd
            · refine .inl ⟨_, encC ((decG (b :: l)).1 : Nat), _, .text _ ?_, by rw [← h3, List.take_append_drop], rfl⟩
              cases hs : shown ((decG (b :: l)).1 : Nat) with
              | true => rfl
              | false => exact absurd (.inr hs) hd
    · have : b = 13 := byte_eq (by show b.toNat = 13; omega)
      subst this
      exact .inl ⟨(9, 0, 0, 0), [13], l, .form 9 (by decide), rfl, rfl⟩
    · have : b = 10 := byte_eq (by show b.toNat = 10; omega)
      subst this
      exact .inl ⟨(10, 0, 0, 0), [10], l, .form 10 (by decide), rfl, rfl⟩
    · have : b = 8 := byte_eq (by show b.toNat = 8; omega)
      subst this
      exact .inl ⟨(11, 0, 0, 0), [8], l, .form 11 (by decide), rfl, rfl⟩
    · have : b = 7 := byte_eq (by show b.toNat = 7; omega)
      subst this
      exact .inl ⟨(12, 0, 0, 0), [7], l, .form 12 (by decide), rfl, rfl⟩
end
/- Layer 1: the library's decoding of one sign, off the kit's shelf. No condition. -/
section
open Go Go.RowKit
variable {T0 : Gh}
set_option maxRecDepth 100000
def rhoU : Go.Shelf.Ren := ⟨fun k => if k = 197 then 94 else if k = 260 then 100 else 0,
  fun k => if k = 0 then 0 else if k = 3 then 3 else if k = 4 then 4 else if k = 5 then 5 else if k = 9 then 9 else if k = 21 then 21 else if k = 46 then 105 else if k = 105 then 142 else if k = 119 then 148 else if k = 138 then 150 else if k = 139 then 151 else 0,
  fun k => if k = 3 then 2 else if k = 4 then 3 else 0⟩
theorem zero_of {P : Program} {t : TypeId} {v : Value} (h : (P.info? t).map (·.zero) = some (some v)) (w : World) : (zeroValue t).run P w = .ok v w := by
  obtain ⟨i, h1, h2⟩ := Option.map_eq_some_iff.1 h
  simp [zeroValue, typeInfo, h1, h2]
theorem utfLays : Go.Proofs.Lays.n197 Tryd.prog rhoU := by
  constructor
  all_goals first
  | kernel_rfl
  | exact agg_no (by kernel_rfl)
  | exact agg_yes (by kernel_rfl)
  | exact size_of (by kernel_rfl)
  | exact zero_of (by kernel_rfl)
theorem St.after {G : Gh} {w0 w w' : World} {M : List Own} (h : St T0 w0 G M w) (hb : Below w.heap.size w w') : St T0 w0 G M w' :=
  ⟨⟨hb.os.trans h.below.os, hb.tape.trans h.below.tape, hb.output.trans h.below.output, Nat.le_trans h.below.size hb.size, fun b hb' => (hb.block b (Nat.lt_of_lt_of_le hb' h.below.size)).trans (h.below.block b hb')⟩,
    h.tab, fun b o v hv => (World.cell?_of_block (w := w) (hb.block b (cell_lt (h.imm b o v hv)))).trans (h.imm b o v hv),
    fun m hm => m.loc (fun b hb' => hb.block b (h.foot m hm b hb').2.1) (h.own m hm), fun m hm b hb' => let ⟨a1, a2, a3⟩ := h.foot m hm b hb'; ⟨a1, Nat.lt_of_lt_of_le a2 hb.size, a3⟩, h.sep⟩
theorem acc_at {i : Nat} (h : i < 16) : accV[2 * i]? = some (.int .u8 (Go.Lib.accLo i : Nat)) ∧ accV[2 * i + 1]? = some (.int .u8 (Go.Lib.accHi i : Nat)) := by
  have h' : i = 0 ∨ i = 1 ∨ i = 2 ∨ i = 3 ∨ i = 4 ∨ i = 5 ∨ i = 6 ∨ i = 7 ∨ i = 8 ∨ i = 9 ∨ i = 10 ∨ i = 11 ∨ i = 12 ∨ i = 13 ∨ i = 14 ∨ i = 15 := by omega
  rcases h' with rfl | rfl | rfl | rfl | rfl | rfl | rfl | rfl | rfl | rfl | rfl | rfl | rfl | rfl | rfl | rfl <;> exact ⟨rfl, rfl⟩
theorem tabsU [c : TabU T0] {G : Gh} {w0 w : World} {M : List Own} (h : St T0 w0 G M w) : Go.Lib.Utf8Tabs (rhoU.g 3) (rhoU.g 4) w := by
  have key : ∀ b o v, tabU b o = some v → w.cell? ⟨b, o, none⟩ = some v := fun b o v hv => h.imm _ _ _ (h.tab _ _ _ (c.h _ _ _ hv))
  refine ⟨fun k hk => key _ _ _ ?_, fun i hi => ⟨key _ _ _ ?_, key _ _ _ ?_⟩⟩
  · show tabU 2 k = _
    unfold tabU; rw [if_pos rfl]
    simp [firstV, List.getElem?_range, hk]
  · show tabU 3 (2 * i) = _
    unfold tabU; rw [if_neg (by decide), if_pos rfl]
    exact (acc_at hi).1
  · show tabU 3 (2 * i + 1) = _
    unfold tabU; rw [if_neg (by decide), if_pos rfl]
    exact (acc_at hi).2
theorem get_bt (s : List UInt8) (j : Nat) : ((⟨s.toArray⟩ : ByteArray).get! j).toNat = bt s j := by
  show (s.toArray[j]!).toNat = bt s j
  unfold bt
  by_cases h : j < s.length
  · simp [h]
  · simp [h]; rfl
theorem decGo (s : List UInt8) (h : s ≠ []) : Go.Lib.decodeGo ⟨s.toArray⟩ = decG s := by
  have hs : (⟨s.toArray⟩ : ByteArray).size = s.length := by simp [ByteArray.size]
  have hp := List.length_pos_iff.2 h
  unfold Go.Lib.decodeGo
  rw [hs, if_neg (by omega), Go.Lib.decode_at, hs, get_bt, get_bt, get_bt, get_bt]; rfl
theorem f_decode [TabU T0] (s : List UInt8) (h : s ≠ []) : AP Tryd.prog T0 94 [SA s] (tupA [R (decG s).1, I (decG s).2]) := by
  refine ⟨⟨Tryd.f94, Tryd.func94, by decide, rfl⟩, fun w0 G F w vs hs hr => ?_⟩
  obtain ⟨v, rfl⟩ : ∃ v, vs = [v] := List.length_eq_one_iff.1 hr.len
  have hv := hr.1.eq
  subst hv
  refine (Any.utf8_DecodeRuneInString utfLays ⟨s.toArray⟩ w (tabsU hs)).mono ?_
  rintro e w' ⟨rfl, hb⟩
  rw [decGo s h]
  exact .inl ⟨_, tupA [R (decG s).1, I (decG s).2], [], G, rfl, ⟨Sub.refl _, rfl⟩, .of ⟨[_, _], rfl, Rep.va _ _, Rep.va _ _, trivial⟩, Gh.le.refl _, hs.after hb⟩
end
/- Layer 1: is the first sign whole (the library)? The program's next sign. No condition. -/
section
open Go Go.RowKit
variable {T0 : Gh} [TabU T0]
set_option maxRecDepth 100000
instance cUnF8 : UnC 148 (.array 256 5) := ⟨Tryd.underlying148⟩
instance cUnAc : UnC 151 (.array 16 150) := ⟨Tryd.underlying151⟩
instance cSzU8 : SzC 5 1 := ⟨size_of (by kernel_rfl)⟩
instance cSpU8 : SpC 5 := ⟨size_pos (n := 0) (by kernel_rfl)⟩
instance cSzAc : SzC 150 2 := ⟨size_of (by kernel_rfl)⟩
instance cAgAc : AggC 150 true := ⟨agg_yes (by kernel_rfl)⟩
theorem us_acc : Tryd.prog.underlying 150 = some (.struct #[{ name := "lo", type := 5, offset := 0, embedded := false, tag := "", pkgPath := "unicode/utf8", byteOffset := 0 }, { name := "hi", type := 5, offset := 1, embedded := false, tag := "", pkgPath := "unicode/utf8", byteOffset := 1 }]) := Tryd.underlying150
instance cFlAc0 : FldC 150 0 0 5 := ⟨_, _, us_acc, rfl, rfl, rfl⟩
instance cFlAc1 : FldC 150 1 1 5 := ⟨_, _, us_acc, rfl, rfl, rfl⟩
instance cAlAc : AlC 150 (.agg #[.int .u8 0, .int .u8 0]) [.int .u8 0, .int .u8 0] [U 0, U 0] := ⟨by kernel_rfl, rfl, rfl⟩
theorem first_at {m : Nat} (h : m < 256) : (firstV.drop (m * 1))[0]? = some (.int .u8 (Go.Lib.firstT m : Nat)) := by
  simp [firstV, List.getElem?_range, h]
section
variable {N : Fz} {Q : Post} {fr : Fr} {M M' : List Own} {ops : Array Oper} {o : Oper} {rest : List Oper} {x0 : Nat}
theorem ld_acc {x : Operand} {i : Nat} (ho : o.op = .load 150 x) (hi : i < 16) (hx : Opd T0 fr x (ipA (accV.drop (i * 2)))) : AY Tryd.prog T0 ops o fr M (aggA [U (Go.Lib.accLo i : Nat), U (Go.Lib.accHi i : Nat)]) := by
  have h1 := acc_at hi
  have h := ay_loadn (P := Tryd.prog) (ops := ops) (M := M) ho agg_ (n := 2) sz_ hx (by rw [List.length_drop, show accV.length = 32 from rfl]; omega)
  have e : (accV.drop (i * 2)).take 2 = [.int .u8 (Go.Lib.accLo i : Nat), .int .u8 (Go.Lib.accHi i : Nat)] := by
    have h' : i = 0 ∨ i = 1 ∨ i = 2 ∨ i = 3 ∨ i = 4 ∨ i = 5 ∨ i = 6 ∨ i = 7 ∨ i = 8 ∨ i = 9 ∨ i = 10 ∨ i = 11 ∨ i = 12 ∨ i = 13 ∨ i = 14 ∨ i = 15 := by omega
    rcases h' with rfl | rfl | rfl | rfl | rfl | rfl | rfl | rfl | rfl | rfl | rfl | rfl | rfl | rfl | rfl | rfl <;> rfl
  rw [e] at h; exact h
end
theorem bt_bang {s : List UInt8} {j : Nat} (h : j < s.length) : bt s j = (s[j]!).toNat := by
  rw [bt, List.getElem?_eq_getElem h, List.getElem!_eq_getElem?_getD, List.getElem?_eq_getElem h]; rfl
attribute [local irreducible] thenA inBlockA AW AL AO QY varO rowO rsA Opd OpdN vA gvA tupA aggA slA slcA ipA rpA EqK LnK IxK LdK FaK FdK
theorem f_fullX (s : List UInt8) (b : UInt8) (t : List UInt8) (hs : s = b :: t) (hl : s.length ≤ 9223372036854775807) (x sz i : Nat) (h1 : Go.Lib.firstT b.toNat = x) (h2 : x % 8 = sz) (h3 : x / 16 = i) (hi : i < 16) (hsz : sz ≤ 8)
    (hand : ∀ w, (binOp .and 5 (.int .u8 (x : Int)) (.int .u8 7)).run Tryd.prog w = .ok (.int .u8 (sz : Int)) w) (hshr : ∀ w, (binOp .shr 5 (.int .u8 (x : Int)) (.int .u64 4)).run Tryd.prog w = .ok (.int .u8 (i : Int)) w) :
    AP Tryd.prog T0 93 [SA s] (B (fullG s)) := by
  have hb0 := b.toNat_lt
  have hv : (firstV.drop (b.toNat * 1))[0]? = some (.int .u8 (x : Int)) := by rw [first_at hb0, h1]
  have g0 : s[0]? = some b := by rw [hs]; rfl
  have e0 : bt s 0 = b.toNat := bt_at g0
  have hp : 0 < s.length := by rw [hs]; simp
  have c0 : fullG s = fullN s.length b.toNat (bt s 1) (bt s 2) := by rw [fullG, e0]
  have c1 := fun h => bt_bang (s := s) (j := 1) h
  have c2 := fun h => bt_bang (s := s) (j := 2) h
  clear hs
  have c3 : fullN s.length b.toNat (bt s 1) (bt s 2) = if sz ≤ s.length then true else if 1 < s.length ∧ (bt s 1 < Go.Lib.accLo i ∨ Go.Lib.accHi i < bt s 1) then true else if 2 < s.length ∧ (bt s 2 < 128 ∨ 191 < bt s 2) then true else false := by
    unfold fullN; rw [if_neg (by omega), h1, h2, h3]
  rw [c0, c3]
  refine af_intro Tryd.func93 rfl (by decide) Tryd.ntmps93 rfl ?_
  repeat' (first
  | refine sa_ ?_ | refine s_op ?_ (hy := by first | (apply ay_indexAddr_arr rfl un_ sz_ og_first; exact ol_; omega) | exact ay_load1' rfl agg_ oo_ hv | exact ay_int rfl oo_ oo_ hand | exact ay_int rfl oo_ oo_ hshr | (apply ay_indexAddr_arr rfl un_ sz_ og_acc; exact ol_; omega) | exact ld_acc rfl hi oo_ | fail) | refine s_yg ?_ | refine s_opg ?_ (hy := by intro hk hk2; first | (apply ay_indexAddr_arr rfl un_ sz_ og_first; exact ol_; omega) | exact ay_load1' rfl agg_ oo_ hv | exact ay_int rfl oo_ oo_ hand | exact ay_int rfl oo_ oo_ hshr | (apply ay_indexAddr_arr rfl un_ sz_ og_acc; exact ol_; omega) | exact ld_acc rfl hi oo_ | fail) | refine sw_ ?_ | (refine aw_if ?_ ?_ <;> intro hb <;> try exact no_) | (refine sx_ ?_ <;> intro bb) | (refine su_ ?_ <;> intro u hu1 hu2) | fail)
  all_goals refine ⟨_, [], rs_, List.nil_sublist _, Sub.eq (congrArg B ?_), rfl⟩
  · rw [if_pos (by omega)]
  · rw [if_neg (by omega), if_pos]
    have := c1 (by omega)
    omega
  · rename_i hb1
    rw [if_neg (by omega), if_neg, if_pos]
    · have := c2 (by omega)
      omega
    · intro h
      have := c1 (by omega)
      omega
  · rename_i hb1
    rw [if_neg (by omega), if_neg, if_neg]
    · intro h
      have := c2 (by omega)
      omega
    · intro h
      have := c1 (by omega)
      omega
end
/- Layer 1: the program's next sign. No condition. -/
section
open Go Go.RowKit
variable {T0 : Gh} [TabU T0]
set_option maxRecDepth 100000
theorem f_full (s : List UInt8) (h0 : s ≠ []) (hl : s.length ≤ 9223372036854775807) : AP Tryd.prog T0 93 [SA s] (B (fullG s)) := by
  obtain ⟨b, t, hs⟩ : ∃ b t, s = b :: t := by cases s with | nil => exact absurd rfl h0 | cons b t => exact ⟨b, t, rfl⟩
  rcases firstT_rng b.toNat with ⟨r, e⟩ | ⟨r, r', e⟩ | ⟨r, r', e⟩ | ⟨r, e⟩ | ⟨r, r', e⟩ | ⟨r, e⟩ | ⟨r, r', e⟩ | ⟨r, e⟩ | ⟨r, r', e⟩ | ⟨r, e⟩ | ⟨r, e⟩
  · exact f_fullX s b t hs hl 240 0 15 e rfl rfl (by decide) (by decide) (fun _ => rfl) (fun _ => rfl)
  · exact f_fullX s b t hs hl 241 1 15 e rfl rfl (by decide) (by decide) (fun _ => rfl) (fun _ => rfl)
  · exact f_fullX s b t hs hl 2 2 0 e rfl rfl (by decide) (by decide) (fun _ => rfl) (fun _ => rfl)
  · exact f_fullX s b t hs hl 19 3 1 e rfl rfl (by decide) (by decide) (fun _ => rfl) (fun _ => rfl)
  · exact f_fullX s b t hs hl 3 3 0 e rfl rfl (by decide) (by decide) (fun _ => rfl) (fun _ => rfl)
  · exact f_fullX s b t hs hl 35 3 2 e rfl rfl (by decide) (by decide) (fun _ => rfl) (fun _ => rfl)
  · exact f_fullX s b t hs hl 3 3 0 e rfl rfl (by decide) (by decide) (fun _ => rfl) (fun _ => rfl)
  · exact f_fullX s b t hs hl 52 4 3 e rfl rfl (by decide) (by decide) (fun _ => rfl) (fun _ => rfl)
  · exact f_fullX s b t hs hl 4 4 0 e rfl rfl (by decide) (by decide) (fun _ => rfl) (fun _ => rfl)
  · exact f_fullX s b t hs hl 68 4 4 e rfl rfl (by decide) (by decide) (fun _ => rfl) (fun _ => rfl)
  · exact f_fullX s b t hs hl 241 1 15 e rfl rfl (by decide) (by decide) (fun _ => rfl) (fun _ => rfl)
/-- the next sign, how many bytes it has, and an error's number -/
def nextG (s : List UInt8) : Int × Int × Int := if s = [] then (0, 0, 6) else if fullG s = false then (0, 0, 3) else (((decG s).1 : Nat), ((decG s).2 : Nat), 0)
attribute [local irreducible] thenA inBlockA AW AL AO QY varO rowO rsA Opd OpdN vA gvA tupA aggA slA slcA ipA rpA EqK LnK IxK LdK FaK FdK
theorem f_glyphNext (s : List UInt8) (hl : s.length ≤ 9223372036854775807) : AP Tryd.prog T0 83 [SA s] (tupA [R (nextG s).1, I (nextG s).2.1, I (nextG s).2.2]) := by
  by_cases h0 : s = []
  · have c1 : True := trivial
    have c2 : True := trivial
    subst h0
    refine af_intro Tryd.func83 rfl (by decide) Tryd.ntmps83 rfl ?_
    repeat' (first
    | refine g6_ ?_ | (refine aw_if ?_ ?_ <;> intro hb <;> try exact no_) | (refine sx_ ?_ <;> intro bb) | (refine su_ ?_ <;> intro u hu1 hu2) | fail)
    all_goals first | exact ⟨_, [], rl_, List.nil_sublist _, Sub.refl _, rfl⟩ | (exfalso; simp at hb; done)
  · have c1 := f_full (T0 := T0) s h0 hl
    have c2 := f_decode (T0 := T0) s h0
    unfold nextG
    rw [if_neg h0]
    cases hf : fullG s with
    | false =>
      rw [hf] at c1
      refine af_intro Tryd.func83 rfl (by decide) Tryd.ntmps83 rfl ?_
      repeat' (first
      | refine g6_ ?_ | (refine aw_if ?_ ?_ <;> intro hb <;> try exact no_) | (refine sx_ ?_ <;> intro bb) | (refine su_ ?_ <;> intro u hu1 hu2) | fail)
      all_goals first | exact ⟨_, [], rl_, List.nil_sublist _, Sub.refl _, rfl⟩ | (exfalso; exact h0 (by simpa using hb))
    | true =>
      rw [hf] at c1
      refine af_intro Tryd.func83 rfl (by decide) Tryd.ntmps83 rfl ?_
      repeat' (first
      | refine g6_ ?_ | (refine aw_if ?_ ?_ <;> intro hb <;> try exact no_) | (refine sx_ ?_ <;> intro bb) | (refine su_ ?_ <;> intro u hu1 hu2) | fail)
      all_goals first | exact ⟨_, [], rl_, List.nil_sublist _, Sub.refl _, rfl⟩ | (exfalso; exact h0 (by simpa using hb))
end
end Go.Proofs.YtgfmjmfphmjdkaaDoor
