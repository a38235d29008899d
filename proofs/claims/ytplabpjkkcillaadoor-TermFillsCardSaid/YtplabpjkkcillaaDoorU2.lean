/- Layer 1: which bytes are a beginning of a sign's, plainly. No condition. -/
import Derived.Test.YtplabpjkkcillaaDoorU1
namespace Go.Proofs.YtplabpjkkcillaaDoor
set_option linter.unusedSimpArgs false
set_option linter.unusedVariables false
set_option linter.unusedSectionVars false
set_option maxHeartbeats 4000000
open Go Go.RowKit
set_option maxRecDepth 100000
theorem firstT_rng (b : Nat) : (b < 128 ∧ Go.Lib.firstT b = 240) ∨ (128 ≤ b ∧ b < 194 ∧ Go.Lib.firstT b = 241) ∨ (194 ≤ b ∧ b < 224 ∧ Go.Lib.firstT b = 2) ∨ (b = 224 ∧ Go.Lib.firstT b = 19) ∨ (225 ≤ b ∧ b < 237 ∧ Go.Lib.firstT b = 3)
    ∨ (b = 237 ∧ Go.Lib.firstT b = 35) ∨ (238 ≤ b ∧ b < 240 ∧ Go.Lib.firstT b = 3) ∨ (b = 240 ∧ Go.Lib.firstT b = 52) ∨ (241 ≤ b ∧ b < 244 ∧ Go.Lib.firstT b = 4) ∨ (b = 244 ∧ Go.Lib.firstT b = 68) ∨ (245 ≤ b ∧ Go.Lib.firstT b = 241) := by
  unfold Go.Lib.firstT
  repeat' split
  all_goals omega
theorem acc0 : Go.Lib.accLo 0 = 128 ∧ Go.Lib.accHi 0 = 191 := ⟨rfl, rfl⟩
theorem acc1 : Go.Lib.accLo 1 = 160 ∧ Go.Lib.accHi 1 = 191 := ⟨rfl, rfl⟩
theorem acc2 : Go.Lib.accLo 2 = 128 ∧ Go.Lib.accHi 2 = 159 := ⟨rfl, rfl⟩
theorem acc3 : Go.Lib.accLo 3 = 144 ∧ Go.Lib.accHi 3 = 191 := ⟨rfl, rfl⟩
theorem acc4 : Go.Lib.accLo 4 = 128 ∧ Go.Lib.accHi 4 = 143 := ⟨rfl, rfl⟩
/-- not full, told by the class of the first byte -/
theorem fullN_false {n b0 b1 b2 : Nat} (h : fullN n b0 b1 b2 = false) (hn : n ≠ 0) :
    (194 ≤ b0 ∧ b0 < 224 ∧ n = 1) ∨ (224 ≤ b0 ∧ b0 < 240 ∧ (n = 1 ∨ (n = 2 ∧ 128 ≤ b1 ∧ b1 ≤ 191 ∧ (b0 = 224 → 160 ≤ b1) ∧ (b0 = 237 → b1 ≤ 159))))
    ∨ (240 ≤ b0 ∧ b0 < 245 ∧ (n = 1 ∨ ((n = 2 ∨ (n = 3 ∧ 128 ≤ b2 ∧ b2 ≤ 191)) ∧ 128 ≤ b1 ∧ b1 ≤ 191 ∧ (b0 = 240 → 144 ≤ b1) ∧ (b0 = 244 → b1 ≤ 143)))) := by
  unfold fullN at h
  rw [if_neg hn] at h
  rcases firstT_rng b0 with ⟨r, e⟩ | ⟨r, r', e⟩ | ⟨r, r', e⟩ | ⟨r, e⟩ | ⟨r, r', e⟩ | ⟨r, e⟩ | ⟨r, r', e⟩ | ⟨r, e⟩ | ⟨r, r', e⟩ | ⟨r, e⟩ | ⟨r, e⟩ <;> rw [e] at h <;>
    simp only [show 240 % 8 = 0 from rfl, show 241 % 8 = 1 from rfl, show 2 % 8 = 2 from rfl, show 19 % 8 = 3 from rfl, show 3 % 8 = 3 from rfl, show 35 % 8 = 3 from rfl, show 52 % 8 = 4 from rfl, show 4 % 8 = 4 from rfl, show 68 % 8 = 4 from rfl,
      show 2 / 16 = 0 from rfl, show 19 / 16 = 1 from rfl, show 3 / 16 = 0 from rfl, show 35 / 16 = 2 from rfl, show 52 / 16 = 3 from rfl, show 4 / 16 = 0 from rfl, show 68 / 16 = 4 from rfl, acc0.1, acc0.2, acc1.1, acc1.2, acc2.1, acc2.2, acc3.1, acc3.2, acc4.1, acc4.2] at h <;>
    (split at h
     · cases h
     · split at h
       · cases h
       · split at h
         · cases h
         · omega)
theorem fullN_true {n b0 b1 b2 : Nat} (h : (194 ≤ b0 ∧ b0 < 224 ∧ n = 1) ∨ (224 ≤ b0 ∧ b0 < 240 ∧ (n = 1 ∨ (n = 2 ∧ 128 ≤ b1 ∧ b1 ≤ 191 ∧ (b0 = 224 → 160 ≤ b1) ∧ (b0 = 237 → b1 ≤ 159))))
    ∨ (240 ≤ b0 ∧ b0 < 245 ∧ (n = 1 ∨ ((n = 2 ∨ (n = 3 ∧ 128 ≤ b2 ∧ b2 ≤ 191)) ∧ 128 ≤ b1 ∧ b1 ≤ 191 ∧ (b0 = 240 → 144 ≤ b1) ∧ (b0 = 244 → b1 ≤ 143))))) : fullN n b0 b1 b2 = false := by
  unfold fullN
  rw [if_neg (by omega)]
  rcases firstT_rng b0 with ⟨r, e⟩ | ⟨r, r', e⟩ | ⟨r, r', e⟩ | ⟨r, e⟩ | ⟨r, r', e⟩ | ⟨r, e⟩ | ⟨r, r', e⟩ | ⟨r, e⟩ | ⟨r, r', e⟩ | ⟨r, e⟩ | ⟨r, e⟩ <;> rw [e] <;>
    simp only [show 240 % 8 = 0 from rfl, show 241 % 8 = 1 from rfl, show 2 % 8 = 2 from rfl, show 19 % 8 = 3 from rfl, show 3 % 8 = 3 from rfl, show 35 % 8 = 3 from rfl, show 52 % 8 = 4 from rfl, show 4 % 8 = 4 from rfl, show 68 % 8 = 4 from rfl,
      show 2 / 16 = 0 from rfl, show 19 / 16 = 1 from rfl, show 3 / 16 = 0 from rfl, show 35 / 16 = 2 from rfl, show 52 / 16 = 3 from rfl, show 4 / 16 = 0 from rfl, show 68 / 16 = 4 from rfl, acc0.1, acc0.2, acc1.1, acc1.2, acc2.1, acc2.2, acc3.1, acc3.2, acc4.1, acc4.2] <;>
    first
    | (exfalso; omega)
    | (rw [if_neg (by omega), if_neg (by omega), if_neg (by omega)])
theorem lst1 {a a' : Nat} (h1 : a = a') : [UInt8.ofNat a] = [UInt8.ofNat a'] := by rw [h1]
theorem more_of_not_full {s : List UInt8} (h : s ≠ []) (hf : fullG s = false) : MoreG s := by
  have hp : 0 < s.length := List.length_pos_iff.2 h
  have key : ∀ r : Nat, isG (r : Int) = true → s.length < (encC r).length → s = (encC r).take s.length → MoreG s := fun r a b c => ⟨h, r, a, b, c⟩
  have whole : s.take s.length = s := List.take_length
  rcases fullN_false hf (by omega) with ⟨a, b, n1⟩ | ⟨a, b, n1 | ⟨n2, c1, c2, c3, c4⟩⟩ | ⟨a, b, n1 | ⟨n2, c1, c2, c3, c4⟩⟩
  · have e := encN (n := (bt s 0 - 192) * 64)
    refine key ((bt s 0 - 192) * 64) (isG_iff.2 (by omega)) (by rw [e.2.1 (by omega) (by omega), n1]; simp) ?_
    refine whole.symm.trans ?_
    rw [n1, take1 hp, e.2.1 (by omega) (by omega)]
    simp only [List.take_succ_cons, List.take_zero]
    exact lst1 (by omega)
  · by_cases h0 : bt s 0 = 224
    · have e := encN (n := 2048)
      refine key 2048 (by decide) (by rw [e.2.2.1 (by omega) (by omega), n1]; simp) ?_
      refine whole.symm.trans ?_
      rw [n1, take1 hp, h0, e.2.2.1 (by omega) (by omega)]; rfl
    · have e := encN (n := (bt s 0 - 224) * 4096)
      refine key ((bt s 0 - 224) * 4096) (isG_iff.2 (by omega)) (by rw [e.2.2.1 (by omega) (by omega), n1]; simp) ?_
      refine whole.symm.trans ?_
      rw [n1, take1 hp, e.2.2.1 (by omega) (by omega)]
      simp only [List.take_succ_cons, List.take_zero]
      exact lst1 (by omega)
  · have e := encN (n := (bt s 0 - 224) * 4096 + (bt s 1 - 128) * 64)
    refine key ((bt s 0 - 224) * 4096 + (bt s 1 - 128) * 64) (isG_iff.2 (by omega)) (by rw [e.2.2.1 (by omega) (by omega), n2]; simp) ?_
    refine whole.symm.trans ?_
    rw [n2, take2 (by omega), e.2.2.1 (by omega) (by omega)]
    simp only [List.take_succ_cons, List.take_zero]
    exact lst2 (by omega) (by omega)
  · by_cases h0 : bt s 0 = 240
    · have e := encN (n := 65536)
      refine key 65536 (by decide) (by rw [e.2.2.2 (by omega), n1]; simp) ?_
      refine whole.symm.trans ?_
      rw [n1, take1 hp, h0, e.2.2.2 (by omega)]; rfl
    · have e := encN (n := (bt s 0 - 240) * 262144)
      refine key ((bt s 0 - 240) * 262144) (isG_iff.2 (by omega)) (by rw [e.2.2.2 (by omega), n1]; simp) ?_
      refine whole.symm.trans ?_
      rw [n1, take1 hp, e.2.2.2 (by omega)]
      simp only [List.take_succ_cons, List.take_zero]
      exact lst1 (by omega)
  · rcases n2 with n2 | ⟨n3, d1, d2⟩
    · have e := encN (n := (bt s 0 - 240) * 262144 + (bt s 1 - 128) * 4096)
      refine key ((bt s 0 - 240) * 262144 + (bt s 1 - 128) * 4096) (isG_iff.2 (by omega)) (by rw [e.2.2.2 (by omega), n2]; simp) ?_
      refine whole.symm.trans ?_
      rw [n2, take2 (by omega), e.2.2.2 (by omega)]
      simp only [List.take_succ_cons, List.take_zero]
      exact lst2 (by omega) (by omega)
    · have e := encN (n := (bt s 0 - 240) * 262144 + (bt s 1 - 128) * 4096 + (bt s 2 - 128) * 64)
      refine key ((bt s 0 - 240) * 262144 + (bt s 1 - 128) * 4096 + (bt s 2 - 128) * 64) (isG_iff.2 (by omega)) (by rw [e.2.2.2 (by omega), n3]; simp) ?_
      refine whole.symm.trans ?_
      rw [n3, take3 (by omega), e.2.2.2 (by omega)]
      simp only [List.take_succ_cons, List.take_zero]
      exact lst3 (by omega) (by omega) (by omega)
theorem not_full_of_more {s : List UInt8} (h : MoreG s) : fullG s = false := by
  obtain ⟨h0, r, hr, hl, he⟩ := h
  have hp : 0 < s.length := List.length_pos_iff.2 h0
  obtain ⟨n, rfl, hn, hs, hc⟩ := enc_cases hr
  have b : ∀ j, j < s.length → bt s j = bt (encC (n : Int)) j := fun j hj => by
    have : s[j]? = (encC (n : Int))[j]? := by
      rw [he, List.getElem?_take, if_pos hj]
    rw [bt, bt, this]
  apply fullN_true
  rcases hc with ⟨h1, e⟩ | ⟨h1, h2, e⟩ | ⟨h1, h2, e⟩ | ⟨h1, e⟩ <;> rw [e] at hl b
  · simp only [List.length_cons, List.length_nil] at hl; omega
  · simp only [List.length_cons, List.length_nil] at hl
    have b0 := b 0 (by omega)
    rw [bt_cons0, ofNat_bt (by omega)] at b0
    omega
  · simp only [List.length_cons, List.length_nil] at hl
    have b0 := b 0 (by omega)
    rw [bt_cons0, ofNat_bt (by omega)] at b0
    by_cases hl2 : s.length = 2
    · have b1 := b 1 (by omega)
      rw [bt_cons1, ofNat_bt (by omega)] at b1
      omega
    · omega
  · simp only [List.length_cons, List.length_nil] at hl
    have b0 := b 0 (by omega)
    rw [bt_cons0, ofNat_bt (by omega)] at b0
    by_cases hl2 : s.length = 1
    · omega
    · have b1 := b 1 (by omega)
      rw [bt_cons1, ofNat_bt (by omega)] at b1
      by_cases hl3 : s.length = 2
      · omega
      · have b2 := b 2 (by omega)
        rw [bt_cons2, ofNat_bt (by omega)] at b2
        omega
/-- a right sign's bytes in front: full -/
theorem full_enc {r : Int} (h : isG r = true) (t : List UInt8) : fullG (encC r ++ t) = true := by
  cases hf : fullG (encC r ++ t) with
  | true => rfl
  | false =>
    exfalso
    have hl := encC_len r
    obtain ⟨h0, r', hr', hl', he⟩ := more_of_not_full (by intro e; rw [List.append_eq_nil_iff] at e; rw [e.1] at hl; simp at hl) hf
    have d1 := dec_enc h []
    have d2 := dec_enc hr' []
    have e2 : encC r' = (encC r ++ t) ++ (encC r').drop (encC r ++ t).length := by
      conv => lhs; rw [← List.take_append_drop (encC r ++ t).length (encC r'), ← he]
    have d3 := dec_enc h (t ++ (encC r').drop (encC r ++ t).length)
    rw [← List.append_assoc, ← e2] at d3
    rw [List.append_nil] at d2
    have : (encC r).length = (encC r').length := by rw [← d3.2, ← d2.2]
    rw [List.length_append] at hl'
    omega
end Go.Proofs.YtplabpjkkcillaaDoor
