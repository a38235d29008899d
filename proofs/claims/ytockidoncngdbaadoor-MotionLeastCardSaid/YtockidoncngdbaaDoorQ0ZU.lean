/- Several texts in one: see the comment ahead of each. No condition. -/
import Derived.Test.YtockidoncngdbaaDoorQ0ZV
import Derived.Lib.DecodeN
import Derived.Shelf.Unicode.DecodeAny
import Derived.Test.YtockidoncngdbaaDoorQ0ZB
/- Layer 1: bytes of signs, plainly: what decoding gives, and which bytes are a beginning. No condition. -/
namespace Go.Proofs.YtockidoncngdbaaDoor
set_option linter.unusedSimpArgs false
set_option linter.unusedVariables false
set_option linter.unusedSectionVars false
set_option maxHeartbeats 4000000
open Go Go.RowKit
set_option maxRecDepth 100000
end Go.Proofs.YtockidoncngdbaaDoor
/- Layer 1: which bytes are a beginning of a sign's, plainly. No condition. -/
namespace Go.Proofs.YtockidoncngdbaaDoor
set_option linter.unusedSimpArgs false
set_option linter.unusedVariables false
set_option linter.unusedSectionVars false
set_option maxHeartbeats 4000000
open Go Go.RowKit
set_option maxRecDepth 100000
end Go.Proofs.YtockidoncngdbaaDoor
/- Layer 5 (vt), a plain law: no command's bytes are a beginning of another one's. No condition. -/
namespace Go.Proofs.YtockidoncngdbaaDoor
set_option linter.unusedSimpArgs false
set_option linter.unusedVariables false
set_option linter.unusedSectionVars false
set_option maxHeartbeats 4000000
open Go Go.RowKit
set_option maxRecDepth 100000
/-- the bytes of a right command, by its kind -/
inductive Shape : Cmd → List UInt8 → Prop
  | text (n : Nat) (hs : shown n = true) : Shape (1, 0, 0, n) (encC n)
  | go (a b : Nat) (ha : a ≤ 23) (hb : b ≤ 79) : Shape (2, a, b, 0) (27 :: 91 :: (digB (a + 1) ++ 59 :: (digB (b + 1) ++ [72])))
  | one (k : Nat) (hk : 3 ≤ k ∧ k ≤ 6) : Shape (k, 1, 0, 0) [27, 91, UInt8.ofNat (62 + k)]
  | move (k a : Nat) (hk : 3 ≤ k ∧ k ≤ 6) (ha : 2 ≤ a ∧ a ≤ 80) : Shape (k, a, 0, 0) (27 :: 91 :: (digB a ++ [UInt8.ofNat (62 + k)]))
  | form (k : Nat) (hk : 7 ≤ k ∧ k ≤ 12) : Shape (k, 0, 0, 0) (formB k)
theorem shape_of {c : Cmd} (h : isCmd c = true) : Shape c (bytesB c) := by
  obtain ⟨k, a, b, r⟩ := c
  have h0 := h
  simp only [isCmd] at h
  by_cases h1 : k = 1
  · subst h1
    simp at h
    obtain ⟨⟨hs, rfl⟩, rfl⟩ := h
    have hg := isG_shown hs
    have hr : 0 ≤ r := by simp [isG] at hg; omega
    obtain ⟨n, rfl⟩ := Int.eq_ofNat_of_zero_le hr
    simp only [bytesB, if_true]
    rw [encB_eq hg]; exact .text n hs
  · rw [if_neg h1] at h
    by_cases h2 : k = 2
    · subst h2
      simp at h
      obtain ⟨rfl, ⟨⟨h3, h4⟩, h5⟩, h6⟩ := h
      obtain ⟨a, rfl⟩ := Int.eq_ofNat_of_zero_le h3
      obtain ⟨b, rfl⟩ := Int.eq_ofNat_of_zero_le h5
      have : bytesB (2, (a : Int), (b : Int), 0) = 27 :: 91 :: (digB (a + 1) ++ 59 :: (digB (b + 1) ++ [72])) := by
        simp [bytesB, show ((a : Int) + 1).toNat = a + 1 by omega, show ((b : Int) + 1).toNat = b + 1 by omega]
      rw [this]; exact .go a b (by omega) (by omega)
    · rw [if_neg h2] at h
      by_cases h3 : 3 ≤ k ∧ k ≤ 6
      · rw [if_pos h3] at h
        simp at h
        obtain ⟨rfl, rfl, h4, h5⟩ := h
        obtain ⟨k, rfl⟩ := Int.eq_ofNat_of_zero_le (show 0 ≤ k by omega)
        obtain ⟨a, rfl⟩ := Int.eq_ofNat_of_zero_le (show 0 ≤ a by omega)
        have e1 : (62 + (k : Int)).toNat = 62 + k := by omega
        by_cases h6 : a = 1
        · subst h6
          have : bytesB ((k : Int), 1, 0, 0) = [27, 91, UInt8.ofNat (62 + k)] := by
            simp only [bytesB]; rw [if_neg h1, if_neg h2, if_pos (by omega), if_pos trivial, e1]; rfl
          show Shape ((k : Int), 1, 0, 0) (bytesB ((k : Int), 1, 0, 0))
          rw [this]; exact .one k (by omega)
        · have : bytesB ((k : Int), (a : Int), 0, 0) = 27 :: 91 :: (digB a ++ [UInt8.ofNat (62 + k)]) := by
            simp only [bytesB]; rw [if_neg h1, if_neg h2, if_pos (by omega), if_neg (by omega), e1]; rfl
          rw [this]; exact .move k a (by omega) (by omega)
      · rw [if_neg h3] at h
        simp at h
        obtain ⟨rfl, rfl, ⟨h4, h5⟩, rfl⟩ := h
        obtain ⟨k, rfl⟩ := Int.eq_ofNat_of_zero_le (show 0 ≤ k by omega)
        have : bytesB ((k : Int), 0, 0, 0) = formB k := by
          simp only [bytesB]; rw [if_neg h1, if_neg h2, if_neg (by omega)]
        rw [this]; exact .form k (by omega)
end Go.Proofs.YtockidoncngdbaaDoor
/- Layer 6 (scan), plainly: the next command of some bytes, as the program finds it. No condition. -/
namespace Go.Proofs.YtockidoncngdbaaDoor
set_option linter.unusedSimpArgs false
set_option linter.unusedVariables false
set_option linter.unusedSectionVars false
set_option maxHeartbeats 4000000
open Go Go.RowKit
set_option maxRecDepth 100000
/-! ### numbers -/
end Go.Proofs.YtockidoncngdbaaDoor
/- Layer 6 (scan), plainly: the next command is just what the document says. No condition. -/
namespace Go.Proofs.YtockidoncngdbaaDoor
set_option linter.unusedSimpArgs false
set_option linter.unusedVariables false
set_option linter.unusedSectionVars false
set_option maxHeartbeats 4000000
open Go Go.RowKit
set_option maxRecDepth 100000
end Go.Proofs.YtockidoncngdbaaDoor
/- Layer 1: the library's decoding of one sign, off the kit's shelf. No condition. -/
namespace Go.Proofs.YtockidoncngdbaaDoor
set_option linter.unusedSimpArgs false
set_option linter.unusedVariables false
set_option linter.unusedSectionVars false
set_option maxHeartbeats 4000000
open Go Go.RowKit
variable {T0 : Gh}
set_option maxRecDepth 100000
end Go.Proofs.YtockidoncngdbaaDoor
/- Layer 1: is the first sign whole (the library)? The program's next sign. No condition. -/
namespace Go.Proofs.YtockidoncngdbaaDoor
set_option linter.unusedSimpArgs false
set_option linter.unusedVariables false
set_option linter.unusedSectionVars false
set_option maxHeartbeats 4000000
open Go Go.RowKit
variable {T0 : Gh} [TabU T0]
set_option maxRecDepth 100000
section
variable {N : Fz} {Q : Post} {fr : Fr} {M M' : List Own} {ops : Array Oper} {o : Oper} {rest : List Oper} {x0 : Nat}
end
attribute [local irreducible] thenA inBlockA AW AL AO QY varO rowO rsA Opd OpdN vA gvA tupA aggA slA slcA ipA rpA EqK LnK IxK LdK FaK FdK
end Go.Proofs.YtockidoncngdbaaDoor
/- Layer 1: the program's next sign. No condition. -/
namespace Go.Proofs.YtockidoncngdbaaDoor
set_option linter.unusedSimpArgs false
set_option linter.unusedVariables false
set_option linter.unusedSectionVars false
set_option maxHeartbeats 4000000
open Go Go.RowKit
variable {T0 : Gh} [TabU T0]
set_option maxRecDepth 100000
attribute [local irreducible] thenA inBlockA AW AL AO QY varO rowO rsA Opd OpdN vA gvA tupA aggA slA slcA ipA rpA EqK LnK IxK LdK FaK FdK
end Go.Proofs.YtockidoncngdbaaDoor
