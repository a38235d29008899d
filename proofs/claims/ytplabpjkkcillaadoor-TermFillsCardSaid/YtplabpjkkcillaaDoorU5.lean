/- Layer 1: the program's next sign. No condition. -/
import Derived.Test.YtplabpjkkcillaaDoorU4
namespace Go.Proofs.YtplabpjkkcillaaDoor
set_option linter.unusedSimpArgs false
set_option linter.unusedVariables false
set_option linter.unusedSectionVars false
set_option maxHeartbeats 4000000
open Go Go.RowKit
variable {T0 : Gh} [TabU T0]
set_option maxRecDepth 100000
theorem f_full (s : List UInt8) (h0 : s ≠ []) (hl : s.length ≤ 9223372036854775807) : AP Tryd.prog T0 102 [SA s] (B (fullG s)) := by
  obtain ⟨b, t, hs⟩ : ∃ b t, s = b :: t := by cases s with | nil => exact absurd rfl h0 | cons b t => exact ⟨b, t, rfl⟩
  rcases firstT_rng b.toNat with ⟨r, e⟩ | ⟨r, r', e⟩ | ⟨r, r', e⟩ | ⟨r, e⟩ | ⟨r, r', e⟩ | ⟨r, e⟩ | ⟨r, r', e⟩ | ⟨r, e⟩ | ⟨r, r', e⟩ | ⟨r, e⟩ | ⟨r, e⟩
  · exact f_fullX s b t hs hl 240 0 15 e rfl rfl (by decide) (by decide) (fun _ => rfl) (fun _ => rfl)
  · exact f_fullX s b t hs hl 241 1 15 e rfl rfl (by decide) (by decide) (fun _ => rfl) (fun _ => rfl)
  · exact f_fullX s b t hs hl 2 2 0 e rfl rfl (by decide) (by decide) (fun _ => rfl) (fun _ => rfl)
  · exact f_fullX s b t hs hl 19 3 1 e rfl rfl (by decide) (by decide) (fun _ => rfl) (fun _ => rfl)
  · exact f_fullX s b t hs hl 3 3 0 e rfl rfl (by decide) (by decide) (fun _ => rfl) (fun _ => rfl)
  · exact f_fullX s b t hs hl 35 3 2 e rfl rfl (by decide) (by decide) (fun _ => rfl) (fun _ => rfl)
  · exact f_fullX s b t hs hl 3 3 0 e rfl rfl (by decide) (by decide) (fun _ => rfl) (fun _ => rfl)
  · exact f_fullX s b t hs hl 52 4 3 e rfl rfl (by decide) (by decide) (fun _ => rfl) (fun _ => rfl)
  · exact f_fullX s b t hs hl 4 4 0 e rfl rfl (by decide) (by decide) (fun _ => rfl) (fun _ => rfl)
  · exact f_fullX s b t hs hl 68 4 4 e rfl rfl (by decide) (by decide) (fun _ => rfl) (fun _ => rfl)
  · exact f_fullX s b t hs hl 241 1 15 e rfl rfl (by decide) (by decide) (fun _ => rfl) (fun _ => rfl)
/-- the next sign, how many bytes it has, and an error's number -/
def nextG (s : List UInt8) : Int × Int × Int := if s = [] then (0, 0, 6) else if fullG s = false then (0, 0, 3) else (((decG s).1 : Nat), ((decG s).2 : Nat), 0)
attribute [local irreducible] thenA inBlockA AW AL AO QY varO rowO rsA Opd OpdN vA gvA tupA aggA slA slcA ipA rpA EqK LnK IxK LdK FaK FdK
theorem f_glyphNext (s : List UInt8) (hl : s.length ≤ 9223372036854775807) : AP Tryd.prog T0 81 [SA s] (tupA [R (nextG s).1, I (nextG s).2.1, I (nextG s).2.2]) := by
  by_cases h0 : s = []
  · have c1 : True := trivial
    have c2 : True := trivial
    subst h0
    refine af_intro Tryd.func81 rfl (by decide) Tryd.ntmps81 rfl ?_
    repeat' (first
    | fail
    | refine s_y ?_
      | refine c_ ?_
      | (refine aw_if ?_ ?_ <;> intro hb <;> try (exfalso; first | assumption | omega | (simp only [or_self, and_self, not_true_eq_false, not_false_eq_true, or_false, false_or, and_false, false_and, true_and, and_true] at hb; first | done | omega)))
      | refine s_call ?_ (c := by first | exact c1 | exact c2 | fail)
      | refine s_op ?_ (hy := by first | fail | fail)
      | refine s_yg ?_
      | refine s_callg ?_ (c := by intro hk hk2; first | exact c1 | exact c2 | fail)
      | refine s_opg ?_ (hy := by intro hk hk2; first | fail | fail)
      | refine s_skip ?_
      | ((first | refine w_alloc ?_ | refine w_box ?_) <;> intro bb)
      | ((first | refine w_emp ?_ | refine w_make ?_ | refine w_app ?_) <;> intro u hu1 hu2)
      | refine w_stv ?_ | refine w_str ?_ | refine w_cpr ?_ | refine w_cps ?_
      | refine al_last (by kernel_rfl) ?_
    | fail)
    all_goals first | exact ⟨_, [], rl_, List.nil_sublist _, Sub.refl _, rfl⟩ | (exfalso; simp at hb; done)
  · have c1 := f_full (T0 := T0) s h0 hl
    have c2 := f_decode (T0 := T0) s h0
    unfold nextG
    rw [if_neg h0]
    cases hf : fullG s with
    | false =>
      rw [hf] at c1
      refine af_intro Tryd.func81 rfl (by decide) Tryd.ntmps81 rfl ?_
      repeat' (first
      | fail
      | refine s_y ?_
        | refine c_ ?_
        | (refine aw_if ?_ ?_ <;> intro hb <;> try (exfalso; first | assumption | omega | (simp only [or_self, and_self, not_true_eq_false, not_false_eq_true, or_false, false_or, and_false, false_and, true_and, and_true] at hb; first | done | omega)))
        | refine s_call ?_ (c := by first | exact c1 | exact c2 | fail)
        | refine s_op ?_ (hy := by first | fail | fail)
        | refine s_yg ?_
        | refine s_callg ?_ (c := by intro hk hk2; first | exact c1 | exact c2 | fail)
        | refine s_opg ?_ (hy := by intro hk hk2; first | fail | fail)
        | refine s_skip ?_
        | ((first | refine w_alloc ?_ | refine w_box ?_) <;> intro bb)
        | ((first | refine w_emp ?_ | refine w_make ?_ | refine w_app ?_) <;> intro u hu1 hu2)
        | refine w_stv ?_ | refine w_str ?_ | refine w_cpr ?_ | refine w_cps ?_
        | refine al_last (by kernel_rfl) ?_
      | fail)
      all_goals first | exact ⟨_, [], rl_, List.nil_sublist _, Sub.refl _, rfl⟩ | (exfalso; exact h0 (by simpa using hb))
    | true =>
      rw [hf] at c1
      refine af_intro Tryd.func81 rfl (by decide) Tryd.ntmps81 rfl ?_
      repeat' (first
      | fail
      | refine s_y ?_
        | refine c_ ?_
        | (refine aw_if ?_ ?_ <;> intro hb <;> try (exfalso; first | assumption | omega | (simp only [or_self, and_self, not_true_eq_false, not_false_eq_true, or_false, false_or, and_false, false_and, true_and, and_true] at hb; first | done | omega)))
        | refine s_call ?_ (c := by first | exact c1 | exact c2 | fail)
        | refine s_op ?_ (hy := by first | fail | fail)
        | refine s_yg ?_
        | refine s_callg ?_ (c := by intro hk hk2; first | exact c1 | exact c2 | fail)
        | refine s_opg ?_ (hy := by intro hk hk2; first | fail | fail)
        | refine s_skip ?_
        | ((first | refine w_alloc ?_ | refine w_box ?_) <;> intro bb)
        | ((first | refine w_emp ?_ | refine w_make ?_ | refine w_app ?_) <;> intro u hu1 hu2)
        | refine w_stv ?_ | refine w_str ?_ | refine w_cpr ?_ | refine w_cps ?_
        | refine al_last (by kernel_rfl) ?_
      | fail)
      all_goals first | exact ⟨_, [], rl_, List.nil_sublist _, Sub.refl _, rfl⟩ | (exfalso; exact h0 (by simpa using hb))
end Go.Proofs.YtplabpjkkcillaaDoor
