/- Layer 6 (scan): the reference's more, Next and All. No condition. -/
import Derived.Test.YtplabpjkkcillaaDoorR6
namespace Go.Proofs.YtplabpjkkcillaaDoor
set_option linter.unusedSimpArgs false
set_option linter.unusedVariables false
set_option linter.unusedSectionVars false
set_option maxHeartbeats 4000000
open Go Go.RowKit
variable {T0 : Gh}
set_option maxRecDepth 200000
def strT : Ty (List UInt8) := { enc := fun l => [.string ⟨l.toArray⟩], k := 1, len := fun _ => rfl }
theorem el_str : El Tryd.prog strT 9 [] 16 SA := ⟨⟨.string ⟨#[]⟩, by kernel_rfl, rfl⟩, by decide, fun x v hv => by simp [strT] at hv; subst hv; rfl, .inr ⟨agg_no (by kernel_rfl), rfl, fun x v h => by simp [strT] at h; rw [← h]⟩⟩
instance cElStr : ElC 9 strT [] 16 SA := ⟨el_str⟩
theorem un_strs : Tryd.prog.underlying 102 = some (.slice 9) := by kernel_rfl
instance cUnStrs : UnC 102 (.slice 9) := ⟨un_strs⟩
attribute [local irreducible] thenA inBlockA AW AL AO QY varO rowO rsA Opd OpdN vA gvA tupA aggA slA slcA ipA rpA EqK LnK IxK LdK FaK FdK
theorem f_more06 (s : List UInt8) (h0 : s ≠ []) (hs : s.length ≤ 80000) : AP Tryd.prog T0 43 [SA s] (B (decide ((cmdM s).1 = 3))) := by
  have c1 := f_ref01Next (T0 := T0) s (by omega)
  have c2 : True := trivial
  have hm := more_iff h0
  cases hf : fullG s with
  | false =>
    have e : nextG s = (0, 0, 3) := by rw [nextG, if_neg h0, if_pos hf]
    rw [e] at c1
    have ht : decide ((cmdM s).1 = 3) = true := decide_eq_true (hm.2 (.inl (more_of_not_full h0 hf)))
    rw [ht]
    refine af_intro Tryd.func43 rfl (by decide) Tryd.ntmps43 rfl ?_
    repeat' (first
    | fail
    | refine s_y ?_
      | refine c_ ?_
      | (refine aw_if ?_ ?_ <;> intro hb <;> try (exfalso; first | assumption | omega | (simp only [or_self, and_self, not_true_eq_false, not_false_eq_true, or_false, false_or, and_false, false_and, true_and, and_true] at hb; first | done | omega)))
      | refine s_call ?_ (c := by first | exact c1 | exact c2 | fail)
      | refine s_op ?_ (hy := by first | exact AY.sub (ay_buildSlice (T := strT) [[91, 65], [65], [59, 49, 72], [49, 72], [72]] rfl un_strs el_str rfl (by decide) ⟨_, pxg_, rfl⟩) sub_slc | fail)
      | refine s_yg ?_
      | refine s_callg ?_ (c := by intro hk hk2; first | exact c1 | exact c2 | fail)
      | refine s_opg ?_ (hy := by intro hk hk2; first | exact AY.sub (ay_buildSlice (T := strT) [[91, 65], [65], [59, 49, 72], [49, 72], [72]] rfl un_strs el_str rfl (by decide) ⟨_, pxg_, rfl⟩) sub_slc | fail)
      | refine s_skip ?_
      | ((first | refine w_alloc ?_ | refine w_box ?_) <;> intro bb)
      | ((first | refine w_emp ?_ | refine w_make ?_ | refine w_app ?_) <;> intro u hu1 hu2)
      | refine w_stv ?_ | refine w_str ?_ | refine w_cpr ?_ | refine w_cps ?_
      | refine al_last (by kernel_rfl) ?_
    | fail)
    all_goals first | (exfalso; omega) | exact ⟨_, [], rl_, List.nil_sublist _, Sub.refl _, rfl⟩
  | true =>
    obtain ⟨r, n, e⟩ : ∃ r n, nextG s = (r, n, 0) := ⟨((decG s).1 : Nat), ((decG s).2 : Nat), by rw [nextG, if_neg h0, if_neg (by rw [hf]; decide)]⟩
    rw [e] at c1
    have hme := fun h => more_ends (s := s) h hf
    obtain ⟨x0, hx0⟩ : ∃ x, s[0]? = some x := by cases s with | nil => exact absurd rfl h0 | cons b l => exact ⟨b, rfl⟩
    have hb0 := bt_at hx0
    have hx2 := x0.toNat_lt
    refine af_intro Tryd.func43 rfl (by decide) Tryd.ntmps43 rfl ?_
    repeat' (first
    | fail
    | refine s_y ?_
      | refine c_ ?_
      | (refine aw_if ?_ ?_ <;> intro hb <;> try (exfalso; first | assumption | omega | (simp only [or_self, and_self, not_true_eq_false, not_false_eq_true, or_false, false_or, and_false, false_and, true_and, and_true] at hb; first | done | omega)))
      | refine s_call ?_ (c := by first | exact c1 | exact c2 | fail)
      | refine s_op ?_ (hy := by first | exact AY.sub (ay_buildSlice (T := strT) [[91, 65], [65], [59, 49, 72], [49, 72], [72]] rfl un_strs el_str rfl (by decide) ⟨_, pxg_, rfl⟩) sub_slc | fail)
      | refine s_yg ?_
      | refine s_callg ?_ (c := by intro hk hk2; first | exact c1 | exact c2 | fail)
      | refine s_opg ?_ (hy := by intro hk hk2; first | exact AY.sub (ay_buildSlice (T := strT) [[91, 65], [65], [59, 49, 72], [49, 72], [72]] rfl un_strs el_str rfl (by decide) ⟨_, pxg_, rfl⟩) sub_slc | fail)
      | refine s_skip ?_
      | ((first | refine w_alloc ?_ | refine w_box ?_) <;> intro bb)
      | ((first | refine w_emp ?_ | refine w_make ?_ | refine w_app ?_) <;> intro u hu1 hu2)
      | refine w_stv ?_ | refine w_str ?_ | refine w_cpr ?_ | refine w_cps ?_
      | refine al_last (by kernel_rfl) ?_
    | fail)
    all_goals first | (exfalso; omega) | skip
    clear c1
    have c1 : True := trivial
    obtain ⟨L, hL⟩ : ∃ L : List (List UInt8), L = [[91, 65], [65], [59, 49, 72], [49, 72], [72]] := ⟨_, rfl⟩
    have hLl : L.length = 5 := by rw [hL]; rfl
    rw [← hL]
    refine aw_lf (σ := Nat) (fun i => [(7, I i)]) (fun i => i ≤ 5 ∧ ∀ j, j < i → ¬ ((wholeR (s ++ sfx[j]!)).2 = true ∧ bt s 0 = 27)) (fun i => 5 - i) 0 ⟨by omega, fun j h => by omega⟩ ?_
    rintro i ⟨i1, i2⟩
    by_cases h5 : i < 5
    · have hat : L[i]? = some sfx[i]! := by
        rw [hL]
        have : i = 0 ∨ i = 1 ∨ i = 2 ∨ i = 3 ∨ i = 4 := by omega
        rcases this with rfl | rfl | rfl | rfl | rfl <;> rfl
      have hsl : 1 ≤ (sfx[i]!).length ∧ (sfx[i]!).length ≤ 3 := by
        have : i = 0 ∨ i = 1 ∨ i = 2 ∨ i = 3 ∨ i = 4 := by omega
        rcases this with rfl | rfl | rfl | rfl | rfl <;> decide
      have hem := ends_more h0 hsl.1
      have hi2 := fun h => i2 i h
      have hnx : ∀ j, j < i + 1 → (¬ ((wholeR (s ++ sfx[i]!)).2 = true ∧ bt s 0 = 27)) → ¬ ((wholeR (s ++ sfx[j]!)).2 = true ∧ bt s 0 = 27) := fun j h hh => by
        rcases Nat.lt_or_ge j i with h' | h'
        · exact i2 j h'
        · obtain rfl : j = i := by omega
          exact hh
      obtain ⟨x, hx⟩ : ∃ x, x = sfx[i]! := ⟨_, rfl⟩
      rw [← hx] at hat hsl hem hnx
      clear c2 hx hi2 i2 hL
      have hcat : s.length + x.length ≤ 9223372036854775807 := by omega
      have c2 := f_whole06 (T0 := T0) (s ++ x) (by rw [List.length_append]; omega)
      cases hw : (wholeR (s ++ x)).2 with
      | true =>
        rw [hw] at c2
        by_cases h27 : x0.toNat = 27
        · have ht : decide ((cmdM s).1 = 3) = true := decide_eq_true (hm.2 (hem hw (by omega)))
          rw [ht]
          repeat' (first
          | fail
          | refine s_y ?_
            | refine c_ ?_
            | (refine aw_if ?_ ?_ <;> intro hb <;> try (exfalso; first | assumption | omega | (simp only [or_self, and_self, not_true_eq_false, not_false_eq_true, or_false, false_or, and_false, false_and, true_and, and_true] at hb; first | done | omega)))
            | refine s_call ?_ (c := by first | exact c1 | exact c2 | fail)
            | refine s_op ?_ (hy := by first | exact AY.sub (ay_buildSlice (T := strT) [[91, 65], [65], [59, 49, 72], [49, 72], [72]] rfl un_strs el_str rfl (by decide) ⟨_, pxg_, rfl⟩) sub_slc | fail)
            | refine s_yg ?_
            | refine s_callg ?_ (c := by intro hk hk2; first | exact c1 | exact c2 | fail)
            | refine s_opg ?_ (hy := by intro hk hk2; first | exact AY.sub (ay_buildSlice (T := strT) [[91, 65], [65], [59, 49, 72], [49, 72], [72]] rfl un_strs el_str rfl (by decide) ⟨_, pxg_, rfl⟩) sub_slc | fail)
            | refine s_skip ?_
            | ((first | refine w_alloc ?_ | refine w_box ?_) <;> intro bb)
            | ((first | refine w_emp ?_ | refine w_make ?_ | refine w_app ?_) <;> intro u hu1 hu2)
            | refine w_stv ?_ | refine w_str ?_ | refine w_cpr ?_ | refine w_cps ?_
            | refine al_last (by kernel_rfl) ?_
          | fail)
          all_goals first | (exfalso; omega) | exact ⟨_, [], rl_, List.nil_sublist _, Sub.refl _, rfl⟩
        · have hn := fun j h => hnx j h (fun h => by omega)
          repeat' (first
          | fail
          | refine s_y ?_
            | refine c_ ?_
            | (refine aw_if ?_ ?_ <;> intro hb <;> try (exfalso; first | assumption | omega | (simp only [or_self, and_self, not_true_eq_false, not_false_eq_true, or_false, false_or, and_false, false_and, true_and, and_true] at hb; first | done | omega)))
            | refine s_call ?_ (c := by first | exact c1 | exact c2 | fail)
            | refine s_op ?_ (hy := by first | exact AY.sub (ay_buildSlice (T := strT) [[91, 65], [65], [59, 49, 72], [49, 72], [72]] rfl un_strs el_str rfl (by decide) ⟨_, pxg_, rfl⟩) sub_slc | fail)
            | refine s_yg ?_
            | refine s_callg ?_ (c := by intro hk hk2; first | exact c1 | exact c2 | fail)
            | refine s_opg ?_ (hy := by intro hk hk2; first | exact AY.sub (ay_buildSlice (T := strT) [[91, 65], [65], [59, 49, 72], [49, 72], [72]] rfl un_strs el_str rfl (by decide) ⟨_, pxg_, rfl⟩) sub_slc | fail)
            | refine s_skip ?_
            | ((first | refine w_alloc ?_ | refine w_box ?_) <;> intro bb)
            | ((first | refine w_emp ?_ | refine w_make ?_ | refine w_app ?_) <;> intro u hu1 hu2)
            | refine w_stv ?_ | refine w_str ?_ | refine w_cpr ?_ | refine w_cps ?_
            | refine al_last (by kernel_rfl) ?_
          | fail)
          all_goals first | (exfalso; omega) | exact ⟨i + 1, ⟨by omega, hn⟩, by omega, wx_, sl_⟩
      | false =>
        rw [hw] at c2 hnx
        have hn := fun j h => hnx j h (fun h => by cases h.1)
        repeat' (first
        | fail
        | refine s_y ?_
          | refine c_ ?_
          | (refine aw_if ?_ ?_ <;> intro hb <;> try (exfalso; first | assumption | omega | (simp only [or_self, and_self, not_true_eq_false, not_false_eq_true, or_false, false_or, and_false, false_and, true_and, and_true] at hb; first | done | omega)))
          | refine s_call ?_ (c := by first | exact c1 | exact c2 | fail)
          | refine s_op ?_ (hy := by first | exact AY.sub (ay_buildSlice (T := strT) [[91, 65], [65], [59, 49, 72], [49, 72], [72]] rfl un_strs el_str rfl (by decide) ⟨_, pxg_, rfl⟩) sub_slc | fail)
          | refine s_yg ?_
          | refine s_callg ?_ (c := by intro hk hk2; first | exact c1 | exact c2 | fail)
          | refine s_opg ?_ (hy := by intro hk hk2; first | exact AY.sub (ay_buildSlice (T := strT) [[91, 65], [65], [59, 49, 72], [49, 72], [72]] rfl un_strs el_str rfl (by decide) ⟨_, pxg_, rfl⟩) sub_slc | fail)
          | refine s_skip ?_
          | ((first | refine w_alloc ?_ | refine w_box ?_) <;> intro bb)
          | ((first | refine w_emp ?_ | refine w_make ?_ | refine w_app ?_) <;> intro u hu1 hu2)
          | refine w_stv ?_ | refine w_str ?_ | refine w_cpr ?_ | refine w_cps ?_
          | refine al_last (by kernel_rfl) ?_
        | fail)
        all_goals first | (exfalso; omega) | exact ⟨i + 1, ⟨by omega, hn⟩, by omega, wx_, sl_⟩
    · have ht : decide ((cmdM s).1 = 3) = false := decide_eq_false fun h => by
        obtain ⟨⟨j, j1, j2⟩, j3⟩ := hme (hm.1 h)
        exact i2 j (by omega) ⟨j2, j3⟩
      rw [ht]
      repeat' (first
      | fail
      | refine s_y ?_
        | refine c_ ?_
        | (refine aw_if ?_ ?_ <;> intro hb <;> try (exfalso; first | assumption | omega | (simp only [or_self, and_self, not_true_eq_false, not_false_eq_true, or_false, false_or, and_false, false_and, true_and, and_true] at hb; first | done | omega)))
        | refine s_call ?_ (c := by first | exact c1 | exact c2 | fail)
        | refine s_op ?_ (hy := by first | exact AY.sub (ay_buildSlice (T := strT) [[91, 65], [65], [59, 49, 72], [49, 72], [72]] rfl un_strs el_str rfl (by decide) ⟨_, pxg_, rfl⟩) sub_slc | fail)
        | refine s_yg ?_
        | refine s_callg ?_ (c := by intro hk hk2; first | exact c1 | exact c2 | fail)
        | refine s_opg ?_ (hy := by intro hk hk2; first | exact AY.sub (ay_buildSlice (T := strT) [[91, 65], [65], [59, 49, 72], [49, 72], [72]] rfl un_strs el_str rfl (by decide) ⟨_, pxg_, rfl⟩) sub_slc | fail)
        | refine s_skip ?_
        | ((first | refine w_alloc ?_ | refine w_box ?_) <;> intro bb)
        | ((first | refine w_emp ?_ | refine w_make ?_ | refine w_app ?_) <;> intro u hu1 hu2)
        | refine w_stv ?_ | refine w_str ?_ | refine w_cpr ?_ | refine w_cps ?_
        | refine al_last (by kernel_rfl) ?_
      | fail)
      all_goals first | (exfalso; omega) | exact ⟨_, [], rl_, List.nil_sublist _, Sub.refl _, rfl⟩
end Go.Proofs.YtplabpjkkcillaaDoor
