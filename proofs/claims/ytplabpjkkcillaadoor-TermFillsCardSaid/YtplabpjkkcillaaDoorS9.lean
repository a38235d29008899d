/- Layer 6 (scan): all the commands, by the program. No condition. -/
import Derived.Test.YtplabpjkkcillaaDoorS8
import Derived.Test.YtplabpjkkcillaaDoorVS
namespace Go.Proofs.YtplabpjkkcillaaDoor
set_option linter.unusedSimpArgs false
set_option linter.unusedVariables false
set_option linter.unusedSectionVars false
set_option maxHeartbeats 4000000
open Go Go.RowKit
set_option maxRecDepth 200000
/-- the commands, what is left, and an error's number -/
def allM : Nat → List UInt8 → List Cmd × List UInt8 × Int
  | 0, s => ([], s, 0)
  | n + 1, s => if (nextM s).2.2 = 0 then (if (allM n (nextM s).2.1).2.2 = 2 then ([], [], 2) else ((nextM s).1 :: (allM n (nextM s).2.1).1, (allM n (nextM s).2.1).2)) else if (nextM s).2.2 = 2 then ([], [], 2) else ([], s, 0)
def allS (s : List UInt8) : List Cmd × List UInt8 × Int := allM s.length s
/-- what stands ahead of what is to come -/
def allF (o : List Cmd) (y : List Cmd × List UInt8 × Int) : List Cmd × List UInt8 × Int := if y.2.2 = 2 then ([], [], 2) else (o ++ y.1, y.2)
theorem shape_pos {c : Cmd} {l : List UInt8} (h : Shape c l) : 1 ≤ l.length := by
  cases h <;> first | exact (encC_len _).1 | (simp only [List.length_cons]; omega) | (unfold formB; (repeat' split) <;> simp)
theorem next_ok {s : List UInt8} (h : (nextM s).2.2 = 0) : ∃ l, Shape (nextM s).1 l ∧ s = l ++ (nextM s).2.1 := by
  by_cases h0 : s = []
  · rw [nextM, if_pos h0] at h; cases h
  · rw [nextM, if_neg h0] at h ⊢
    rcases cmd_sound s h0 with ⟨c, l, t, h1, h2, h3⟩ | ⟨h1, _⟩ | h1
    · rw [h3]; exact ⟨l, h1, h2⟩
    · rw [h1] at h; cases h
    · rw [h1] at h; cases h
theorem next_len {s : List UInt8} (h : (nextM s).2.2 = 0) : (nextM s).2.1.length < s.length := by
  obtain ⟨l, h1, h2⟩ := next_ok h
  have := shape_pos h1
  have e : s.length = l.length + (nextM s).2.1.length := by rw [← List.length_append, ← h2]
  omega
theorem next_err (s : List UInt8) : (nextM s).2.2 = 0 ∨ (nextM s).2.2 = 2 ∨ (nextM s).2.2 = 3 ∨ (nextM s).2.2 = 6 := by
  by_cases h0 : s = []
  · rw [nextM, if_pos h0]; simp
  · rw [nextM, if_neg h0]
    rcases cmd_sound s h0 with ⟨c, l, t, h1, h2, h3⟩ | ⟨h1, _⟩ | h1
    · rw [h3]; simp
    · rw [h1]; simp [nok]
    · rw [h1]; simp [nok]
theorem allM_any : ∀ (n m : Nat) (s : List UInt8), s.length ≤ n → s.length ≤ m → allM n s = allM m s
  | 0, 0, s, _, _ => rfl
  | 0, m + 1, s, h, _ => by
    have h0 : s = [] := List.length_eq_zero_iff.1 (by omega)
    subst h0; rfl
  | n + 1, 0, s, _, h => by
    have h0 : s = [] := List.length_eq_zero_iff.1 (by omega)
    subst h0; rfl
  | n + 1, m + 1, s, h1, h2 => by
    rw [allM, allM]
    by_cases he : (nextM s).2.2 = 0
    · have := next_len he
      rw [if_pos he, if_pos he, allM_any n m (nextM s).2.1 (by omega) (by omega)]
    · rw [if_neg he, if_neg he]
theorem allS_ok {s : List UInt8} (h : (nextM s).2.2 = 0) : allS s = allF [(nextM s).1] (allS (nextM s).2.1) := by
  have hl := next_len h
  rw [allS, allM_any s.length (s.length + 1) s (Nat.le_refl _) (by omega), allM, if_pos h, allM_any s.length (nextM s).2.1.length _ (by omega) (Nat.le_refl _)]
  rfl
theorem allS_form {s : List UInt8} (h : (nextM s).2.2 = 2) : allS s = ([], [], 2) := by
  rw [allS, allM_any s.length (s.length + 1) s (Nat.le_refl _) (by omega), allM, if_neg (by rw [h]; decide), if_pos h]
theorem allS_end {s : List UInt8} (h : (nextM s).2.2 ≠ 0) (h2 : (nextM s).2.2 ≠ 2) : allS s = ([], s, 0) := by
  rw [allS, allM_any s.length (s.length + 1) s (Nat.le_refl _) (by omega), allM, if_neg h, if_neg h2]
theorem allF_app (o p : List Cmd) (y : List Cmd × List UInt8 × Int) : allF o (allF p y) = allF (o ++ p) y := by
  unfold allF
  by_cases h : y.2.2 = 2
  · rw [if_pos h, if_pos h, if_pos rfl]
  · rw [if_neg h, if_neg h, if_neg h, List.append_assoc]
theorem allS_err (s : List UInt8) : (allS s).2.2 = 0 ∨ allS s = ([], [], 2) := by
  generalize hn : s.length = n
  induction n using Nat.strongRecOn generalizing s with
  | ind n ih =>
    by_cases h : (nextM s).2.2 = 0
    · have hl := next_len h
      rw [allS_ok h]
      rcases ih _ (by omega) (nextM s).2.1 rfl with e | e
      · left; rw [allF, if_neg (by rw [e]; decide), e]
      · right; rw [e]; rfl
    · by_cases h2 : (nextM s).2.2 = 2
      · exact .inr (allS_form h2)
      · left; rw [allS_end h h2]
theorem allF_nil (s : List UInt8) : allF [] (allS s) = allS s := by
  rcases allS_err s with e | e
  · rw [allF, if_neg (by rw [e]; decide)]; rfl
  · rw [e]; rfl
theorem sub_nilc {α : Type} {T : Ty α} : Sub (vA (.slice none 0 0)) (slA T []) := fun _ _ h => by
  rw [h.eq]; exact .of ⟨none, 0, 0, rfl, rfl, Nat.le_refl _, Nat.zero_le _, fun _ => rfl, fun h => absurd rfl h⟩
variable {T0 : Gh} [TabU T0]
attribute [local irreducible] thenA inBlockA AW AL AO QY varO rowO rsA Opd OpdN vA gvA tupA aggA slA slcA ipA rpA EqK LnK IxK LdK FaK FdK
theorem f_scanAll (s : List UInt8) (hs : s.length ≤ 4000000000) : AP Tryd.prog T0 19 [SA s] (tupA [slA cmdT (allS s).1, SA (allS s).2.1, I (allS s).2.2]) := by
  have c1 : True := trivial
  refine af_intro Tryd.func19 rfl (by decide) Tryd.ntmps19 rfl ?_
  repeat' (first
  | fail
  | refine s_y ?_
    | refine c_ ?_
    | (refine aw_if ?_ ?_ <;> intro hb <;> try (exfalso; first | assumption | omega | (simp only [or_self, and_self, not_true_eq_false, not_false_eq_true, or_false, false_or, and_false, false_and, true_and, and_true] at hb; first | done | omega)))
    | refine s_call ?_ (c := by first | exact c1 | fail)
    | refine s_op ?_ (hy := by first | (apply bs_cmdA rfl un_; exact oo_; done) | fail)
    | refine s_yg ?_
    | refine s_callg ?_ (c := by intro hk hk2; first | exact c1 | fail)
    | refine s_opg ?_ (hy := by intro hk hk2; first | (apply bs_cmdA rfl un_; exact oo_; done) | fail)
    | refine s_skip ?_
    | ((first | refine w_alloc ?_ | refine w_box ?_) <;> intro bb)
    | ((first | refine w_emp ?_ | refine w_make ?_ | refine w_app ?_) <;> intro u hu1 hu2)
    | refine w_stv ?_ | refine w_str ?_ | refine w_cpr ?_ | refine w_cps ?_
    | refine al_last (by kernel_rfl) ?_
  | fail)
  refine aw_nil cmdT 23 ?_
  refine aw_la 5 (fun y : List UInt8 × List Cmd => [(0, SA y.1)]) (fun y => y.2) (fun y => y.1.length + y.2.length ≤ s.length ∧ allF y.2 (allS y.1) = allS s) (fun y => y.1.length) (s, []) ⟨by simp, allF_nil s⟩ rfl ?_
  rintro ⟨q, out⟩ u ⟨i1, i2⟩ hu1 hu2
  simp only at i1 i2 ⊢
  clear c1
  have c1 := f_scanNext (T0 := T0) q (by omega)
  have k1 := fun h => allS_ok (s := q) h
  have k2 := fun h => allS_form (s := q) h
  have k3 := fun h h2 => allS_end (s := q) h h2
  have k4 := fun h => next_len (s := q) h
  have ke := next_err q
  obtain ⟨⟨c, t, e⟩, hx⟩ : ∃ x, x = nextM q := ⟨_, rfl⟩
  rw [← hx] at c1 k1 k2 k3 k4 ke
  simp only at c1 k1 k2 k3 k4 ke
  clear hx
  by_cases he : e = 0
  · subst he
    have k1 := k1 rfl
    have k4 := k4 rfl
    rw [k1, allF_app] at i2
    clear k2 k3 ke k1
    repeat' (first
    | fail
    | refine s_y ?_
      | refine c_ ?_
      | (refine aw_if ?_ ?_ <;> intro hb <;> try (exfalso; first | assumption | omega | (simp only [or_self, and_self, not_true_eq_false, not_false_eq_true, or_false, false_or, and_false, false_and, true_and, and_true] at hb; first | done | omega)))
      | refine s_call ?_ (c := by first | exact c1 | fail)
      | refine s_op ?_ (hy := by first | (apply bs_cmdA rfl un_; exact oo_; done) | fail)
      | refine s_yg ?_
      | refine s_callg ?_ (c := by intro hk hk2; first | exact c1 | fail)
      | refine s_opg ?_ (hy := by intro hk hk2; first | (apply bs_cmdA rfl un_; exact oo_; done) | fail)
      | refine s_skip ?_
      | ((first | refine w_alloc ?_ | refine w_box ?_) <;> intro bb)
      | ((first | refine w_emp ?_ | refine w_make ?_ | refine w_app ?_) <;> intro u hu1 hu2)
      | refine w_stv ?_ | refine w_str ?_ | refine w_cpr ?_ | refine w_cps ?_
      | refine al_last (by kernel_rfl) ?_
    | fail)
    all_goals first | (exfalso; omega) | exact ⟨(t, out ++ [c]), _, ⟨by simp only [List.length_append, List.length_singleton]; omega, i2⟩, by simp only; omega, wx_, sl_⟩
  · apply aw_freezeF 0 rfl
    case hz => simp only [List.cons_append, List.nil_append]; repeat' (first | exact fzf_nil | apply fzf_cons | exact fz_here | exact fz_keep)
    by_cases h2 : e = 2
    · subst h2
      rw [k2 rfl] at i2
      have hr : allS s = ([], [], 2) := by rw [← i2]; rfl
      rw [hr]
      repeat' (first
      | fail
      | refine s_y ?_
        | refine c_ ?_
        | (refine aw_if ?_ ?_ <;> intro hb <;> try (exfalso; first | assumption | omega | (simp only [or_self, and_self, not_true_eq_false, not_false_eq_true, or_false, false_or, and_false, false_and, true_and, and_true] at hb; first | done | omega)))
        | refine s_call ?_ (c := by first | exact c1 | fail)
        | refine s_op ?_ (hy := by first | (apply bs_cmdA rfl un_; exact oo_; done) | fail)
        | refine s_yg ?_
        | refine s_callg ?_ (c := by intro hk hk2; first | exact c1 | fail)
        | refine s_opg ?_ (hy := by intro hk hk2; first | (apply bs_cmdA rfl un_; exact oo_; done) | fail)
        | refine s_skip ?_
        | ((first | refine w_alloc ?_ | refine w_box ?_) <;> intro bb)
        | ((first | refine w_emp ?_ | refine w_make ?_ | refine w_app ?_) <;> intro u hu1 hu2)
        | refine w_stv ?_ | refine w_str ?_ | refine w_cpr ?_ | refine w_cps ?_
        | refine al_last (by kernel_rfl) ?_
      | fail)
      all_goals first | (exfalso; omega) | exact ⟨_, [], rl_, List.nil_sublist _, sub_tup (subl1 sub_nilc (subl1 (Sub.refl _) (subl1 (Sub.refl _) subl0))), rfl⟩
    · rw [k3 he h2] at i2
      have hr : allS s = (out, q, 0) := by rw [← i2]; simp [allF]
      rw [hr]
      repeat' (first
      | fail
      | refine s_y ?_
        | refine c_ ?_
        | (refine aw_if ?_ ?_ <;> intro hb <;> try (exfalso; first | assumption | omega | (simp only [or_self, and_self, not_true_eq_false, not_false_eq_true, or_false, false_or, and_false, false_and, true_and, and_true] at hb; first | done | omega)))
        | refine s_call ?_ (c := by first | exact c1 | fail)
        | refine s_op ?_ (hy := by first | (apply bs_cmdA rfl un_; exact oo_; done) | fail)
        | refine s_yg ?_
        | refine s_callg ?_ (c := by intro hk hk2; first | exact c1 | fail)
        | refine s_opg ?_ (hy := by intro hk hk2; first | (apply bs_cmdA rfl un_; exact oo_; done) | fail)
        | refine s_skip ?_
        | ((first | refine w_alloc ?_ | refine w_box ?_) <;> intro bb)
        | ((first | refine w_emp ?_ | refine w_make ?_ | refine w_app ?_) <;> intro u hu1 hu2)
        | refine w_stv ?_ | refine w_str ?_ | refine w_cpr ?_ | refine w_cps ?_
        | refine al_last (by kernel_rfl) ?_
      | fail)
      all_goals first | (exfalso; omega) | exact ⟨_, [], rl_, List.nil_sublist _, Sub.refl _, rfl⟩
end Go.Proofs.YtplabpjkkcillaaDoor
