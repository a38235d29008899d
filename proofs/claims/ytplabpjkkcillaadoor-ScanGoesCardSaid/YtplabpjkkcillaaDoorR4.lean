/- Layer 6 (scan): the reference's number, and the command of which bytes may be. No condition. -/
import Derived.Test.YtplabpjkkcillaaDoorR3
import Derived.Test.YtplabpjkkcillaaDoorS9
namespace Go.Proofs.YtplabpjkkcillaaDoor
set_option linter.unusedSimpArgs false
set_option linter.unusedVariables false
set_option linter.unusedSectionVars false
set_option maxHeartbeats 4000000
open Go Go.RowKit
variable {T0 : Gh}
set_option maxRecDepth 100000
def numL : Int → List UInt8 → Int
  | n, [] => n
  | n, b :: l => if b.toNat < 48 ∨ 57 < b.toNat then -1 else numL (n * 10 + b.toNat - 48) l
def numR (l : List UInt8) : Int := if l.length < 1 ∨ 2 < l.length then -1 else numL 0 l
theorem numL_nil (n : Int) : numL n [] = n := rfl
theorem numL_cons (n : Int) (b : UInt8) (l : List UInt8) : numL n (b :: l) = if b.toNat < 48 ∨ 57 < b.toNat then -1 else numL (n * 10 + b.toNat - 48) l := rfl
theorem numR_rng (l : List UInt8) : -1 ≤ numR l ∧ numR l ≤ 99 := by
  rw [numR]; split
  · omega
  · rename_i h
    match l, h with
    | [], h => exact absurd (.inl (by decide)) h
    | [a], h => rw [numL_cons]; split <;> (try simp only [numL_nil]) <;> omega
    | [a, b], h => rw [numL_cons]; split; omega; rw [numL_cons]; split <;> (try simp only [numL_nil]) <;> omega
    | a :: b :: c :: l, h => exact absurd (.inr (by simp only [List.length_cons]; omega)) h
theorem numR_dig {n : Nat} (h : n < 100) : numR (digB n) = n := by
  unfold digB
  split
  · have e : (UInt8.ofNat (48 + n)).toNat = 48 + n := ofNat_bt (by omega)
    rw [numR, if_neg (by simp), numL_cons, e, if_neg (by omega), numL_nil]; omega
  · have e : (UInt8.ofNat (48 + n / 10)).toNat = 48 + n / 10 := ofNat_bt (by omega)
    have e2 : (UInt8.ofNat (48 + n % 10)).toNat = 48 + n % 10 := ofNat_bt (by omega)
    rw [numR, if_neg (by simp), numL_cons, e, if_neg (by omega), numL_cons, e2, if_neg (by omega), numL_nil]; omega
attribute [local irreducible] thenA inBlockA AW AL AO QY varO rowO rsA Opd OpdN vA gvA tupA aggA slA slcA ipA rpA EqK LnK IxK LdK FaK FdK
theorem f_number06 (s : List UInt8) (hs : s.length ≤ 90000) : AP Tryd.prog T0 104 [SA s] (I (numR s)) := by
  refine af_intro Tryd.func104 rfl (by decide) Tryd.ntmps104 rfl ?_
  by_cases h : s.length < 1 ∨ 2 < s.length
  · rw [numR, if_pos h]
    repeat' (first
    | fail
    | refine s_y ?_
      | refine c_ ?_
      | (refine aw_if ?_ ?_ <;> intro hb <;> try (exfalso; first | assumption | omega | (simp only [or_self, and_self, not_true_eq_false, not_false_eq_true, or_false, false_or, and_false, false_and, true_and, and_true] at hb; first | done | omega)))
      | refine s_call ?_ (c := by first | fail | fail)
      | refine s_op ?_ (hy := by first | fail | fail)
      | refine s_yg ?_
      | refine s_callg ?_ (c := by intro hk hk2; first | fail | fail)
      | refine s_opg ?_ (hy := by intro hk hk2; first | fail | fail)
      | refine s_skip ?_
      | ((first | refine w_alloc ?_ | refine w_box ?_) <;> intro bb)
      | ((first | refine w_emp ?_ | refine w_make ?_ | refine w_app ?_) <;> intro u hu1 hu2)
      | refine w_stv ?_ | refine w_str ?_ | refine w_cpr ?_ | refine w_cps ?_
      | refine al_last (by kernel_rfl) ?_
    | fail)
    all_goals first | (exfalso; omega) | exact ⟨_, [], rl_, List.nil_sublist _, Sub.refl _, rfl⟩
  · rw [numR, if_neg h]
    repeat' (first
    | fail
    | refine s_y ?_
      | refine c_ ?_
      | (refine aw_if ?_ ?_ <;> intro hb <;> try (exfalso; first | assumption | omega | (simp only [or_self, and_self, not_true_eq_false, not_false_eq_true, or_false, false_or, and_false, false_and, true_and, and_true] at hb; first | done | omega)))
      | refine s_call ?_ (c := by first | fail | fail)
      | refine s_op ?_ (hy := by first | fail | fail)
      | refine s_yg ?_
      | refine s_callg ?_ (c := by intro hk hk2; first | fail | fail)
      | refine s_opg ?_ (hy := by intro hk hk2; first | fail | fail)
      | refine s_skip ?_
      | ((first | refine w_alloc ?_ | refine w_box ?_) <;> intro bb)
      | ((first | refine w_emp ?_ | refine w_make ?_ | refine w_app ?_) <;> intro u hu1 hu2)
      | refine w_stv ?_ | refine w_str ?_ | refine w_cpr ?_ | refine w_cps ?_
      | refine al_last (by kernel_rfl) ?_
    | fail)
    all_goals first | (exfalso; omega) | skip
    refine aw_lf (σ := Int × Nat) (fun y => [(3, I y.1), (4, I y.2)]) (fun y => y.2 ≤ s.length ∧ 0 ≤ y.1 ∧ (y.2 = 0 → y.1 ≤ 0) ∧ (y.2 = 1 → y.1 ≤ 9) ∧ y.1 ≤ 99 ∧ numL y.1 (s.drop y.2) = numL 0 s) (fun y => s.length - y.2) (0, 0) ⟨by simp only; omega, by simp only; omega, fun _ => (by simp only; omega), fun h => (by cases h), (by simp only; omega), rfl⟩ ?_
    rintro ⟨n, i⟩ ⟨i2, i3, i4, i5, i7, i8⟩
    simp only at i2 i3 i4 i5 i7 i8 ⊢
    by_cases hlt : i < s.length
    · obtain ⟨x, hx⟩ : ∃ x, s[i]? = some x := ⟨_, List.getElem?_eq_getElem hlt⟩
      have hx2 := x.toNat_lt
      have hdr : s.drop i = x :: s.drop (i + 1) := by
        obtain ⟨q1, q2⟩ := List.getElem?_eq_some_iff.1 hx
        rw [← q2]; exact List.drop_eq_getElem_cons q1
      rw [hdr, numL_cons] at i8
      have hi : i = 0 ∨ i = 1 := by omega
      by_cases hbad : x.toNat < 48 ∨ 57 < x.toNat
      · rw [if_pos hbad] at i8
        repeat' (first
        | fail
        | refine s_y ?_
          | refine c_ ?_
          | (refine aw_if ?_ ?_ <;> intro hb <;> try (exfalso; first | assumption | omega | (simp only [or_self, and_self, not_true_eq_false, not_false_eq_true, or_false, false_or, and_false, false_and, true_and, and_true] at hb; first | done | omega)))
          | refine s_call ?_ (c := by first | fail | fail)
          | refine s_op ?_ (hy := by first | fail | fail)
          | refine s_yg ?_
          | refine s_callg ?_ (c := by intro hk hk2; first | fail | fail)
          | refine s_opg ?_ (hy := by intro hk hk2; first | fail | fail)
          | refine s_skip ?_
          | ((first | refine w_alloc ?_ | refine w_box ?_) <;> intro bb)
          | ((first | refine w_emp ?_ | refine w_make ?_ | refine w_app ?_) <;> intro u hu1 hu2)
          | refine w_stv ?_ | refine w_str ?_ | refine w_cpr ?_ | refine w_cps ?_
          | refine al_last (by kernel_rfl) ?_
        | fail)
        all_goals first | (exfalso; omega) | exact ⟨_, [], rl_, List.nil_sublist _, Sub.eq (by rw [← i8]), rfl⟩
      · rw [if_neg hbad] at i8
        repeat' (first
        | fail
        | refine s_y ?_
          | refine c_ ?_
          | (refine aw_if ?_ ?_ <;> intro hb <;> try (exfalso; first | assumption | omega | (simp only [or_self, and_self, not_true_eq_false, not_false_eq_true, or_false, false_or, and_false, false_and, true_and, and_true] at hb; first | done | omega)))
          | refine s_call ?_ (c := by first | fail | fail)
          | refine s_op ?_ (hy := by first | fail | fail)
          | refine s_yg ?_
          | refine s_callg ?_ (c := by intro hk hk2; first | fail | fail)
          | refine s_opg ?_ (hy := by intro hk hk2; first | fail | fail)
          | refine s_skip ?_
          | ((first | refine w_alloc ?_ | refine w_box ?_) <;> intro bb)
          | ((first | refine w_emp ?_ | refine w_make ?_ | refine w_app ?_) <;> intro u hu1 hu2)
          | refine w_stv ?_ | refine w_str ?_ | refine w_cpr ?_ | refine w_cps ?_
          | refine al_last (by kernel_rfl) ?_
        | fail)
        all_goals first | (exfalso; omega) | exact ⟨(n * 10 + x.toNat - 48, i + 1), ⟨by simp only; omega, by simp only; omega, fun h => by simp only at h; omega, fun h => by simp only at h ⊢; omega, by simp only; omega, i8⟩, by simp only; omega, wx_, sl_⟩
    · rw [List.drop_of_length_le (by omega), numL_nil] at i8
      repeat' (first
      | fail
      | refine s_y ?_
        | refine c_ ?_
        | (refine aw_if ?_ ?_ <;> intro hb <;> try (exfalso; first | assumption | omega | (simp only [or_self, and_self, not_true_eq_false, not_false_eq_true, or_false, false_or, and_false, false_and, true_and, and_true] at hb; first | done | omega)))
        | refine s_call ?_ (c := by first | fail | fail)
        | refine s_op ?_ (hy := by first | fail | fail)
        | refine s_yg ?_
        | refine s_callg ?_ (c := by intro hk hk2; first | fail | fail)
        | refine s_opg ?_ (hy := by intro hk hk2; first | fail | fail)
        | refine s_skip ?_
        | ((first | refine w_alloc ?_ | refine w_box ?_) <;> intro bb)
        | ((first | refine w_emp ?_ | refine w_make ?_ | refine w_app ?_) <;> intro u hu1 hu2)
        | refine w_stv ?_ | refine w_str ?_ | refine w_cpr ?_ | refine w_cps ?_
        | refine al_last (by kernel_rfl) ?_
      | fail)
      all_goals first | (exfalso; omega) | exact ⟨_, [], rl_, List.nil_sublist _, Sub.eq (by rw [i8]), rfl⟩
/-- where the first semicolon stands -/
def semi (l : List UInt8) : Nat := l.findIdx (fun b => b == 59)
def goM (mid : List UInt8) : Cmd := if semi mid < mid.length then (2, numR (mid.take (semi mid)) - 1, numR (mid.drop (semi mid + 1)) - 1, 0) else (0, 0, 0, 0)
def escM (mid : List UInt8) (x : UInt8) : Cmd := if x.toNat = 75 then (7, 0, 0, 0) else if x.toNat = 74 then (8, 0, 0, 0) else if x.toNat = 72 then goM mid else ((x.toNat : Int) - 62, (if mid = [] then 1 else numR mid), 0, 0)
def maybeM (s : List UInt8) : Cmd :=
  if s = [13] then (9, 0, 0, 0) else if s = [10] then (10, 0, 0, 0) else if s = [8] then (11, 0, 0, 0) else if s = [7] then (12, 0, 0, 0)
  else if s.length < 3 ∨ bt s 0 ≠ 27 then (1, 0, 0, (nextG s).1) else escM ((s.drop 2).take (s.length - 1 - 2)) (UInt8.ofNat (bt s (s.length - 1)))
theorem semi_at {l : List UInt8} {i : Nat} {b : UInt8} (h : l[i]? = some b) (hb : b.toNat = 59) (hn : ∀ j, j < i → bt l j ≠ 59) : semi l = i := by
  obtain ⟨h1, h2⟩ := List.getElem?_eq_some_iff.1 h
  refine (List.findIdx_eq h1).2 ⟨?_, fun j hj => ?_⟩
  · rw [h2, beq_iff_eq]; exact UInt8.toNat_inj.1 hb
  · have := hn j hj
    rw [bt_at (List.getElem?_eq_getElem (by omega))] at this
    rw [beq_eq_false_iff_ne]; intro e; rw [e] at this; exact this rfl
theorem semi_no {l : List UInt8} (hn : ∀ j, j < l.length → bt l j ≠ 59) : ¬ semi l < l.length := by
  intro h
  have h2 := List.findIdx_getElem (w := h)
  have := hn _ h
  rw [bt_at (List.getElem?_eq_getElem h)] at this
  rw [beq_iff_eq] at h2
  exact this (by rw [show l[semi l] = 59 from h2]; rfl)
end Go.Proofs.YtplabpjkkcillaaDoor
