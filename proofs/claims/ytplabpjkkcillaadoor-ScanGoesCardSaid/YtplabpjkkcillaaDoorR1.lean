/- Layer 1: the reference's next sign: it is the program's. No condition. -/
import Derived.Test.YtplabpjkkcillaaDoorU5
import Derived.Test.YtplabpjkkcillaaDoorV2
namespace Go.Proofs.YtplabpjkkcillaaDoor
set_option linter.unusedSimpArgs false
set_option linter.unusedVariables false
set_option linter.unusedSectionVars false
set_option maxHeartbeats 4000000
open Go Go.RowKit
variable {T0 : Gh}
set_option maxRecDepth 100000
def valL : Int → List UInt8 → Int
  | n, [] => n
  | n, b :: l => if b.toNat < 128 ∨ 191 < b.toNat then -1 else valL (n * 64 + b.toNat - 128) l
def lead (k : Nat) : Int := if k = 4 then 240 else if k = 3 then 224 else 192
def valueM (b : UInt8) (l : List UInt8) : Int := if l = [] then b.toNat else if (b.toNat : Int) - lead (l.length + 1) < 0 then -1 else valL (b.toNat - lead (l.length + 1)) l
theorem valL_nil (n : Int) : valL n [] = n := rfl
theorem valL_cons (n : Int) (b : UInt8) (l : List UInt8) : valL n (b :: l) = if b.toNat < 128 ∨ 191 < b.toNat then -1 else valL (n * 64 + b.toNat - 128) l := rfl
theorem lead2 : lead (1 + 1) = 192 := rfl
theorem lead3 : lead (1 + 1 + 1) = 224 := rfl
theorem lead4 : lead (1 + 1 + 1 + 1) = 240 := rfl
theorem value_enc {r : Int} {b : UInt8} {l : List UInt8} (h : isG r = true) (e : encC r = b :: l) : valueM b l = r := by
  obtain ⟨n, rfl, hn, hs, hc⟩ := enc_cases h
  rcases hc with ⟨h1, e1⟩ | ⟨h1, h2, e1⟩ | ⟨h1, h2, e1⟩ | ⟨h1, e1⟩ <;> rw [e1] at e <;> obtain ⟨e2, e3⟩ := List.cons.inj e <;> clear e e1 hs h <;> subst e2 <;> subst e3
  · unfold valueM; rw [if_pos rfl, ofNat_bt (by omega)]
  · have e0 : (UInt8.ofNat (192 + n / 64)).toNat = 192 + n / 64 := ofNat_bt (by omega)
    have e1 : (UInt8.ofNat (128 + n % 64)).toNat = 128 + n % 64 := ofNat_bt (by omega)
    unfold valueM
    rw [if_neg (by simp), List.length_singleton, lead2, e0, if_neg (by omega), valL_cons, e1, if_neg (by omega), valL_nil]; omega
  · have e0 : (UInt8.ofNat (224 + n / 4096)).toNat = 224 + n / 4096 := ofNat_bt (by omega)
    have e1 : (UInt8.ofNat (128 + n / 64 % 64)).toNat = 128 + n / 64 % 64 := ofNat_bt (by omega)
    have e2 : (UInt8.ofNat (128 + n % 64)).toNat = 128 + n % 64 := ofNat_bt (by omega)
    unfold valueM
    rw [if_neg (by simp), List.length_cons, List.length_singleton, lead3, e0, if_neg (by omega), valL_cons, e1, if_neg (by omega), valL_cons, e2, if_neg (by omega), valL_nil]; omega
  · have e0 : (UInt8.ofNat (240 + n / 262144)).toNat = 240 + n / 262144 := ofNat_bt (by omega)
    have e1 : (UInt8.ofNat (128 + n / 4096 % 64)).toNat = 128 + n / 4096 % 64 := ofNat_bt (by omega)
    have e2 : (UInt8.ofNat (128 + n / 64 % 64)).toNat = 128 + n / 64 % 64 := ofNat_bt (by omega)
    have e3 : (UInt8.ofNat (128 + n % 64)).toNat = 128 + n % 64 := ofNat_bt (by omega)
    unfold valueM
    rw [if_neg (by simp), List.length_cons, List.length_cons, List.length_singleton, lead4, e0, if_neg (by omega), valL_cons, e1, if_neg (by omega), valL_cons, e2, if_neg (by omega), valL_cons, e3, if_neg (by omega), valL_nil]; omega
def wholeS : List UInt8 → Int × Bool
  | [] => (0, false)
  | b :: l => if valueM b l < 0 then (0, false) else (valueM b l, isG (valueM b l) && decide (encC (valueM b l) = b :: l))
theorem whole_of {r : Int} {s : List UInt8} (h : isG r = true) (e : encC r = s) : wholeS s = (r, true) := by
  have hl := encC_len r
  cases s with
  | nil => rw [e] at hl; simp at hl
  | cons b l =>
    have h0 := (isG_iff.1 h).1
    rw [wholeS, value_enc h e, if_neg (by omega), h, e]; simp
theorem whole_is {s : List UInt8} (h : (wholeS s).2 = true) : isG (wholeS s).1 = true ∧ encC (wholeS s).1 = s := by
  cases s with
  | nil => cases h
  | cons b l =>
    by_cases h1 : valueM b l < 0
    · rw [wholeS, if_pos h1] at h; cases h
    · rw [wholeS, if_neg h1] at h ⊢
      simpa using h
attribute [local irreducible] thenA inBlockA AW AL AO QY varO rowO rsA Opd OpdN vA gvA tupA aggA slA slcA ipA rpA EqK LnK IxK LdK FaK FdK
theorem f_value (b : UInt8) (l : List UInt8) (hl : l.length ≤ 3) : AP Tryd.prog T0 118 [SA (b :: l)] (I (valueM b l)) := by
  have hlen : (b :: l).length = l.length + 1 := rfl
  have h0 : (b :: l)[0]? = some b := rfl
  have hb2 := b.toNat_lt
  obtain ⟨s, hs⟩ : ∃ s, s = b :: l := ⟨_, rfl⟩
  rw [← hs] at hlen h0 ⊢
  have hll : l = [] ↔ l.length = 0 := by cases l <;> simp
  have e1 : l.length = 0 → valueM b l = b.toNat := fun h => by rw [valueM, if_pos (hll.2 h)]
  have e2 : l.length ≠ 0 → valueM b l = if (b.toNat : Int) - lead (l.length + 1) < 0 then -1 else valL (b.toNat - lead (l.length + 1)) l := fun h => by rw [valueM, if_neg (fun e => h (hll.1 e))]
  have hd : s.drop 1 = l := by rw [hs]; rfl
  refine af_intro Tryd.func118 rfl (by decide) Tryd.ntmps118 rfl ?_
  have hcase : l.length = 0 ∨ l.length = 1 ∨ l.length = 2 ∨ l.length = 3 := by omega
  rcases hcase with hc | hc | hc | hc
  · repeat' (first
    | fail
    | refine s_y ?_
      | refine c_ ?_
      | (refine aw_if ?_ ?_ <;> intro hb <;> try (exfalso; first | assumption | omega | (simp only [or_self, and_self, not_true_eq_false, not_false_eq_true, or_false, false_or, and_false, false_and, true_and, and_true] at hb; first | done | omega)))
      | refine s_call ?_ (c := by first | fail | fail)
      | refine s_op ?_ (hy := by first | fail | fail)
      | refine s_yg ?_
      | refine s_callg ?_ (c := by intro hk hk2; first | fail | fail)
      | refine s_opg ?_ (hy := by intro hk hk2; first | fail | fail)
      | refine s_skip ?_
      | ((first | refine w_alloc ?_ | refine w_box ?_) <;> intro bb)
      | ((first | refine w_emp ?_ | refine w_make ?_ | refine w_app ?_) <;> intro u hu1 hu2)
      | refine w_stv ?_ | refine w_str ?_ | refine w_cpr ?_ | refine w_cps ?_
      | refine al_last (by kernel_rfl) ?_
    | fail)
    exact ⟨_, [], rs_, List.nil_sublist _, Sub.eq (by rw [e1 hc]), rfl⟩
  all_goals
    have e3 := e2 (by omega)
    rw [hc] at e3
    repeat' (first
    | fail
    | refine s_y ?_
      | refine c_ ?_
      | (refine aw_if ?_ ?_ <;> intro hb <;> try (exfalso; first | assumption | omega | (simp only [or_self, and_self, not_true_eq_false, not_false_eq_true, or_false, false_or, and_false, false_and, true_and, and_true] at hb; first | done | omega)))
      | refine s_call ?_ (c := by first | fail | fail)
      | refine s_op ?_ (hy := by first | fail | fail)
      | refine s_yg ?_
      | refine s_callg ?_ (c := by intro hk hk2; first | fail | fail)
      | refine s_opg ?_ (hy := by intro hk hk2; first | fail | fail)
      | refine s_skip ?_
      | ((first | refine w_alloc ?_ | refine w_box ?_) <;> intro bb)
      | ((first | refine w_emp ?_ | refine w_make ?_ | refine w_app ?_) <;> intro u hu1 hu2)
      | refine w_stv ?_ | refine w_str ?_ | refine w_cpr ?_ | refine w_cps ?_
      | refine al_last (by kernel_rfl) ?_
    | fail)
  all_goals first
  | exact ⟨_, [], rs_, List.nil_sublist _, Sub.eq (by rw [e3, if_pos (by first | (show (b.toNat : Int) - 192 < 0; omega) | (show (b.toNat : Int) - 224 < 0; omega) | (show (b.toNat : Int) - 240 < 0; omega))]), rfl⟩
  | skip
  all_goals
    rw [if_neg (by first | (show ¬ (b.toNat : Int) - 192 < 0; omega) | (show ¬ (b.toNat : Int) - 224 < 0; omega) | (show ¬ (b.toNat : Int) - 240 < 0; omega))] at e3
    refine aw_lf (σ := Int × Nat) (fun y => [(3, I y.1), (4, I y.2)]) (fun y => 1 ≤ y.2 ∧ y.2 ≤ s.length ∧ 0 ≤ y.1 ∧ (y.2 = 1 → y.1 ≤ 63) ∧ (y.2 = 2 → y.1 ≤ 4095) ∧ (y.2 = 3 → y.1 ≤ 262143) ∧ y.1 ≤ 16777215 ∧ valL y.1 (s.drop y.2) = valueM b l) (fun y => s.length - y.2) (_, 1) ⟨by omega, by simp only; omega, ?_⟩ ?_
    · rw [hd]
      refine ⟨?_, fun _ => ?_, fun h => (by cases h), fun h => (by cases h), ?_, e3.symm⟩ <;> dsimp only <;> omega
    rintro ⟨n, i⟩ ⟨i1, i2, i3, i4, i5, i6, i7, i8⟩
    simp only at i1 i2 i3 i4 i5 i6 i7 i8 ⊢
    by_cases hlt : i < s.length
    · obtain ⟨x, hx⟩ : ∃ x, s[i]? = some x := ⟨_, List.getElem?_eq_getElem hlt⟩
      have hx2 := x.toNat_lt
      have hdr : s.drop i = x :: s.drop (i + 1) := by
        obtain ⟨q1, q2⟩ := List.getElem?_eq_some_iff.1 hx
        rw [← q2]; exact List.drop_eq_getElem_cons q1
      rw [hdr, valL_cons] at i8
      by_cases hbad : x.toNat < 128 ∨ 191 < x.toNat
      · rw [if_pos hbad] at i8
        repeat' (first
        | fail
        | refine s_y ?_
          | refine c_ ?_
          | (refine aw_if ?_ ?_ <;> intro hb <;> try (exfalso; first | assumption | omega | (simp only [or_self, and_self, not_true_eq_false, not_false_eq_true, or_false, false_or, and_false, false_and, true_and, and_true] at hb; first | done | omega)))
          | refine s_call ?_ (c := by first | fail | fail)
          | refine s_op ?_ (hy := by first | fail | fail)
          | refine s_yg ?_
          | refine s_callg ?_ (c := by intro hk hk2; first | fail | fail)
          | refine s_opg ?_ (hy := by intro hk hk2; first | fail | fail)
          | refine s_skip ?_
          | ((first | refine w_alloc ?_ | refine w_box ?_) <;> intro bb)
          | ((first | refine w_emp ?_ | refine w_make ?_ | refine w_app ?_) <;> intro u hu1 hu2)
          | refine w_stv ?_ | refine w_str ?_ | refine w_cpr ?_ | refine w_cps ?_
          | refine al_last (by kernel_rfl) ?_
        | fail)
        all_goals first | (exfalso; omega) | exact ⟨_, [], rs_, List.nil_sublist _, Sub.eq (by rw [← i8]), rfl⟩
      · rw [if_neg hbad] at i8
        repeat' (first
        | fail
        | refine s_y ?_
          | refine c_ ?_
          | (refine aw_if ?_ ?_ <;> intro hb <;> try (exfalso; first | assumption | omega | (simp only [or_self, and_self, not_true_eq_false, not_false_eq_true, or_false, false_or, and_false, false_and, true_and, and_true] at hb; first | done | omega)))
          | refine s_call ?_ (c := by first | fail | fail)
          | refine s_op ?_ (hy := by first | fail | fail)
          | refine s_yg ?_
          | refine s_callg ?_ (c := by intro hk hk2; first | fail | fail)
          | refine s_opg ?_ (hy := by intro hk hk2; first | fail | fail)
          | refine s_skip ?_
          | ((first | refine w_alloc ?_ | refine w_box ?_) <;> intro bb)
          | ((first | refine w_emp ?_ | refine w_make ?_ | refine w_app ?_) <;> intro u hu1 hu2)
          | refine w_stv ?_ | refine w_str ?_ | refine w_cpr ?_ | refine w_cps ?_
          | refine al_last (by kernel_rfl) ?_
        | fail)
        all_goals first | (exfalso; omega) | exact ⟨(n * 64 + x.toNat - 128, i + 1), ⟨by omega, by simp only; omega, by simp only; omega, by simp only; omega, by simp only; omega, by simp only; omega, by simp only; omega, i8⟩, by simp only; omega, by dsimp only; exact wx_, sl_⟩
    · rw [List.drop_of_length_le (by omega), valL_nil] at i8
      repeat' (first
      | fail
      | refine s_y ?_
        | refine c_ ?_
        | (refine aw_if ?_ ?_ <;> intro hb <;> try (exfalso; first | assumption | omega | (simp only [or_self, and_self, not_true_eq_false, not_false_eq_true, or_false, false_or, and_false, false_and, true_and, and_true] at hb; first | done | omega)))
        | refine s_call ?_ (c := by first | fail | fail)
        | refine s_op ?_ (hy := by first | fail | fail)
        | refine s_yg ?_
        | refine s_callg ?_ (c := by intro hk hk2; first | fail | fail)
        | refine s_opg ?_ (hy := by intro hk hk2; first | fail | fail)
        | refine s_skip ?_
        | ((first | refine w_alloc ?_ | refine w_box ?_) <;> intro bb)
        | ((first | refine w_emp ?_ | refine w_make ?_ | refine w_app ?_) <;> intro u hu1 hu2)
        | refine w_stv ?_ | refine w_str ?_ | refine w_cpr ?_ | refine w_cps ?_
        | refine al_last (by kernel_rfl) ?_
      | fail)
      all_goals first | (exfalso; omega) | exact ⟨_, [], rs_, List.nil_sublist _, Sub.eq (by rw [i8]), rfl⟩
end Go.Proofs.YtplabpjkkcillaaDoor
