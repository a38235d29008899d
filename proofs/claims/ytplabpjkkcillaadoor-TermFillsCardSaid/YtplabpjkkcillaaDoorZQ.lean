/- Several texts in one: see the comment ahead of each. No condition. -/
import Derived.Test.YtplabpjkkcillaaDoorU5
import Derived.Test.YtplabpjkkcillaaDoorV2
import Derived.Test.YtplabpjkkcillaaDoorS9
/- Layer 1: the reference's next sign: it is the program's. No condition. -/
namespace Go.Proofs.YtplabpjkkcillaaDoor
set_option linter.unusedSimpArgs false
set_option linter.unusedVariables false
set_option linter.unusedSectionVars false
set_option maxHeartbeats 4000000
open Go Go.RowKit
variable {T0 : Gh}
set_option maxRecDepth 100000
def valL : Int → List UInt8 → Int
  | n, [] => n
  | n, b :: l => if b.toNat < 128 ∨ 191 < b.toNat then -1 else valL (n * 64 + b.toNat - 128) l
def lead (k : Nat) : Int := if k = 4 then 240 else if k = 3 then 224 else 192
def valueM (b : UInt8) (l : List UInt8) : Int := if l = [] then b.toNat else if (b.toNat : Int) - lead (l.length + 1) < 0 then -1 else valL (b.toNat - lead (l.length + 1)) l
theorem valL_nil (n : Int) : valL n [] = n := rfl
theorem valL_cons (n : Int) (b : UInt8) (l : List UInt8) : valL n (b :: l) = if b.toNat < 128 ∨ 191 < b.toNat then -1 else valL (n * 64 + b.toNat - 128) l := rfl
theorem lead2 : lead (1 + 1) = 192 := rfl
theorem lead3 : lead (1 + 1 + 1) = 224 := rfl
theorem lead4 : lead (1 + 1 + 1 + 1) = 240 := rfl
theorem value_enc {r : Int} {b : UInt8} {l : List UInt8} (h : isG r = true) (e : encC r = b :: l) : valueM b l = r := by
  obtain ⟨n, rfl, hn, hs, hc⟩ := enc_cases h
  rcases hc with ⟨h1, e1⟩ | ⟨h1, h2, e1⟩ | ⟨h1, h2, e1⟩ | ⟨h1, e1⟩ <;> rw [e1] at e <;> obtain ⟨e2, e3⟩ := List.cons.inj e <;> clear e e1 hs h <;> subst e2 <;> subst e3
  · unfold valueM; rw [if_pos rfl, ofNat_bt (by omega)]
  · have e0 : (UInt8.ofNat (192 + n / 64)).toNat = 192 + n / 64 := ofNat_bt (by omega)
    have e1 : (UInt8.ofNat (128 + n % 64)).toNat = 128 + n % 64 := ofNat_bt (by omega)
    unfold valueM
    rw [if_neg (by simp), List.length_singleton, lead2, e0, if_neg (by omega), valL_cons, e1, if_neg (by omega), valL_nil]; omega
  · have e0 : (UInt8.ofNat (224 + n / 4096)).toNat = 224 + n / 4096 := ofNat_bt (by omega)
    have e1 : (UInt8.ofNat (128 + n / 64 % 64)).toNat = 128 + n / 64 % 64 := ofNat_bt (by omega)
    have e2 : (UInt8.ofNat (128 + n % 64)).toNat = 128 + n % 64 := ofNat_bt (by omega)
    unfold valueM
    rw [if_neg (by simp), List.length_cons, List.length_singleton, lead3, e0, if_neg (by omega), valL_cons, e1, if_neg (by omega), valL_cons, e2, if_neg (by omega), valL_nil]; omega
  · have e0 : (UInt8.ofNat (240 + n / 262144)).toNat = 240 + n / 262144 := ofNat_bt (by omega)
    have e1 : (UInt8.ofNat (128 + n / 4096 % 64)).toNat = 128 + n / 4096 % 64 := ofNat_bt (by omega)
    have e2 : (UInt8.ofNat (128 + n / 64 % 64)).toNat = 128 + n / 64 % 64 := ofNat_bt (by omega)
    have e3 : (UInt8.ofNat (128 + n % 64)).toNat = 128 + n % 64 := ofNat_bt (by omega)
    unfold valueM
    rw [if_neg (by simp), List.length_cons, List.length_cons, List.length_singleton, lead4, e0, if_neg (by omega), valL_cons, e1, if_neg (by omega), valL_cons, e2, if_neg (by omega), valL_cons, e3, if_neg (by omega), valL_nil]; omega
def wholeS : List UInt8 → Int × Bool
  | [] => (0, false)
  | b :: l => if valueM b l < 0 then (0, false) else (valueM b l, isG (valueM b l) && decide (encC (valueM b l) = b :: l))
theorem whole_of {r : Int} {s : List UInt8} (h : isG r = true) (e : encC r = s) : wholeS s = (r, true) := by
  have hl := encC_len r
  cases s with
  | nil => rw [e] at hl; simp at hl
  | cons b l =>
    have h0 := (isG_iff.1 h).1
    rw [wholeS, value_enc h e, if_neg (by omega), h, e]; simp
theorem whole_is {s : List UInt8} (h : (wholeS s).2 = true) : isG (wholeS s).1 = true ∧ encC (wholeS s).1 = s := by
  cases s with
  | nil => cases h
  | cons b l =>
    by_cases h1 : valueM b l < 0
    · rw [wholeS, if_pos h1] at h; cases h
    · rw [wholeS, if_neg h1] at h ⊢
      simpa using h
attribute [local irreducible] thenA inBlockA AW AL AO QY varO rowO rsA Opd OpdN vA gvA tupA aggA slA slcA ipA rpA EqK LnK IxK LdK FaK FdK
theorem f_value (b : UInt8) (l : List UInt8) (hl : l.length ≤ 3) : AP Tryd.prog T0 118 [SA (b :: l)] (I (valueM b l)) := by
  have hlen : (b :: l).length = l.length + 1 := rfl
  have h0 : (b :: l)[0]? = some b := rfl
  have hb2 := b.toNat_lt
  obtain ⟨s, hs⟩ : ∃ s, s = b :: l := ⟨_, rfl⟩
  rw [← hs] at hlen h0 ⊢
  have hll : l = [] ↔ l.length = 0 := by cases l <;> simp
  have e1 : l.length = 0 → valueM b l = b.toNat := fun h => by rw [valueM, if_pos (hll.2 h)]
  have e2 : l.length ≠ 0 → valueM b l = if (b.toNat : Int) - lead (l.length + 1) < 0 then -1 else valL (b.toNat - lead (l.length + 1)) l := fun h => by rw [valueM, if_neg (fun e => h (hll.1 e))]
  have hd : s.drop 1 = l := by rw [hs]; rfl
  refine af_intro Tryd.func118 rfl (by decide) Tryd.ntmps118 rfl ?_
  have hcase : l.length = 0 ∨ l.length = 1 ∨ l.length = 2 ∨ l.length = 3 := by omega
  rcases hcase with hc | hc | hc | hc
  · repeat' (first
    | fail
    | refine s_y ?_
      | refine c_ ?_
      | (refine aw_if ?_ ?_ <;> intro hb <;> try (exfalso; first | assumption | omega | (simp only [or_self, and_self, not_true_eq_false, not_false_eq_true, or_false, false_or, and_false, false_and, true_and, and_true] at hb; first | done | omega)))
      | refine s_call ?_ (c := by first | fail | fail)
      | refine s_op ?_ (hy := by first | fail | fail)
      | refine s_yg ?_
      | refine s_callg ?_ (c := by intro hk hk2; first | fail | fail)
      | refine s_opg ?_ (hy := by intro hk hk2; first | fail | fail)
      | refine s_skip ?_
      | ((first | refine w_alloc ?_ | refine w_box ?_) <;> intro bb)
      | ((first | refine w_emp ?_ | refine w_make ?_ | refine w_app ?_) <;> intro u hu1 hu2)
      | refine w_stv ?_ | refine w_str ?_ | refine w_cpr ?_ | refine w_cps ?_
      | refine al_last (by kernel_rfl) ?_
    | fail)
    exact ⟨_, [], rs_, List.nil_sublist _, Sub.eq (by rw [e1 hc]), rfl⟩
  all_goals
    have e3 := e2 (by omega)
    rw [hc] at e3
    repeat' (first
    | fail
    | refine s_y ?_
      | refine c_ ?_
      | (refine aw_if ?_ ?_ <;> intro hb <;> try (exfalso; first | assumption | omega | (simp only [or_self, and_self, not_true_eq_false, not_false_eq_true, or_false, false_or, and_false, false_and, true_and, and_true] at hb; first | done | omega)))
      | refine s_call ?_ (c := by first | fail | fail)
      | refine s_op ?_ (hy := by first | fail | fail)
      | refine s_yg ?_
      | refine s_callg ?_ (c := by intro hk hk2; first | fail | fail)
      | refine s_opg ?_ (hy := by intro hk hk2; first | fail | fail)
      | refine s_skip ?_
      | ((first | refine w_alloc ?_ | refine w_box ?_) <;> intro bb)
      | ((first | refine w_emp ?_ | refine w_make ?_ | refine w_app ?_) <;> intro u hu1 hu2)
      | refine w_stv ?_ | refine w_str ?_ | refine w_cpr ?_ | refine w_cps ?_
      | refine al_last (by kernel_rfl) ?_
    | fail)
  all_goals first
  | exact ⟨_, [], rs_, List.nil_sublist _, Sub.eq (by rw [e3, if_pos (by first | (show (b.toNat : Int) - 192 < 0; omega) | (show (b.toNat : Int) - 224 < 0; omega) | (show (b.toNat : Int) - 240 < 0; omega))]), rfl⟩
  | skip
  all_goals
    rw [if_neg (by first | (show ¬ (b.toNat : Int) - 192 < 0; omega) | (show ¬ (b.toNat : Int) - 224 < 0; omega) | (show ¬ (b.toNat : Int) - 240 < 0; omega))] at e3
    refine aw_lf (σ := Int × Nat) (fun y => [(3, I y.1), (4, I y.2)]) (fun y => 1 ≤ y.2 ∧ y.2 ≤ s.length ∧ 0 ≤ y.1 ∧ (y.2 = 1 → y.1 ≤ 63) ∧ (y.2 = 2 → y.1 ≤ 4095) ∧ (y.2 = 3 → y.1 ≤ 262143) ∧ y.1 ≤ 16777215 ∧ valL y.1 (s.drop y.2) = valueM b l) (fun y => s.length - y.2) (_, 1) ⟨by omega, by simp only; omega, ?_⟩ ?_
    · rw [hd]
      refine ⟨?_, fun _ => ?_, fun h => (by cases h), fun h => (by cases h), ?_, e3.symm⟩ <;> dsimp only <;> omega
    rintro ⟨n, i⟩ ⟨i1, i2, i3, i4, i5, i6, i7, i8⟩
    simp only at i1 i2 i3 i4 i5 i6 i7 i8 ⊢
    by_cases hlt : i < s.length
    · obtain ⟨x, hx⟩ : ∃ x, s[i]? = some x := ⟨_, List.getElem?_eq_getElem hlt⟩
      have hx2 := x.toNat_lt
      have hdr : s.drop i = x :: s.drop (i + 1) := by
        obtain ⟨q1, q2⟩ := List.getElem?_eq_some_iff.1 hx
        rw [← q2]; exact List.drop_eq_getElem_cons q1
      rw [hdr, valL_cons] at i8
      by_cases hbad : x.toNat < 128 ∨ 191 < x.toNat
      · rw [if_pos hbad] at i8
        repeat' (first
        | fail
        | refine s_y ?_
          | refine c_ ?_
          | (refine aw_if ?_ ?_ <;> intro hb <;> try (exfalso; first | assumption | omega | (simp only [or_self, and_self, not_true_eq_false, not_false_eq_true, or_false, false_or, and_false, false_and, true_and, and_true] at hb; first | done | omega)))
          | refine s_call ?_ (c := by first | fail | fail)
          | refine s_op ?_ (hy := by first | fail | fail)
          | refine s_yg ?_
          | refine s_callg ?_ (c := by intro hk hk2; first | fail | fail)
          | refine s_opg ?_ (hy := by intro hk hk2; first | fail | fail)
          | refine s_skip ?_
          | ((first | refine w_alloc ?_ | refine w_box ?_) <;> intro bb)
          | ((first | refine w_emp ?_ | refine w_make ?_ | refine w_app ?_) <;> intro u hu1 hu2)
          | refine w_stv ?_ | refine w_str ?_ | refine w_cpr ?_ | refine w_cps ?_
          | refine al_last (by kernel_rfl) ?_
        | fail)
        all_goals first | (exfalso; omega) | exact ⟨_, [], rs_, List.nil_sublist _, Sub.eq (by rw [← i8]), rfl⟩
      · rw [if_neg hbad] at i8
        repeat' (first
        | fail
        | refine s_y ?_
          | refine c_ ?_
          | (refine aw_if ?_ ?_ <;> intro hb <;> try (exfalso; first | assumption | omega | (simp only [or_self, and_self, not_true_eq_false, not_false_eq_true, or_false, false_or, and_false, false_and, true_and, and_true] at hb; first | done | omega)))
          | refine s_call ?_ (c := by first | fail | fail)
          | refine s_op ?_ (hy := by first | fail | fail)
          | refine s_yg ?_
          | refine s_callg ?_ (c := by intro hk hk2; first | fail | fail)
          | refine s_opg ?_ (hy := by intro hk hk2; first | fail | fail)
          | refine s_skip ?_
          | ((first | refine w_alloc ?_ | refine w_box ?_) <;> intro bb)
          | ((first | refine w_emp ?_ | refine w_make ?_ | refine w_app ?_) <;> intro u hu1 hu2)
          | refine w_stv ?_ | refine w_str ?_ | refine w_cpr ?_ | refine w_cps ?_
          | refine al_last (by kernel_rfl) ?_
        | fail)
        all_goals first | (exfalso; omega) | exact ⟨(n * 64 + x.toNat - 128, i + 1), ⟨by omega, by simp only; omega, by simp only; omega, by simp only; omega, by simp only; omega, by simp only; omega, by simp only; omega, i8⟩, by simp only; omega, by dsimp only; exact wx_, sl_⟩
    · rw [List.drop_of_length_le (by omega), valL_nil] at i8
      repeat' (first
      | fail
      | refine s_y ?_
        | refine c_ ?_
        | (refine aw_if ?_ ?_ <;> intro hb <;> try (exfalso; first | assumption | omega | (simp only [or_self, and_self, not_true_eq_false, not_false_eq_true, or_false, false_or, and_false, false_and, true_and, and_true] at hb; first | done | omega)))
        | refine s_call ?_ (c := by first | fail | fail)
        | refine s_op ?_ (hy := by first | fail | fail)
        | refine s_yg ?_
        | refine s_callg ?_ (c := by intro hk hk2; first | fail | fail)
        | refine s_opg ?_ (hy := by intro hk hk2; first | fail | fail)
        | refine s_skip ?_
        | ((first | refine w_alloc ?_ | refine w_box ?_) <;> intro bb)
        | ((first | refine w_emp ?_ | refine w_make ?_ | refine w_app ?_) <;> intro u hu1 hu2)
        | refine w_stv ?_ | refine w_str ?_ | refine w_cpr ?_ | refine w_cps ?_
        | refine al_last (by kernel_rfl) ?_
      | fail)
      all_goals first | (exfalso; omega) | exact ⟨_, [], rs_, List.nil_sublist _, Sub.eq (by rw [i8]), rfl⟩
end Go.Proofs.YtplabpjkkcillaaDoor
/- Layer 1: the reference's next sign: it is the program's. No condition. -/
namespace Go.Proofs.YtplabpjkkcillaaDoor
set_option linter.unusedSimpArgs false
set_option linter.unusedVariables false
set_option linter.unusedSectionVars false
set_option maxHeartbeats 4000000
open Go Go.RowKit
variable {T0 : Gh}
set_option maxRecDepth 100000
theorem value_le (b : UInt8) (l : List UInt8) (h : l.length ≤ 3) : valueM b l ≤ 2147483647 := by
  have hb := b.toNat_lt
  cases l with
  | nil => rw [valueM, if_pos rfl]; omega
  | cons x l =>
    have hx := x.toNat_lt
    rw [valueM, if_neg (by simp)]
    split
    · omega
    · cases l with
      | nil => rw [valL_cons]; split <;> (try simp only [valL_nil, List.length_cons, List.length_nil, lead2]) <;> omega
      | cons y l =>
        have hy := y.toNat_lt
        cases l with
        | nil => rw [valL_cons, valL_cons]; (repeat' split) <;> (try simp only [valL_nil, List.length_cons, List.length_nil, lead3]) <;> omega
        | cons z l =>
          have hz := z.toNat_lt
          cases l with
          | nil => rw [valL_cons, valL_cons, valL_cons]; (repeat' split) <;> (try simp only [valL_nil, List.length_cons, List.length_nil, lead4]) <;> omega
          | cons w l => simp only [List.length_cons] at h; omega
attribute [local irreducible] thenA inBlockA AW AL AO QY varO rowO rsA Opd OpdN vA gvA tupA aggA slA slcA ipA rpA EqK LnK IxK LdK FaK FdK
theorem f_whole (s : List UInt8) (h0 : s ≠ []) (hl : s.length ≤ 4) : AP Tryd.prog T0 107 [SA s] (tupA [R (wholeS s).1, B (wholeS s).2]) := by
  cases s with
  | nil => exact absurd rfl h0
  | cons b l =>
    have hl' : l.length ≤ 3 := by simp only [List.length_cons] at hl; omega
    have hv := value_le b l hl'
    have c1 := f_value (T0 := T0) b l hl'
    have c2 := f_ref01Put (T0 := T0) (valueM b l)
    rw [wholeS]
    obtain ⟨s, hs⟩ : ∃ s, s = b :: l := ⟨_, rfl⟩
    rw [← hs] at c1 ⊢
    obtain ⟨v, hve⟩ : ∃ v, v = valueM b l := ⟨_, rfl⟩
    rw [← hve] at hv c1 c2 ⊢
    by_cases hn : v < 0
    · rw [if_pos hn]
      clear c2
      have c2 : True := trivial
      refine af_intro Tryd.func107 rfl (by decide) Tryd.ntmps107 rfl ?_
      repeat' (first
      | fail
      | refine s_y ?_
        | refine c_ ?_
        | (refine aw_if ?_ ?_ <;> intro hb <;> try (exfalso; first | assumption | omega | (simp only [or_self, and_self, not_true_eq_false, not_false_eq_true, or_false, false_or, and_false, false_and, true_and, and_true] at hb; first | done | omega)))
        | refine s_call ?_ (c := by first | exact c1 | exact c2 | fail)
        | refine s_op ?_ (hy := by first | fail | fail)
        | refine s_yg ?_
        | refine s_callg ?_ (c := by intro hk hk2; first | exact c1 | exact c2 | fail)
        | refine s_opg ?_ (hy := by intro hk hk2; first | fail | fail)
        | refine s_skip ?_
        | ((first | refine w_alloc ?_ | refine w_box ?_) <;> intro bb)
        | ((first | refine w_emp ?_ | refine w_make ?_ | refine w_app ?_) <;> intro u hu1 hu2)
        | refine w_stv ?_ | refine w_str ?_ | refine w_cpr ?_ | refine w_cps ?_
        | refine al_last (by kernel_rfl) ?_
      | fail)
      all_goals first | (exfalso; omega) | exact ⟨_, [], rl_, List.nil_sublist _, Sub.refl _, rfl⟩
    · rw [if_neg hn]
      cases hg : isG v with
      | true =>
        have e2 : putG v = (encC v, 0) := by rw [putG, if_pos hg, encB_eq hg]
        rw [e2] at c2
        refine af_intro Tryd.func107 rfl (by decide) Tryd.ntmps107 rfl ?_
        repeat' (first
        | fail
        | refine s_y ?_
          | refine c_ ?_
          | (refine aw_if ?_ ?_ <;> intro hb <;> try (exfalso; first | assumption | omega | (simp only [or_self, and_self, not_true_eq_false, not_false_eq_true, or_false, false_or, and_false, false_and, true_and, and_true] at hb; first | done | omega)))
          | refine s_call ?_ (c := by first | exact c1 | exact c2 | fail)
          | refine s_op ?_ (hy := by first | fail | fail)
          | refine s_yg ?_
          | refine s_callg ?_ (c := by intro hk hk2; first | exact c1 | exact c2 | fail)
          | refine s_opg ?_ (hy := by intro hk hk2; first | fail | fail)
          | refine s_skip ?_
          | ((first | refine w_alloc ?_ | refine w_box ?_) <;> intro bb)
          | ((first | refine w_emp ?_ | refine w_make ?_ | refine w_app ?_) <;> intro u hu1 hu2)
          | refine w_stv ?_ | refine w_str ?_ | refine w_cpr ?_ | refine w_cps ?_
          | refine al_last (by kernel_rfl) ?_
        | fail)
        all_goals first | (exfalso; omega) | exact ⟨_, [], rl_, List.nil_sublist _, Sub.refl _, rfl⟩ | exact ⟨_, [], rl_, List.nil_sublist _, Sub.eq (by simp), rfl⟩
      | false =>
        have e2 : putG v = ([], 1) := by rw [putG, if_neg (by rw [hg]; decide)]
        rw [e2] at c2
        refine af_intro Tryd.func107 rfl (by decide) Tryd.ntmps107 rfl ?_
        repeat' (first
        | fail
        | refine s_y ?_
          | refine c_ ?_
          | (refine aw_if ?_ ?_ <;> intro hb <;> try (exfalso; first | assumption | omega | (simp only [or_self, and_self, not_true_eq_false, not_false_eq_true, or_false, false_or, and_false, false_and, true_and, and_true] at hb; first | done | omega)))
          | refine s_call ?_ (c := by first | exact c1 | exact c2 | fail)
          | refine s_op ?_ (hy := by first | fail | fail)
          | refine s_yg ?_
          | refine s_callg ?_ (c := by intro hk hk2; first | exact c1 | exact c2 | fail)
          | refine s_opg ?_ (hy := by intro hk hk2; first | fail | fail)
          | refine s_skip ?_
          | ((first | refine w_alloc ?_ | refine w_box ?_) <;> intro bb)
          | ((first | refine w_emp ?_ | refine w_make ?_ | refine w_app ?_) <;> intro u hu1 hu2)
          | refine w_stv ?_ | refine w_str ?_ | refine w_cpr ?_ | refine w_cps ?_
          | refine al_last (by kernel_rfl) ?_
        | fail)
        all_goals first | (exfalso; omega) | exact ⟨_, [], rl_, List.nil_sublist _, Sub.refl _, rfl⟩ | exact ⟨_, [], rl_, List.nil_sublist _, Sub.eq (by simp), rfl⟩
def rep (k : Nat) (x : UInt8) : List UInt8 := List.replicate k x
theorem rep_s (s : List UInt8) (k : Nat) (x : UInt8) : s ++ rep (k + 1) x = s ++ rep k x ++ [x] := by rw [rep, rep, List.replicate_succ', List.append_assoc]
theorem rep_z (s : List UInt8) (x : UInt8) : s ++ rep 0 x = s := by simp [rep]
theorem more_of_whole {s : List UInt8} (h0 : s ≠ []) {k : Nat} (hk : 1 ≤ k) {x : UInt8} (h : (wholeS (s ++ rep k x)).2 = true) : MoreG s := by
  obtain ⟨h1, h2⟩ := whole_is h
  refine ⟨h0, _, h1, ?_, ?_⟩
  · rw [h2, List.length_append, rep, List.length_replicate]; omega
  · rw [h2, List.take_left]
theorem isG_nat {n : Nat} (h1 : n ≤ 1114111) (h2 : ¬ (55296 ≤ n ∧ n ≤ 57343)) : isG (n : Int) = true := isG_iff.2 ⟨by omega, by omega, by omega⟩
theorem whole_of_more {s : List UInt8} (h : MoreG s) : ∃ k, 1 ≤ k ∧ s.length + k ≤ 4 ∧ ((wholeS (s ++ rep k 128)).2 = true ∨ (wholeS (s ++ rep k 191)).2 = true) := by
  obtain ⟨h0, r, hg, hl, ht⟩ := h
  have hw : ∀ (m : Nat) (t : List UInt8), m ≤ 1114111 → ¬ (55296 ≤ m ∧ m ≤ 57343) → encC (m : Int) = t → (wholeS t).2 = true := fun m t a b e => by rw [whole_of (isG_nat a b) e]
  have h1 : 1 ≤ s.length := by cases s with | nil => exact absurd rfl h0 | cons => simp
  obtain ⟨n, rfl, hn, hs, hc⟩ := enc_cases hg
  rcases hc with ⟨_, e⟩ | ⟨a, b, e⟩ | ⟨a, b, e⟩ | ⟨a, e⟩ <;> rw [e] at hl ht <;> simp only [List.length_cons, List.length_nil] at hl
  · omega
  · have : s.length = 1 := by omega
    rw [this] at ht
    refine ⟨1, by omega, by omega, .inl ?_⟩
    subst ht
    refine hw (n / 64 * 64) _ (by omega) (by omega) ?_
    rw [(encN (n := n / 64 * 64)).2.1 (by omega) (by omega)]
    exact lst2 (b' := 128) (by omega) (by omega)
  · have : s.length = 1 ∨ s.length = 2 := by omega
    rcases this with h2 | h2
    · rw [h2] at ht
      by_cases hz : n / 4096 = 0
      · refine ⟨2, by omega, by omega, .inr ?_⟩
        subst ht
        refine hw 4095 _ (by omega) (by omega) ?_
        rw [hz]; rfl
      · refine ⟨2, by omega, by omega, .inl ?_⟩
        subst ht
        refine hw (n / 4096 * 4096) _ (by omega) (by omega) ?_
        rw [(encN (n := n / 4096 * 4096)).2.2.1 (by omega) (by omega)]
        exact lst3 (b' := 128) (c' := 128) (by omega) (by omega) (by omega)
    · rw [h2] at ht
      refine ⟨1, by omega, by omega, .inl ?_⟩
      subst ht
      refine hw (n / 64 * 64) _ (by omega) (by omega) ?_
      rw [(encN (n := n / 64 * 64)).2.2.1 (by omega) (by omega)]
      exact lst3 (c' := 128) (by omega) (by omega) (by omega)
  · have : s.length = 1 ∨ s.length = 2 ∨ s.length = 3 := by omega
    rcases this with h2 | h2 | h2
    · rw [h2] at ht
      by_cases hz : n / 262144 = 0
      · refine ⟨3, by omega, by omega, .inr ?_⟩
        subst ht
        refine hw 262143 _ (by omega) (by omega) ?_
        rw [hz]; rfl
      · refine ⟨3, by omega, by omega, .inl ?_⟩
        subst ht
        refine hw (n / 262144 * 262144) _ (by omega) (by omega) ?_
        rw [(encN (n := n / 262144 * 262144)).2.2.2 (by omega)]
        exact lst4 (b' := 128) (c' := 128) (d' := 128) (by omega) (by omega) (by omega) (by omega)
    · rw [h2] at ht
      refine ⟨2, by omega, by omega, .inl ?_⟩
      subst ht
      refine hw (n / 4096 * 4096) _ (by omega) (by omega) ?_
      rw [(encN (n := n / 4096 * 4096)).2.2.2 (by omega)]
      exact lst4 (c' := 128) (d' := 128) (by omega) (by omega) (by omega) (by omega)
    · rw [h2] at ht
      refine ⟨1, by omega, by omega, .inl ?_⟩
      subst ht
      refine hw (n / 64 * 64) _ (by omega) (by omega) ?_
      rw [(encN (n := n / 64 * 64)).2.2.2 (by omega)]
      exact lst4 (d' := 128) (by omega) (by omega) (by omega) (by omega)
theorem f_more (s : List UInt8) (h0 : s ≠ []) (hs : s.length ≤ 90000) : AP Tryd.prog T0 108 [SA s] (B (!fullG s)) := by
  have hno : (∀ k, 1 ≤ k → s.length + k ≤ 4 → (wholeS (s ++ rep k 128)).2 = false ∧ (wholeS (s ++ rep k 191)).2 = false) → fullG s = true := fun h => by
    cases hf : fullG s with
    | true => rfl
    | false =>
      obtain ⟨k, k1, k2, k3⟩ := whole_of_more (more_of_not_full h0 hf)
      obtain ⟨q1, q2⟩ := h k k1 k2
      rw [q1, q2] at k3; simp at k3
  have hyes : ∀ k, 1 ≤ k → ((wholeS (s ++ rep k 128)).2 = true ∨ (wholeS (s ++ rep k 191)).2 = true) → fullG s = false := fun k hk h => by
    rcases h with h | h
    · exact not_full_of_more (more_of_whole h0 hk h)
    · exact not_full_of_more (more_of_whole h0 hk h)
  refine af_intro Tryd.func108 rfl (by decide) Tryd.ntmps108 rfl ?_
  have c1 : True := trivial
  have c2 : True := trivial
  repeat' (first
  | fail
  | refine s_y ?_
    | refine c_ ?_
    | (refine aw_if ?_ ?_ <;> intro hb <;> try (exfalso; first | assumption | omega | (simp only [or_self, and_self, not_true_eq_false, not_false_eq_true, or_false, false_or, and_false, false_and, true_and, and_true] at hb; first | done | omega)))
    | refine s_call ?_ (c := by first | exact c1 | exact c2 | fail)
    | refine s_op ?_ (hy := by first | fail | fail)
    | refine s_yg ?_
    | refine s_callg ?_ (c := by intro hk hk2; first | exact c1 | exact c2 | fail)
    | refine s_opg ?_ (hy := by intro hk hk2; first | fail | fail)
    | refine s_skip ?_
    | ((first | refine w_alloc ?_ | refine w_box ?_) <;> intro bb)
    | ((first | refine w_emp ?_ | refine w_make ?_ | refine w_app ?_) <;> intro u hu1 hu2)
    | refine w_stv ?_ | refine w_str ?_ | refine w_cpr ?_ | refine w_cps ?_
    | refine al_last (by kernel_rfl) ?_
  | fail)
  refine aw_lf (σ := Nat) (fun k => [(3, I (s.length + k : Nat))]) (fun k => 1 ≤ k ∧ (s.length + k ≤ 5 ∨ k = 1) ∧ ∀ j, 1 ≤ j → j < k → (wholeS (s ++ rep j 128)).2 = false ∧ (wholeS (s ++ rep j 191)).2 = false) (fun k => 5 - k) 1 ⟨by omega, .inr rfl, fun j a b => by omega⟩ ?_
  rintro k ⟨i1, i2, i3⟩
  by_cases hk : s.length + k ≤ 4
  · repeat' (first
    | fail
    | refine s_y ?_
      | refine c_ ?_
      | (refine aw_if ?_ ?_ <;> intro hb <;> try (exfalso; first | assumption | omega | (simp only [or_self, and_self, not_true_eq_false, not_false_eq_true, or_false, false_or, and_false, false_and, true_and, and_true] at hb; first | done | omega)))
      | refine s_call ?_ (c := by first | exact c1 | exact c2 | fail)
      | refine s_op ?_ (hy := by first | fail | fail)
      | refine s_yg ?_
      | refine s_callg ?_ (c := by intro hk hk2; first | exact c1 | exact c2 | fail)
      | refine s_opg ?_ (hy := by intro hk hk2; first | fail | fail)
      | refine s_skip ?_
      | ((first | refine w_alloc ?_ | refine w_box ?_) <;> intro bb)
      | ((first | refine w_emp ?_ | refine w_make ?_ | refine w_app ?_) <;> intro u hu1 hu2)
      | refine w_stv ?_ | refine w_str ?_ | refine w_cpr ?_ | refine w_cps ?_
      | refine al_last (by kernel_rfl) ?_
    | fail)
    all_goals first | (exfalso; omega) | skip
    refine aw_lf (σ := Nat) (fun j => [(4, SA (s ++ rep j 128)), (5, SA (s ++ rep j 191))]) (fun j => j ≤ k) (fun j => k - j) 0 (by omega) ?_ (by rw [rep_z, rep_z]; exact wk_)
    intro j hj
    have e128 := rep_s s j 128
    have e191 := rep_s s j 191
    have l128 : (s ++ rep j 128).length = s.length + j := by rw [List.length_append, rep, List.length_replicate]
    have l191 : (s ++ rep j 191).length = s.length + j := by rw [List.length_append, rep, List.length_replicate]
    have hnext : (wholeS (s ++ rep j 128)).2 = false → (wholeS (s ++ rep j 191)).2 = false → j = k → ∀ q, 1 ≤ q → q < k + 1 → (wholeS (s ++ rep q 128)).2 = false ∧ (wholeS (s ++ rep q 191)).2 = false := fun w1 w2 e q a b => by
      rcases Nat.lt_or_ge q k with h | h
      · exact i3 q a h
      · obtain rfl : q = k := by omega
        subst e; exact ⟨w1, w2⟩
    by_cases hlt : j < k
    · clear hnext
      obtain ⟨x, hx⟩ : ∃ x, x = s ++ rep j 128 := ⟨_, rfl⟩
      obtain ⟨y, hy⟩ : ∃ y, y = s ++ rep j 191 := ⟨_, rfl⟩
      rw [← hx] at e128 l128 ⊢
      rw [← hy] at e191 l191 ⊢
      have hx1 : x.length + [(128 : UInt8)].length ≤ 9223372036854775807 := by rw [l128]; simp only [List.length_singleton]; omega
      have hy1 : y.length + [(191 : UInt8)].length ≤ 9223372036854775807 := by rw [l191]; simp only [List.length_singleton]; omega
      repeat' (first
      | fail
      | refine s_y ?_
        | refine c_ ?_
        | (refine aw_if ?_ ?_ <;> intro hb <;> try (exfalso; first | assumption | omega | (simp only [or_self, and_self, not_true_eq_false, not_false_eq_true, or_false, false_or, and_false, false_and, true_and, and_true] at hb; first | done | omega)))
        | refine s_call ?_ (c := by first | exact c1 | exact c2 | fail)
        | refine s_op ?_ (hy := by first | fail | fail)
        | refine s_yg ?_
        | refine s_callg ?_ (c := by intro hk hk2; first | exact c1 | exact c2 | fail)
        | refine s_opg ?_ (hy := by intro hk hk2; first | fail | fail)
        | refine s_skip ?_
        | ((first | refine w_alloc ?_ | refine w_box ?_) <;> intro bb)
        | ((first | refine w_emp ?_ | refine w_make ?_ | refine w_app ?_) <;> intro u hu1 hu2)
        | refine w_stv ?_ | refine w_str ?_ | refine w_cpr ?_ | refine w_cps ?_
        | refine al_last (by kernel_rfl) ?_
      | fail)
      all_goals first | (exfalso; omega) | skip
      exact ⟨j + 1, by omega, by omega, by rw [e128, e191]; exact wx_, sl_⟩
    · have hjk : j = k := by omega
      have c1 := f_whole (T0 := T0) (s ++ rep j 128) (by simp [h0]) (by rw [l128]; omega)
      have c2 := f_whole (T0 := T0) (s ++ rep j 191) (by simp [h0]) (by rw [l191]; omega)
      have hyes := hyes j (by omega)
      obtain ⟨x, hx⟩ : ∃ x, x = s ++ rep j 128 := ⟨_, rfl⟩
      obtain ⟨y, hy⟩ : ∃ y, y = s ++ rep j 191 := ⟨_, rfl⟩
      rw [← hx] at l128 c1 hnext hyes ⊢
      rw [← hy] at l191 c2 hnext hyes ⊢
      clear e128 e191 hx hy
      cases w1 : (wholeS x).2 <;> rw [w1] at c1 <;> cases w2 : (wholeS y).2 <;> rw [w2] at c2
      · have hn := hnext w1 w2 hjk
        repeat' (first
        | fail
        | refine s_y ?_
          | refine c_ ?_
          | (refine aw_if ?_ ?_ <;> intro hb <;> try (exfalso; first | assumption | omega | (simp only [or_self, and_self, not_true_eq_false, not_false_eq_true, or_false, false_or, and_false, false_and, true_and, and_true] at hb; first | done | omega)))
          | refine s_call ?_ (c := by first | exact c1 | exact c2 | fail)
          | refine s_op ?_ (hy := by first | fail | fail)
          | refine s_yg ?_
          | refine s_callg ?_ (c := by intro hk hk2; first | exact c1 | exact c2 | fail)
          | refine s_opg ?_ (hy := by intro hk hk2; first | fail | fail)
          | refine s_skip ?_
          | ((first | refine w_alloc ?_ | refine w_box ?_) <;> intro bb)
          | ((first | refine w_emp ?_ | refine w_make ?_ | refine w_app ?_) <;> intro u hu1 hu2)
          | refine w_stv ?_ | refine w_str ?_ | refine w_cpr ?_ | refine w_cps ?_
          | refine al_last (by kernel_rfl) ?_
        | fail)
        all_goals first | (exfalso; omega) | exact ⟨k + 1, ⟨by omega, .inl (by omega), hn⟩, by omega, wx_, sl_⟩
      all_goals
        have hf := hyes (by rw [w1, w2]; simp)
        repeat' (first
        | fail
        | refine s_y ?_
          | refine c_ ?_
          | (refine aw_if ?_ ?_ <;> intro hb <;> try (exfalso; first | assumption | omega | (simp only [or_self, and_self, not_true_eq_false, not_false_eq_true, or_false, false_or, and_false, false_and, true_and, and_true] at hb; first | done | omega)))
          | refine s_call ?_ (c := by first | exact c1 | exact c2 | fail)
          | refine s_op ?_ (hy := by first | fail | fail)
          | refine s_yg ?_
          | refine s_callg ?_ (c := by intro hk hk2; first | exact c1 | exact c2 | fail)
          | refine s_opg ?_ (hy := by intro hk hk2; first | fail | fail)
          | refine s_skip ?_
          | ((first | refine w_alloc ?_ | refine w_box ?_) <;> intro bb)
          | ((first | refine w_emp ?_ | refine w_make ?_ | refine w_app ?_) <;> intro u hu1 hu2)
          | refine w_stv ?_ | refine w_str ?_ | refine w_cpr ?_ | refine w_cps ?_
          | refine al_last (by kernel_rfl) ?_
        | fail)
      all_goals first | (exfalso; omega) | exact ⟨_, [], rl_, List.nil_sublist _, Sub.eq (by rw [hf]; rfl), rfl⟩
  · have := hno fun j a b => i3 j a (by omega)
    repeat' (first
    | fail
    | refine s_y ?_
      | refine c_ ?_
      | (refine aw_if ?_ ?_ <;> intro hb <;> try (exfalso; first | assumption | omega | (simp only [or_self, and_self, not_true_eq_false, not_false_eq_true, or_false, false_or, and_false, false_and, true_and, and_true] at hb; first | done | omega)))
      | refine s_call ?_ (c := by first | exact c1 | exact c2 | fail)
      | refine s_op ?_ (hy := by first | fail | fail)
      | refine s_yg ?_
      | refine s_callg ?_ (c := by intro hk hk2; first | exact c1 | exact c2 | fail)
      | refine s_opg ?_ (hy := by intro hk hk2; first | fail | fail)
      | refine s_skip ?_
      | ((first | refine w_alloc ?_ | refine w_box ?_) <;> intro bb)
      | ((first | refine w_emp ?_ | refine w_make ?_ | refine w_app ?_) <;> intro u hu1 hu2)
      | refine w_stv ?_ | refine w_str ?_ | refine w_cpr ?_ | refine w_cps ?_
      | refine al_last (by kernel_rfl) ?_
    | fail)
    all_goals first | (exfalso; omega) | exact ⟨_, [], rl_, List.nil_sublist _, Sub.eq (by rw [this]; rfl), rfl⟩
end Go.Proofs.YtplabpjkkcillaaDoor
/- Layer 1: the reference's next sign is the program's. No condition. -/
namespace Go.Proofs.YtplabpjkkcillaaDoor
set_option linter.unusedSimpArgs false
set_option linter.unusedVariables false
set_option linter.unusedSectionVars false
set_option maxHeartbeats 4000000
open Go Go.RowKit
variable {T0 : Gh}
set_option maxRecDepth 100000
/-- where a front of the bytes is just a sign's, it is the sign that the program finds -/
theorem next_found {s : List UInt8} {k : Nat} (hk : 1 ≤ k) (hs : k ≤ s.length) (h : (wholeS (s.take k)).2 = true) : nextG s = ((wholeS (s.take k)).1, (k : Int), 0) := by
  obtain ⟨h1, h2⟩ := whole_is h
  have e : s = encC (wholeS (s.take k)).1 ++ s.drop k := by rw [h2, List.take_append_drop]
  have hne : s ≠ [] := by rintro rfl; simp only [List.length_nil] at hs; omega
  have hf := full_enc h1 (s.drop k)
  obtain ⟨d1, d2⟩ := dec_enc h1 (s.drop k)
  rw [← e] at hf d1 d2
  rw [nextG, if_neg hne, if_neg (by rw [hf]; decide), d1, d2, h2, List.length_take, Nat.min_eq_left hs]
theorem next_none {s : List UInt8} (h0 : s ≠ []) (h : ∀ k, 1 ≤ k → k ≤ 4 → k ≤ s.length → (wholeS (s.take k)).2 = false) : nextG s = if fullG s = false then (0, 0, 3) else (65533, 1, 0) := by
  rw [nextG, if_neg h0]
  split
  · rfl
  · rcases dec_sound h0 with e | ⟨e1, e2, e3⟩
    · rw [e]; rfl
    · exfalso
      have hl := encC_len ((decG s).1 : Nat)
      rw [← e3, List.length_take, Nat.min_eq_left e2] at hl
      have := h (decG s).2 hl.1 hl.2 e2
      rw [e3, whole_of e1 rfl] at this; cases this
attribute [local irreducible] thenA inBlockA AW AL AO QY varO rowO rsA Opd OpdN vA gvA tupA aggA slA slcA ipA rpA EqK LnK IxK LdK FaK FdK
theorem f_ref01Next (s : List UInt8) (hl : s.length ≤ 90000) : AP Tryd.prog T0 84 [SA s] (tupA [R (nextG s).1, I (nextG s).2.1, I (nextG s).2.2]) := by
  by_cases h0 : s = []
  · have c1 : True := trivial
    subst h0
    refine af_intro Tryd.func84 rfl (by decide) Tryd.ntmps84 rfl ?_
    repeat' (first
    | fail
    | refine s_y ?_
      | refine c_ ?_
      | (refine aw_if ?_ ?_ <;> intro hb <;> try (exfalso; first | assumption | omega | (simp only [or_self, and_self, not_true_eq_false, not_false_eq_true, or_false, false_or, and_false, false_and, true_and, and_true] at hb; first | done | omega)))
      | refine s_call ?_ (c := by first | exact c1 | fail)
      | refine s_op ?_ (hy := by first | fail | fail)
      | refine s_yg ?_
      | refine s_callg ?_ (c := by intro hk hk2; first | exact c1 | fail)
      | refine s_opg ?_ (hy := by intro hk hk2; first | fail | fail)
      | refine s_skip ?_
      | ((first | refine w_alloc ?_ | refine w_box ?_) <;> intro bb)
      | ((first | refine w_emp ?_ | refine w_make ?_ | refine w_app ?_) <;> intro u hu1 hu2)
      | refine w_stv ?_ | refine w_str ?_ | refine w_cpr ?_ | refine w_cps ?_
      | refine al_last (by kernel_rfl) ?_
    | fail)
    all_goals first | exact ⟨_, [], rl_, List.nil_sublist _, Sub.eq (by rfl), rfl⟩ | (exfalso; simp at hb; done)
  · have hne : ¬ s = [] := h0
    have hpos : 1 ≤ s.length := by cases s with | nil => exact absurd rfl h0 | cons => simp
    have c1 := f_more (T0 := T0) s h0 hl
    have hnone := next_none h0
    refine af_intro Tryd.func84 rfl (by decide) Tryd.ntmps84 rfl ?_
    repeat' (first
    | fail
    | refine s_y ?_
      | refine c_ ?_
      | (refine aw_if ?_ ?_ <;> intro hb <;> try (exfalso; first | assumption | omega | (simp only [or_self, and_self, not_true_eq_false, not_false_eq_true, or_false, false_or, and_false, false_and, true_and, and_true] at hb; first | done | omega)))
      | refine s_call ?_ (c := by first | exact c1 | fail)
      | refine s_op ?_ (hy := by first | fail | fail)
      | refine s_yg ?_
      | refine s_callg ?_ (c := by intro hk hk2; first | exact c1 | fail)
      | refine s_opg ?_ (hy := by intro hk hk2; first | fail | fail)
      | refine s_skip ?_
      | ((first | refine w_alloc ?_ | refine w_box ?_) <;> intro bb)
      | ((first | refine w_emp ?_ | refine w_make ?_ | refine w_app ?_) <;> intro u hu1 hu2)
      | refine w_stv ?_ | refine w_str ?_ | refine w_cpr ?_ | refine w_cps ?_
      | refine al_last (by kernel_rfl) ?_
    | fail)
    all_goals first | (exfalso; exact h0 (by simpa using hb)) | skip
    refine aw_lf (σ := Nat) (fun k => [(5, I k)]) (fun k => 1 ≤ k ∧ k ≤ 5 ∧ ∀ j, 1 ≤ j → j < k → j ≤ s.length → (wholeS (s.take j)).2 = false) (fun k => 5 - k) 1 ⟨by omega, by omega, fun j a b => by omega⟩ ?_
    rintro k ⟨i1, i2, i3⟩
    by_cases hk : k ≤ 4 ∧ k ≤ s.length
    · obtain ⟨k1, k2⟩ := hk
      clear c1
      have c1 := f_whole (T0 := T0) (s.take k) (by rw [ne_eq, List.take_eq_nil_iff]; rintro (h | h); omega; exact h0 h) (by rw [List.length_take]; omega)
      cases w : (wholeS (s.take k)).2 with
      | true =>
        have hf := next_found i1 k2 w
        rw [w] at c1
        repeat' (first
        | fail
        | refine s_y ?_
          | refine c_ ?_
          | (refine aw_if ?_ ?_ <;> intro hb <;> try (exfalso; first | assumption | omega | (simp only [or_self, and_self, not_true_eq_false, not_false_eq_true, or_false, false_or, and_false, false_and, true_and, and_true] at hb; first | done | omega)))
          | refine s_call ?_ (c := by first | exact c1 | fail)
          | refine s_op ?_ (hy := by first | fail | fail)
          | refine s_yg ?_
          | refine s_callg ?_ (c := by intro hk hk2; first | exact c1 | fail)
          | refine s_opg ?_ (hy := by intro hk hk2; first | fail | fail)
          | refine s_skip ?_
          | ((first | refine w_alloc ?_ | refine w_box ?_) <;> intro bb)
          | ((first | refine w_emp ?_ | refine w_make ?_ | refine w_app ?_) <;> intro u hu1 hu2)
          | refine w_stv ?_ | refine w_str ?_ | refine w_cpr ?_ | refine w_cps ?_
          | refine al_last (by kernel_rfl) ?_
        | fail)
        all_goals first | (exfalso; omega) | exact ⟨_, [], rl_, List.nil_sublist _, Sub.eq (by rw [hf]), rfl⟩
      | false =>
        rw [w] at c1
        have hn : ∀ j, 1 ≤ j → j < k + 1 → j ≤ s.length → (wholeS (s.take j)).2 = false := fun j a b c => by
          rcases Nat.lt_or_ge j k with h | h
          · exact i3 j a h c
          · obtain rfl : j = k := by omega
            exact w
        repeat' (first
        | fail
        | refine s_y ?_
          | refine c_ ?_
          | (refine aw_if ?_ ?_ <;> intro hb <;> try (exfalso; first | assumption | omega | (simp only [or_self, and_self, not_true_eq_false, not_false_eq_true, or_false, false_or, and_false, false_and, true_and, and_true] at hb; first | done | omega)))
          | refine s_call ?_ (c := by first | exact c1 | fail)
          | refine s_op ?_ (hy := by first | fail | fail)
          | refine s_yg ?_
          | refine s_callg ?_ (c := by intro hk hk2; first | exact c1 | fail)
          | refine s_opg ?_ (hy := by intro hk hk2; first | fail | fail)
          | refine s_skip ?_
          | ((first | refine w_alloc ?_ | refine w_box ?_) <;> intro bb)
          | ((first | refine w_emp ?_ | refine w_make ?_ | refine w_app ?_) <;> intro u hu1 hu2)
          | refine w_stv ?_ | refine w_str ?_ | refine w_cpr ?_ | refine w_cps ?_
          | refine al_last (by kernel_rfl) ?_
        | fail)
        all_goals first | (exfalso; omega) | exact ⟨k + 1, ⟨by omega, by omega, hn⟩, by omega, wx_, sl_⟩
    · have e := hnone fun j a b c => i3 j a (by omega) c
      rw [e]
      clear hnone i3 e
      cases hf : fullG s <;> rw [hf] at c1
      · repeat' (first
        | fail
        | refine s_y ?_
          | refine c_ ?_
          | (refine aw_if ?_ ?_ <;> intro hb <;> try (exfalso; first | assumption | omega | (simp only [or_self, and_self, not_true_eq_false, not_false_eq_true, or_false, false_or, and_false, false_and, true_and, and_true] at hb; first | done | omega)))
          | refine s_call ?_ (c := by first | exact c1 | fail)
          | refine s_op ?_ (hy := by first | fail | fail)
          | refine s_yg ?_
          | refine s_callg ?_ (c := by intro hk hk2; first | exact c1 | fail)
          | refine s_opg ?_ (hy := by intro hk hk2; first | fail | fail)
          | refine s_skip ?_
          | ((first | refine w_alloc ?_ | refine w_box ?_) <;> intro bb)
          | ((first | refine w_emp ?_ | refine w_make ?_ | refine w_app ?_) <;> intro u hu1 hu2)
          | refine w_stv ?_ | refine w_str ?_ | refine w_cpr ?_ | refine w_cps ?_
          | refine al_last (by kernel_rfl) ?_
        | fail)
        all_goals first | (exfalso; omega) | exact ⟨_, [], rl_, List.nil_sublist _, Sub.eq (by rfl), rfl⟩
      · repeat' (first
        | fail
        | refine s_y ?_
          | refine c_ ?_
          | (refine aw_if ?_ ?_ <;> intro hb <;> try (exfalso; first | assumption | omega | (simp only [or_self, and_self, not_true_eq_false, not_false_eq_true, or_false, false_or, and_false, false_and, true_and, and_true] at hb; first | done | omega)))
          | refine s_call ?_ (c := by first | exact c1 | fail)
          | refine s_op ?_ (hy := by first | fail | fail)
          | refine s_yg ?_
          | refine s_callg ?_ (c := by intro hk hk2; first | exact c1 | fail)
          | refine s_opg ?_ (hy := by intro hk hk2; first | fail | fail)
          | refine s_skip ?_
          | ((first | refine w_alloc ?_ | refine w_box ?_) <;> intro bb)
          | ((first | refine w_emp ?_ | refine w_make ?_ | refine w_app ?_) <;> intro u hu1 hu2)
          | refine w_stv ?_ | refine w_str ?_ | refine w_cpr ?_ | refine w_cps ?_
          | refine al_last (by kernel_rfl) ?_
        | fail)
        all_goals first | (exfalso; omega) | exact ⟨_, [], rl_, List.nil_sublist _, Sub.eq (by rfl), rfl⟩
end Go.Proofs.YtplabpjkkcillaaDoor
/- Layer 6 (scan): the reference's number, and the command of which bytes may be. No condition. -/
namespace Go.Proofs.YtplabpjkkcillaaDoor
set_option linter.unusedSimpArgs false
set_option linter.unusedVariables false
set_option linter.unusedSectionVars false
set_option maxHeartbeats 4000000
open Go Go.RowKit
variable {T0 : Gh}
set_option maxRecDepth 100000
def numL : Int → List UInt8 → Int
  | n, [] => n
  | n, b :: l => if b.toNat < 48 ∨ 57 < b.toNat then -1 else numL (n * 10 + b.toNat - 48) l
def numR (l : List UInt8) : Int := if l.length < 1 ∨ 2 < l.length then -1 else numL 0 l
theorem numL_nil (n : Int) : numL n [] = n := rfl
theorem numL_cons (n : Int) (b : UInt8) (l : List UInt8) : numL n (b :: l) = if b.toNat < 48 ∨ 57 < b.toNat then -1 else numL (n * 10 + b.toNat - 48) l := rfl
theorem numR_rng (l : List UInt8) : -1 ≤ numR l ∧ numR l ≤ 99 := by
  rw [numR]; split
  · omega
  · rename_i h
    match l, h with
    | [], h => exact absurd (.inl (by decide)) h
    | [a], h => rw [numL_cons]; split <;> (try simp only [numL_nil]) <;> omega
    | [a, b], h => rw [numL_cons]; split; omega; rw [numL_cons]; split <;> (try simp only [numL_nil]) <;> omega
    | a :: b :: c :: l, h => exact absurd (.inr (by simp only [List.length_cons]; omega)) h
theorem numR_dig {n : Nat} (h : n < 100) : numR (digB n) = n := by
  unfold digB
  split
  · have e : (UInt8.ofNat (48 + n)).toNat = 48 + n := ofNat_bt (by omega)
    rw [numR, if_neg (by simp), numL_cons, e, if_neg (by omega), numL_nil]; omega
  · have e : (UInt8.ofNat (48 + n / 10)).toNat = 48 + n / 10 := ofNat_bt (by omega)
    have e2 : (UInt8.ofNat (48 + n % 10)).toNat = 48 + n % 10 := ofNat_bt (by omega)
    rw [numR, if_neg (by simp), numL_cons, e, if_neg (by omega), numL_cons, e2, if_neg (by omega), numL_nil]; omega
attribute [local irreducible] thenA inBlockA AW AL AO QY varO rowO rsA Opd OpdN vA gvA tupA aggA slA slcA ipA rpA EqK LnK IxK LdK FaK FdK
theorem f_number06 (s : List UInt8) (hs : s.length ≤ 90000) : AP Tryd.prog T0 104 [SA s] (I (numR s)) := by
  refine af_intro Tryd.func104 rfl (by decide) Tryd.ntmps104 rfl ?_
  by_cases h : s.length < 1 ∨ 2 < s.length
  · rw [numR, if_pos h]
    repeat' (first
    | fail
    | refine s_y ?_
      | refine c_ ?_
      | (refine aw_if ?_ ?_ <;> intro hb <;> try (exfalso; first | assumption | omega | (simp only [or_self, and_self, not_true_eq_false, not_false_eq_true, or_false, false_or, and_false, false_and, true_and, and_true] at hb; first | done | omega)))
      | refine s_call ?_ (c := by first | fail | fail)
      | refine s_op ?_ (hy := by first | fail | fail)
      | refine s_yg ?_
      | refine s_callg ?_ (c := by intro hk hk2; first | fail | fail)
      | refine s_opg ?_ (hy := by intro hk hk2; first | fail | fail)
      | refine s_skip ?_
      | ((first | refine w_alloc ?_ | refine w_box ?_) <;> intro bb)
      | ((first | refine w_emp ?_ | refine w_make ?_ | refine w_app ?_) <;> intro u hu1 hu2)
      | refine w_stv ?_ | refine w_str ?_ | refine w_cpr ?_ | refine w_cps ?_
      | refine al_last (by kernel_rfl) ?_
    | fail)
    all_goals first | (exfalso; omega) | exact ⟨_, [], rl_, List.nil_sublist _, Sub.refl _, rfl⟩
  · rw [numR, if_neg h]
    repeat' (first
    | fail
    | refine s_y ?_
      | refine c_ ?_
      | (refine aw_if ?_ ?_ <;> intro hb <;> try (exfalso; first | assumption | omega | (simp only [or_self, and_self, not_true_eq_false, not_false_eq_true, or_false, false_or, and_false, false_and, true_and, and_true] at hb; first | done | omega)))
      | refine s_call ?_ (c := by first | fail | fail)
      | refine s_op ?_ (hy := by first | fail | fail)
      | refine s_yg ?_
      | refine s_callg ?_ (c := by intro hk hk2; first | fail | fail)
      | refine s_opg ?_ (hy := by intro hk hk2; first | fail | fail)
      | refine s_skip ?_
      | ((first | refine w_alloc ?_ | refine w_box ?_) <;> intro bb)
      | ((first | refine w_emp ?_ | refine w_make ?_ | refine w_app ?_) <;> intro u hu1 hu2)
      | refine w_stv ?_ | refine w_str ?_ | refine w_cpr ?_ | refine w_cps ?_
      | refine al_last (by kernel_rfl) ?_
    | fail)
    all_goals first | (exfalso; omega) | skip
    refine aw_lf (σ := Int × Nat) (fun y => [(3, I y.1), (4, I y.2)]) (fun y => y.2 ≤ s.length ∧ 0 ≤ y.1 ∧ (y.2 = 0 → y.1 ≤ 0) ∧ (y.2 = 1 → y.1 ≤ 9) ∧ y.1 ≤ 99 ∧ numL y.1 (s.drop y.2) = numL 0 s) (fun y => s.length - y.2) (0, 0) ⟨by simp only; omega, by simp only; omega, fun _ => (by simp only; omega), fun h => (by cases h), (by simp only; omega), rfl⟩ ?_
    rintro ⟨n, i⟩ ⟨i2, i3, i4, i5, i7, i8⟩
    simp only at i2 i3 i4 i5 i7 i8 ⊢
    by_cases hlt : i < s.length
    · obtain ⟨x, hx⟩ : ∃ x, s[i]? = some x := ⟨_, List.getElem?_eq_getElem hlt⟩
      have hx2 := x.toNat_lt
      have hdr : s.drop i = x :: s.drop (i + 1) := by
        obtain ⟨q1, q2⟩ := List.getElem?_eq_some_iff.1 hx
        rw [← q2]; exact List.drop_eq_getElem_cons q1
      rw [hdr, numL_cons] at i8
      have hi : i = 0 ∨ i = 1 := by omega
      by_cases hbad : x.toNat < 48 ∨ 57 < x.toNat
      · rw [if_pos hbad] at i8
        repeat' (first
        | fail
        | refine s_y ?_
          | refine c_ ?_
          | (refine aw_if ?_ ?_ <;> intro hb <;> try (exfalso; first | assumption | omega | (simp only [or_self, and_self, not_true_eq_false, not_false_eq_true, or_false, false_or, and_false, false_and, true_and, and_true] at hb; first | done | omega)))
          | refine s_call ?_ (c := by first | fail | fail)
          | refine s_op ?_ (hy := by first | fail | fail)
          | refine s_yg ?_
          | refine s_callg ?_ (c := by intro hk hk2; first | fail | fail)
          | refine s_opg ?_ (hy := by intro hk hk2; first | fail | fail)
          | refine s_skip ?_
          | ((first | refine w_alloc ?_ | refine w_box ?_) <;> intro bb)
          | ((first | refine w_emp ?_ | refine w_make ?_ | refine w_app ?_) <;> intro u hu1 hu2)
          | refine w_stv ?_ | refine w_str ?_ | refine w_cpr ?_ | refine w_cps ?_
          | refine al_last (by kernel_rfl) ?_
        | fail)
        all_goals first | (exfalso; omega) | exact ⟨_, [], rl_, List.nil_sublist _, Sub.eq (by rw [← i8]), rfl⟩
      · rw [if_neg hbad] at i8
        repeat' (first
        | fail
        | refine s_y ?_
          | refine c_ ?_
          | (refine aw_if ?_ ?_ <;> intro hb <;> try (exfalso; first | assumption | omega | (simp only [or_self, and_self, not_true_eq_false, not_false_eq_true, or_false, false_or, and_false, false_and, true_and, and_true] at hb; first | done | omega)))
          | refine s_call ?_ (c := by first | fail | fail)
          | refine s_op ?_ (hy := by first | fail | fail)
          | refine s_yg ?_
          | refine s_callg ?_ (c := by intro hk hk2; first | fail | fail)
          | refine s_opg ?_ (hy := by intro hk hk2; first | fail | fail)
          | refine s_skip ?_
          | ((first | refine w_alloc ?_ | refine w_box ?_) <;> intro bb)
          | ((first | refine w_emp ?_ | refine w_make ?_ | refine w_app ?_) <;> intro u hu1 hu2)
          | refine w_stv ?_ | refine w_str ?_ | refine w_cpr ?_ | refine w_cps ?_
          | refine al_last (by kernel_rfl) ?_
        | fail)
        all_goals first | (exfalso; omega) | exact ⟨(n * 10 + x.toNat - 48, i + 1), ⟨by simp only; omega, by simp only; omega, fun h => by simp only at h; omega, fun h => by simp only at h ⊢; omega, by simp only; omega, i8⟩, by simp only; omega, wx_, sl_⟩
    · rw [List.drop_of_length_le (by omega), numL_nil] at i8
      repeat' (first
      | fail
      | refine s_y ?_
        | refine c_ ?_
        | (refine aw_if ?_ ?_ <;> intro hb <;> try (exfalso; first | assumption | omega | (simp only [or_self, and_self, not_true_eq_false, not_false_eq_true, or_false, false_or, and_false, false_and, true_and, and_true] at hb; first | done | omega)))
        | refine s_call ?_ (c := by first | fail | fail)
        | refine s_op ?_ (hy := by first | fail | fail)
        | refine s_yg ?_
        | refine s_callg ?_ (c := by intro hk hk2; first | fail | fail)
        | refine s_opg ?_ (hy := by intro hk hk2; first | fail | fail)
        | refine s_skip ?_
        | ((first | refine w_alloc ?_ | refine w_box ?_) <;> intro bb)
        | ((first | refine w_emp ?_ | refine w_make ?_ | refine w_app ?_) <;> intro u hu1 hu2)
        | refine w_stv ?_ | refine w_str ?_ | refine w_cpr ?_ | refine w_cps ?_
        | refine al_last (by kernel_rfl) ?_
      | fail)
      all_goals first | (exfalso; omega) | exact ⟨_, [], rl_, List.nil_sublist _, Sub.eq (by rw [i8]), rfl⟩
/-- where the first semicolon stands -/
def semi (l : List UInt8) : Nat := l.findIdx (fun b => b == 59)
def goM (mid : List UInt8) : Cmd := if semi mid < mid.length then (2, numR (mid.take (semi mid)) - 1, numR (mid.drop (semi mid + 1)) - 1, 0) else (0, 0, 0, 0)
def escM (mid : List UInt8) (x : UInt8) : Cmd := if x.toNat = 75 then (7, 0, 0, 0) else if x.toNat = 74 then (8, 0, 0, 0) else if x.toNat = 72 then goM mid else ((x.toNat : Int) - 62, (if mid = [] then 1 else numR mid), 0, 0)
def maybeM (s : List UInt8) : Cmd :=
  if s = [13] then (9, 0, 0, 0) else if s = [10] then (10, 0, 0, 0) else if s = [8] then (11, 0, 0, 0) else if s = [7] then (12, 0, 0, 0)
  else if s.length < 3 ∨ bt s 0 ≠ 27 then (1, 0, 0, (nextG s).1) else escM ((s.drop 2).take (s.length - 1 - 2)) (UInt8.ofNat (bt s (s.length - 1)))
theorem semi_at {l : List UInt8} {i : Nat} {b : UInt8} (h : l[i]? = some b) (hb : b.toNat = 59) (hn : ∀ j, j < i → bt l j ≠ 59) : semi l = i := by
  obtain ⟨h1, h2⟩ := List.getElem?_eq_some_iff.1 h
  refine (List.findIdx_eq h1).2 ⟨?_, fun j hj => ?_⟩
  · rw [h2, beq_iff_eq]; exact UInt8.toNat_inj.1 hb
  · have := hn j hj
    rw [bt_at (List.getElem?_eq_getElem (by omega))] at this
    rw [beq_eq_false_iff_ne]; intro e; rw [e] at this; exact this rfl
theorem semi_no {l : List UInt8} (hn : ∀ j, j < l.length → bt l j ≠ 59) : ¬ semi l < l.length := by
  intro h
  have h2 := List.findIdx_getElem (w := h)
  have := hn _ h
  rw [bt_at (List.getElem?_eq_getElem h)] at this
  rw [beq_iff_eq] at h2
  exact this (by rw [show l[semi l] = 59 from h2]; rfl)
end Go.Proofs.YtplabpjkkcillaaDoor
/- Layer 6 (scan): the reference's maybe and whole. No condition. -/
namespace Go.Proofs.YtplabpjkkcillaaDoor
set_option linter.unusedSimpArgs false
set_option linter.unusedVariables false
set_option linter.unusedSectionVars false
set_option maxHeartbeats 4000000
open Go Go.RowKit
variable {T0 : Gh}
set_option maxRecDepth 100000
theorem maybe_c1 : maybeM [13] = (9, 0, 0, 0) := rfl
theorem maybe_c2 : maybeM [10] = (10, 0, 0, 0) := rfl
theorem maybe_c3 : maybeM [8] = (11, 0, 0, 0) := rfl
theorem maybe_c4 : maybeM [7] = (12, 0, 0, 0) := rfl
attribute [local irreducible] thenA inBlockA AW AL AO QY varO rowO rsA Opd OpdN vA gvA tupA aggA slA slcA ipA rpA EqK LnK IxK LdK FaK FdK
theorem f_maybe (s : List UInt8) (hs : s.length ≤ 90000) : AP Tryd.prog T0 82 [SA s] (cmdA (maybeM s)) := by
  have c1 : True := trivial
  have c2 : True := trivial
  by_cases e1 : s = [13]
  · subst e1; rw [maybe_c1]
    refine af_intro Tryd.func82 rfl (by decide) Tryd.ntmps82 rfl ?_
    repeat' (first
    | fail
    | refine s_y ?_
      | refine c_ ?_
      | (refine aw_if ?_ ?_ <;> intro hb <;> try (exfalso; first | assumption | omega | (simp only [or_self, and_self, not_true_eq_false, not_false_eq_true, or_false, false_or, and_false, false_and, true_and, and_true] at hb; first | done | omega)))
      | refine s_call ?_ (c := by first | exact c1 | exact c2 | fail)
      | refine s_op ?_ (hy := by first | fail | fail)
      | refine s_yg ?_
      | refine s_callg ?_ (c := by intro hk hk2; first | exact c1 | exact c2 | fail)
      | refine s_opg ?_ (hy := by intro hk hk2; first | fail | fail)
      | refine s_skip ?_
      | ((first | refine w_alloc ?_ | refine w_box ?_) <;> intro bb)
      | ((first | refine w_emp ?_ | refine w_make ?_ | refine w_app ?_) <;> intro u hu1 hu2)
      | refine w_stv ?_ | refine w_str ?_ | refine w_cpr ?_ | refine w_cps ?_
      | refine al_last (by kernel_rfl) ?_
    | fail)
    all_goals first | exact ⟨_, [], rl_, List.nil_sublist _, Sub.refl _, rfl⟩ | (exfalso; simp at hb; done)
  by_cases e2 : s = [10]
  · subst e2; rw [maybe_c2]
    refine af_intro Tryd.func82 rfl (by decide) Tryd.ntmps82 rfl ?_
    repeat' (first
    | fail
    | refine s_y ?_
      | refine c_ ?_
      | (refine aw_if ?_ ?_ <;> intro hb <;> try (exfalso; first | assumption | omega | (simp only [or_self, and_self, not_true_eq_false, not_false_eq_true, or_false, false_or, and_false, false_and, true_and, and_true] at hb; first | done | omega)))
      | refine s_call ?_ (c := by first | exact c1 | exact c2 | fail)
      | refine s_op ?_ (hy := by first | fail | fail)
      | refine s_yg ?_
      | refine s_callg ?_ (c := by intro hk hk2; first | exact c1 | exact c2 | fail)
      | refine s_opg ?_ (hy := by intro hk hk2; first | fail | fail)
      | refine s_skip ?_
      | ((first | refine w_alloc ?_ | refine w_box ?_) <;> intro bb)
      | ((first | refine w_emp ?_ | refine w_make ?_ | refine w_app ?_) <;> intro u hu1 hu2)
      | refine w_stv ?_ | refine w_str ?_ | refine w_cpr ?_ | refine w_cps ?_
      | refine al_last (by kernel_rfl) ?_
    | fail)
    all_goals first | exact ⟨_, [], rl_, List.nil_sublist _, Sub.refl _, rfl⟩ | (exfalso; simp at hb; done)
  by_cases e3 : s = [8]
  · subst e3; rw [maybe_c3]
    refine af_intro Tryd.func82 rfl (by decide) Tryd.ntmps82 rfl ?_
    repeat' (first
    | fail
    | refine s_y ?_
      | refine c_ ?_
      | (refine aw_if ?_ ?_ <;> intro hb <;> try (exfalso; first | assumption | omega | (simp only [or_self, and_self, not_true_eq_false, not_false_eq_true, or_false, false_or, and_false, false_and, true_and, and_true] at hb; first | done | omega)))
      | refine s_call ?_ (c := by first | exact c1 | exact c2 | fail)
      | refine s_op ?_ (hy := by first | fail | fail)
      | refine s_yg ?_
      | refine s_callg ?_ (c := by intro hk hk2; first | exact c1 | exact c2 | fail)
      | refine s_opg ?_ (hy := by intro hk hk2; first | fail | fail)
      | refine s_skip ?_
      | ((first | refine w_alloc ?_ | refine w_box ?_) <;> intro bb)
      | ((first | refine w_emp ?_ | refine w_make ?_ | refine w_app ?_) <;> intro u hu1 hu2)
      | refine w_stv ?_ | refine w_str ?_ | refine w_cpr ?_ | refine w_cps ?_
      | refine al_last (by kernel_rfl) ?_
    | fail)
    all_goals first | exact ⟨_, [], rl_, List.nil_sublist _, Sub.refl _, rfl⟩ | (exfalso; simp at hb; done)
  by_cases e4 : s = [7]
  · subst e4; rw [maybe_c4]
    refine af_intro Tryd.func82 rfl (by decide) Tryd.ntmps82 rfl ?_
    repeat' (first
    | fail
    | refine s_y ?_
      | refine c_ ?_
      | (refine aw_if ?_ ?_ <;> intro hb <;> try (exfalso; first | assumption | omega | (simp only [or_self, and_self, not_true_eq_false, not_false_eq_true, or_false, false_or, and_false, false_and, true_and, and_true] at hb; first | done | omega)))
      | refine s_call ?_ (c := by first | exact c1 | exact c2 | fail)
      | refine s_op ?_ (hy := by first | fail | fail)
      | refine s_yg ?_
      | refine s_callg ?_ (c := by intro hk hk2; first | exact c1 | exact c2 | fail)
      | refine s_opg ?_ (hy := by intro hk hk2; first | fail | fail)
      | refine s_skip ?_
      | ((first | refine w_alloc ?_ | refine w_box ?_) <;> intro bb)
      | ((first | refine w_emp ?_ | refine w_make ?_ | refine w_app ?_) <;> intro u hu1 hu2)
      | refine w_stv ?_ | refine w_str ?_ | refine w_cpr ?_ | refine w_cps ?_
      | refine al_last (by kernel_rfl) ?_
    | fail)
    all_goals first | exact ⟨_, [], rl_, List.nil_sublist _, Sub.refl _, rfl⟩ | (exfalso; simp at hb; done)
  rw [maybeM, if_neg e1, if_neg e2, if_neg e3, if_neg e4]
  by_cases h3 : s.length < 3 ∨ bt s 0 ≠ 27
  · rw [if_pos h3]
    clear c1
    have c1 := f_ref01Next (T0 := T0) s hs
    have c3 := fun h => bt_bang (s := s) (j := 0) h
    refine af_intro Tryd.func82 rfl (by decide) Tryd.ntmps82 rfl ?_
    repeat' (first
    | fail
    | refine s_y ?_
      | refine c_ ?_
      | (refine aw_if ?_ ?_ <;> intro hb <;> try (exfalso; first | assumption | omega | (simp only [or_self, and_self, not_true_eq_false, not_false_eq_true, or_false, false_or, and_false, false_and, true_and, and_true] at hb; first | done | omega)))
      | refine s_call ?_ (c := by first | exact c1 | exact c2 | fail)
      | refine s_op ?_ (hy := by first | fail | fail)
      | refine s_yg ?_
      | refine s_callg ?_ (c := by intro hk hk2; first | exact c1 | exact c2 | fail)
      | refine s_opg ?_ (hy := by intro hk hk2; first | fail | fail)
      | refine s_skip ?_
      | ((first | refine w_alloc ?_ | refine w_box ?_) <;> intro bb)
      | ((first | refine w_emp ?_ | refine w_make ?_ | refine w_app ?_) <;> intro u hu1 hu2)
      | refine w_stv ?_ | refine w_str ?_ | refine w_cpr ?_ | refine w_cps ?_
      | refine al_last (by kernel_rfl) ?_
    | fail)
    all_goals first | exact ⟨_, [], rl_, List.nil_sublist _, Sub.refl _, rfl⟩ | (exfalso; first | exact e1 (by simpa using hb) | exact e2 (by simpa using hb) | exact e3 (by simpa using hb) | exact e4 (by simpa using hb) | (have := c3 (by omega); omega))
  · rw [if_neg h3]
    have hlen : 3 ≤ s.length := by omega
    obtain ⟨x0, hx0⟩ : ∃ x, s[0]? = some x := ⟨_, List.getElem?_eq_getElem (by omega)⟩
    have hx27 : x0.toNat = 27 := by have := bt_at hx0; omega
    obtain ⟨x, hx⟩ : ∃ x, s[s.length - 1]? = some x := ⟨_, List.getElem?_eq_getElem (by omega)⟩
    have hxx : UInt8.ofNat (bt s (s.length - 1)) = x := by rw [bt_at hx]; simp
    rw [hxx]
    have hx2 := x.toNat_lt
    obtain ⟨mid, hmid⟩ : ∃ m, m = (s.drop 2).take (s.length - 1 - 2) := ⟨_, rfl⟩
    have hml : mid.length ≤ 90000 := by rw [hmid, List.length_take, List.length_drop]; omega
    rw [← hmid]
    by_cases k1 : x.toNat = 75
    · rw [escM, if_pos k1]
      refine af_intro Tryd.func82 rfl (by decide) Tryd.ntmps82 rfl ?_
      repeat' (first
      | fail
      | refine s_y ?_
        | refine c_ ?_
        | (refine aw_if ?_ ?_ <;> intro hb <;> try (exfalso; first | assumption | omega | (simp only [or_self, and_self, not_true_eq_false, not_false_eq_true, or_false, false_or, and_false, false_and, true_and, and_true] at hb; first | done | omega)))
        | refine s_call ?_ (c := by first | exact c1 | exact c2 | fail)
        | refine s_op ?_ (hy := by first | fail | fail)
        | refine s_yg ?_
        | refine s_callg ?_ (c := by intro hk hk2; first | exact c1 | exact c2 | fail)
        | refine s_opg ?_ (hy := by intro hk hk2; first | fail | fail)
        | refine s_skip ?_
        | ((first | refine w_alloc ?_ | refine w_box ?_) <;> intro bb)
        | ((first | refine w_emp ?_ | refine w_make ?_ | refine w_app ?_) <;> intro u hu1 hu2)
        | refine w_stv ?_ | refine w_str ?_ | refine w_cpr ?_ | refine w_cps ?_
        | refine al_last (by kernel_rfl) ?_
      | fail)
      all_goals first | exact ⟨_, [], rl_, List.nil_sublist _, Sub.refl _, rfl⟩ | (exfalso; first | omega | exact e1 (by simpa using hb) | exact e2 (by simpa using hb) | exact e3 (by simpa using hb) | exact e4 (by simpa using hb))
    by_cases k2 : x.toNat = 74
    · rw [escM, if_neg k1, if_pos k2]
      refine af_intro Tryd.func82 rfl (by decide) Tryd.ntmps82 rfl ?_
      repeat' (first
      | fail
      | refine s_y ?_
        | refine c_ ?_
        | (refine aw_if ?_ ?_ <;> intro hb <;> try (exfalso; first | assumption | omega | (simp only [or_self, and_self, not_true_eq_false, not_false_eq_true, or_false, false_or, and_false, false_and, true_and, and_true] at hb; first | done | omega)))
        | refine s_call ?_ (c := by first | exact c1 | exact c2 | fail)
        | refine s_op ?_ (hy := by first | fail | fail)
        | refine s_yg ?_
        | refine s_callg ?_ (c := by intro hk hk2; first | exact c1 | exact c2 | fail)
        | refine s_opg ?_ (hy := by intro hk hk2; first | fail | fail)
        | refine s_skip ?_
        | ((first | refine w_alloc ?_ | refine w_box ?_) <;> intro bb)
        | ((first | refine w_emp ?_ | refine w_make ?_ | refine w_app ?_) <;> intro u hu1 hu2)
        | refine w_stv ?_ | refine w_str ?_ | refine w_cpr ?_ | refine w_cps ?_
        | refine al_last (by kernel_rfl) ?_
      | fail)
      all_goals first | exact ⟨_, [], rl_, List.nil_sublist _, Sub.refl _, rfl⟩ | (exfalso; first | omega | exact e1 (by simpa using hb) | exact e2 (by simpa using hb) | exact e3 (by simpa using hb) | exact e4 (by simpa using hb))
    by_cases k3 : x.toNat = 72
    · rw [escM, if_neg k1, if_neg k2, if_pos k3]
      refine af_intro Tryd.func82 rfl (by decide) Tryd.ntmps82 rfl ?_
      repeat' (first
      | fail
      | refine s_y ?_
        | refine c_ ?_
        | (refine aw_if ?_ ?_ <;> intro hb <;> try (exfalso; first | assumption | omega | (simp only [or_self, and_self, not_true_eq_false, not_false_eq_true, or_false, false_or, and_false, false_and, true_and, and_true] at hb; first | done | omega)))
        | refine s_call ?_ (c := by first | exact c1 | exact c2 | fail)
        | refine s_op ?_ (hy := by first | fail | fail)
        | refine s_yg ?_
        | refine s_callg ?_ (c := by intro hk hk2; first | exact c1 | exact c2 | fail)
        | refine s_opg ?_ (hy := by intro hk hk2; first | fail | fail)
        | refine s_skip ?_
        | ((first | refine w_alloc ?_ | refine w_box ?_) <;> intro bb)
        | ((first | refine w_emp ?_ | refine w_make ?_ | refine w_app ?_) <;> intro u hu1 hu2)
        | refine w_stv ?_ | refine w_str ?_ | refine w_cpr ?_ | refine w_cps ?_
        | refine al_last (by kernel_rfl) ?_
      | fail)
      all_goals first | (exfalso; first | omega | exact e1 (by simpa using hb) | exact e2 (by simpa using hb) | exact e3 (by simpa using hb) | exact e4 (by simpa using hb)) | skip
      rw [← hmid]
      clear hx hx0 h3 hmid
      refine aw_lf (σ := Nat) (fun i => [(8, I i)]) (fun i => i ≤ mid.length ∧ ∀ j, j < i → bt mid j ≠ 59) (fun i => mid.length - i) 0 ⟨by omega, fun j h => by omega⟩ ?_
      rintro i ⟨i1, i2⟩
      by_cases hlt : i < mid.length
      · obtain ⟨y, hy⟩ : ∃ y, mid[i]? = some y := ⟨_, List.getElem?_eq_getElem hlt⟩
        have hy2 := y.toNat_lt
        by_cases h59 : y.toNat = 59
        · have hsm := semi_at hy h59 i2
          have hg : goM mid = (2, numR (mid.take i) - 1, numR (mid.drop (i + 1)) - 1, 0) := by rw [goM, hsm, if_pos hlt]
          rw [hg]
          have r1 := numR_rng (mid.take i)
          have r2 := numR_rng (mid.drop (i + 1))
          clear c1 c2
          have c1 := f_number06 (T0 := T0) (mid.take i) (by rw [List.length_take]; omega)
          have c2 := f_number06 (T0 := T0) (mid.drop (i + 1)) (by rw [List.length_drop]; omega)
          have e : mid.drop (i + 1) = (mid.drop (i + 1)).take (mid.length - (i + 1)) := (List.take_of_length_le (by rw [List.length_drop]; omega)).symm
          generalize numR (mid.take i) = v1 at r1 c1 ⊢
          generalize numR (mid.drop (i + 1)) = v2 at r2 c2 ⊢
          rw [e] at c2
          clear e
          repeat' (first
          | fail
          | refine s_y ?_
            | refine c_ ?_
            | (refine aw_if ?_ ?_ <;> intro hb <;> try (exfalso; first | assumption | omega | (simp only [or_self, and_self, not_true_eq_false, not_false_eq_true, or_false, false_or, and_false, false_and, true_and, and_true] at hb; first | done | omega)))
            | refine s_call ?_ (c := by first | exact c1 | exact c2 | fail)
            | refine s_op ?_ (hy := by first | fail | fail)
            | refine s_yg ?_
            | refine s_callg ?_ (c := by intro hk hk2; first | exact c1 | exact c2 | fail)
            | refine s_opg ?_ (hy := by intro hk hk2; first | fail | fail)
            | refine s_skip ?_
            | ((first | refine w_alloc ?_ | refine w_box ?_) <;> intro bb)
            | ((first | refine w_emp ?_ | refine w_make ?_ | refine w_app ?_) <;> intro u hu1 hu2)
            | refine w_stv ?_ | refine w_str ?_ | refine w_cpr ?_ | refine w_cps ?_
            | refine al_last (by kernel_rfl) ?_
          | fail)
          all_goals first | (exfalso; omega) | exact ⟨_, [], rl_, List.nil_sublist _, Sub.refl _, rfl⟩
        · have hn : ∀ j, j < i + 1 → bt mid j ≠ 59 := fun j h => by
            rcases Nat.lt_or_ge j i with h' | h'
            · exact i2 j h'
            · obtain rfl : j = i := by omega
              rw [bt_at hy]; exact h59
          repeat' (first
          | fail
          | refine s_y ?_
            | refine c_ ?_
            | (refine aw_if ?_ ?_ <;> intro hb <;> try (exfalso; first | assumption | omega | (simp only [or_self, and_self, not_true_eq_false, not_false_eq_true, or_false, false_or, and_false, false_and, true_and, and_true] at hb; first | done | omega)))
            | refine s_call ?_ (c := by first | exact c1 | exact c2 | fail)
            | refine s_op ?_ (hy := by first | fail | fail)
            | refine s_yg ?_
            | refine s_callg ?_ (c := by intro hk hk2; first | exact c1 | exact c2 | fail)
            | refine s_opg ?_ (hy := by intro hk hk2; first | fail | fail)
            | refine s_skip ?_
            | ((first | refine w_alloc ?_ | refine w_box ?_) <;> intro bb)
            | ((first | refine w_emp ?_ | refine w_make ?_ | refine w_app ?_) <;> intro u hu1 hu2)
            | refine w_stv ?_ | refine w_str ?_ | refine w_cpr ?_ | refine w_cps ?_
            | refine al_last (by kernel_rfl) ?_
          | fail)
          all_goals first | (exfalso; omega) | exact ⟨i + 1, ⟨by omega, hn⟩, by omega, wx_, sl_⟩
      · have hg : goM mid = (0, 0, 0, 0) := by rw [goM, if_neg (semi_no fun j h => i2 j (by omega))]
        rw [hg]
        repeat' (first
        | fail
        | refine s_y ?_
          | refine c_ ?_
          | (refine aw_if ?_ ?_ <;> intro hb <;> try (exfalso; first | assumption | omega | (simp only [or_self, and_self, not_true_eq_false, not_false_eq_true, or_false, false_or, and_false, false_and, true_and, and_true] at hb; first | done | omega)))
          | refine s_call ?_ (c := by first | exact c1 | exact c2 | fail)
          | refine s_op ?_ (hy := by first | fail | fail)
          | refine s_yg ?_
          | refine s_callg ?_ (c := by intro hk hk2; first | exact c1 | exact c2 | fail)
          | refine s_opg ?_ (hy := by intro hk hk2; first | fail | fail)
          | refine s_skip ?_
          | ((first | refine w_alloc ?_ | refine w_box ?_) <;> intro bb)
          | ((first | refine w_emp ?_ | refine w_make ?_ | refine w_app ?_) <;> intro u hu1 hu2)
          | refine w_stv ?_ | refine w_str ?_ | refine w_cpr ?_ | refine w_cps ?_
          | refine al_last (by kernel_rfl) ?_
        | fail)
        all_goals first | (exfalso; omega) | exact ⟨_, [], rl_, List.nil_sublist _, Sub.refl _, rfl⟩
    · rw [escM, if_neg k1, if_neg k2, if_neg k3]
      have hr := numR_rng mid
      clear c1
      have c1 := f_number06 (T0 := T0) mid hml
      have c2 : mid = [] → (if mid = [] then (1 : Int) else numR mid) = 1 := fun h => by rw [if_pos h]
      have c3 : mid ≠ [] → (if mid = [] then (1 : Int) else numR mid) = numR mid := fun h => by rw [if_neg h]
      rw [hmid] at c1
      refine af_intro Tryd.func82 rfl (by decide) Tryd.ntmps82 rfl ?_
      repeat' (first
      | fail
      | refine s_y ?_
        | refine c_ ?_
        | (refine aw_if ?_ ?_ <;> intro hb <;> try (exfalso; first | assumption | omega | (simp only [or_self, and_self, not_true_eq_false, not_false_eq_true, or_false, false_or, and_false, false_and, true_and, and_true] at hb; first | done | omega)))
        | refine s_call ?_ (c := by first | exact c1 | exact c2 | fail)
        | refine s_op ?_ (hy := by first | fail | fail)
        | refine s_yg ?_
        | refine s_callg ?_ (c := by intro hk hk2; first | exact c1 | exact c2 | fail)
        | refine s_opg ?_ (hy := by intro hk hk2; first | fail | fail)
        | refine s_skip ?_
        | ((first | refine w_alloc ?_ | refine w_box ?_) <;> intro bb)
        | ((first | refine w_emp ?_ | refine w_make ?_ | refine w_app ?_) <;> intro u hu1 hu2)
        | refine w_stv ?_ | refine w_str ?_ | refine w_cpr ?_ | refine w_cps ?_
        | refine al_last (by kernel_rfl) ?_
      | fail)
      all_goals first | (exfalso; first | omega | exact e1 (by simpa using hb) | exact e2 (by simpa using hb) | exact e3 (by simpa using hb) | exact e4 (by simpa using hb)) | skip
      all_goals first | exact ⟨_, [], rl_, List.nil_sublist _, Sub.eq (by rw [c2 (hmid.trans (by simpa using hb))]; rfl), rfl⟩ | exact ⟨_, [], rl_, List.nil_sublist _, Sub.eq (by rw [c3 (by rw [hmid]; simpa using hb), hmid]; rfl), rfl⟩
/-- is it just a command's bytes? -/
def wholeR (s : List UInt8) : Cmd × Bool := (maybeM s, isCmd (maybeM s) && decide (bytesB (maybeM s) = s))
theorem whole_shape {s : List UInt8} (h : (wholeR s).2 = true) : Shape (maybeM s) s := by
  simp only [wholeR, Bool.and_eq_true, decide_eq_true_eq] at h
  have := shape_of h.1
  rw [h.2] at this; exact this
theorem f_whole06 (s : List UInt8) (hs : s.length ≤ 90000) : AP Tryd.prog T0 42 [SA s] (tupA [cmdA (wholeR s).1, B (wholeR s).2]) := by
  have c1 := f_maybe (T0 := T0) s hs
  have c2 := f_ref05Put (T0 := T0) (maybeM s)
  rw [wholeR]
  generalize maybeM s = c at c1 c2 ⊢
  cases hc : isCmd c with
  | true =>
    have e2 : putR' c = (bytesB c, 0) := by rw [putR', if_pos hc]
    rw [e2] at c2
    refine af_intro Tryd.func42 rfl (by decide) Tryd.ntmps42 rfl ?_
    repeat' (first
    | fail
    | refine s_y ?_
      | refine c_ ?_
      | (refine aw_if ?_ ?_ <;> intro hb <;> try (exfalso; first | assumption | omega | (simp only [or_self, and_self, not_true_eq_false, not_false_eq_true, or_false, false_or, and_false, false_and, true_and, and_true] at hb; first | done | omega)))
      | refine s_call ?_ (c := by first | exact c1 | exact c2 | fail)
      | refine s_op ?_ (hy := by first | fail | fail)
      | refine s_yg ?_
      | refine s_callg ?_ (c := by intro hk hk2; first | exact c1 | exact c2 | fail)
      | refine s_opg ?_ (hy := by intro hk hk2; first | fail | fail)
      | refine s_skip ?_
      | ((first | refine w_alloc ?_ | refine w_box ?_) <;> intro bb)
      | ((first | refine w_emp ?_ | refine w_make ?_ | refine w_app ?_) <;> intro u hu1 hu2)
      | refine w_stv ?_ | refine w_str ?_ | refine w_cpr ?_ | refine w_cps ?_
      | refine al_last (by kernel_rfl) ?_
    | fail)
    all_goals first | exact ⟨_, [], rl_, List.nil_sublist _, Sub.refl _, rfl⟩ | exact ⟨_, [], rl_, List.nil_sublist _, Sub.eq (by simp), rfl⟩
  | false =>
    have e2 : putR' c = ([], 1) := by rw [putR', if_neg (by rw [hc]; decide)]
    rw [e2] at c2
    refine af_intro Tryd.func42 rfl (by decide) Tryd.ntmps42 rfl ?_
    repeat' (first
    | fail
    | refine s_y ?_
      | refine c_ ?_
      | (refine aw_if ?_ ?_ <;> intro hb <;> try (exfalso; first | assumption | omega | (simp only [or_self, and_self, not_true_eq_false, not_false_eq_true, or_false, false_or, and_false, false_and, true_and, and_true] at hb; first | done | omega)))
      | refine s_call ?_ (c := by first | exact c1 | exact c2 | fail)
      | refine s_op ?_ (hy := by first | fail | fail)
      | refine s_yg ?_
      | refine s_callg ?_ (c := by intro hk hk2; first | exact c1 | exact c2 | fail)
      | refine s_opg ?_ (hy := by intro hk hk2; first | fail | fail)
      | refine s_skip ?_
      | ((first | refine w_alloc ?_ | refine w_box ?_) <;> intro bb)
      | ((first | refine w_emp ?_ | refine w_make ?_ | refine w_app ?_) <;> intro u hu1 hu2)
      | refine w_stv ?_ | refine w_str ?_ | refine w_cpr ?_ | refine w_cps ?_
      | refine al_last (by kernel_rfl) ?_
    | fail)
    all_goals first | exact ⟨_, [], rl_, List.nil_sublist _, Sub.refl _, rfl⟩ | exact ⟨_, [], rl_, List.nil_sublist _, Sub.eq (by simp), rfl⟩
end Go.Proofs.YtplabpjkkcillaaDoor
/- Layer 6 (scan): what the reference finds is what the program finds (plain laws). No condition. -/
namespace Go.Proofs.YtplabpjkkcillaaDoor
set_option linter.unusedSimpArgs false
set_option linter.unusedVariables false
set_option linter.unusedSectionVars false
set_option maxHeartbeats 4000000
open Go Go.RowKit
set_option maxRecDepth 100000
theorem maybe_esc (m : List UInt8) (x : UInt8) : maybeM (27 :: 91 :: (m ++ [x])) = escM m x := by
  have hlen : (27 :: 91 :: (m ++ [x]) : List UInt8).length = m.length + 3 := by simp
  rw [maybeM, if_neg (by simp), if_neg (by simp), if_neg (by simp), if_neg (by simp), if_neg (by rw [hlen, bt_cons0]; intro h; rcases h with h | h; omega; exact h rfl), hlen]
  have e1 : ((27 :: 91 :: (m ++ [x]) : List UInt8).drop 2).take (m.length + 3 - 1 - 2) = m := by
    rw [show m.length + 3 - 1 - 2 = m.length by omega]; simp
  have e2 : bt (27 :: 91 :: (m ++ [x])) (m.length + 3 - 1) = x.toNat := by
    apply bt_at
    rw [show m.length + 3 - 1 = m.length + 2 by omega]; simp
  rw [e1, e2]; simp
theorem next_enc {r : Int} (h : isG r = true) (t : List UInt8) : nextG (encC r ++ t) = (r, (((encC r).length : Nat) : Int), 0) := by
  have hl := encC_len r
  obtain ⟨d1, d2⟩ := dec_enc h t
  rw [nextG, if_neg (by intro e; have := congrArg List.length e; simp only [List.length_append, List.length_nil] at this; omega), if_neg (by rw [full_enc h]; decide), d1, d2]
theorem dig_no59 {n j : Nat} (hn : n < 100) (h : j < (digB n).length) : bt (digB n) j ≠ 59 := by
  unfold digB at h ⊢
  split at h
  · rename_i h1
    rw [if_pos h1]
    obtain rfl : j = 0 := by simp only [List.length_singleton] at h; omega
    rw [bt_cons0, ofNat_bt (by omega)]; omega
  · rename_i h1
    rw [if_neg h1]
    simp only [List.length_cons, List.length_nil] at h
    have : j = 0 ∨ j = 1 := by omega
    rcases this with rfl | rfl
    · rw [bt_cons0, ofNat_bt (by omega)]; omega
    · rw [bt_cons1, ofNat_bt (by omega)]; omega
theorem semi_dig {x : Nat} (hx : x < 100) (t : List UInt8) : semi (digB x ++ 59 :: t) = (digB x).length := by
  refine semi_at (b := 59) (by simp) rfl fun j hj => ?_
  rw [bt_app_l hj]; exact dig_no59 hx hj
theorem go_dig {x : Nat} (hx : x < 100) (t : List UInt8) : goM (digB x ++ 59 :: t) = (2, (x : Int) - 1, numR t - 1, 0) := by
  have e : (digB x ++ 59 :: t).drop ((digB x).length + 1) = t := by
    rw [← List.drop_drop, List.drop_left]; rfl
  rw [goM, semi_dig hx, if_pos (by simp), List.take_left, numR_dig hx, e]
theorem maybe_is {c : Cmd} {l : List UInt8} (h : Shape c l) : maybeM l = c := by
  cases h with
  | text n hs =>
    obtain ⟨x, l', e, hx⟩ := enc_head hs
    have hg := isG_shown hs
    have hn := next_enc hg []
    rw [List.append_nil] at hn
    have hne : ∀ b : UInt8, b.toNat < 32 → encC n ≠ [b] := fun b hb h => by
      rw [e] at h
      have := (List.cons.inj h).1
      rw [this] at hx; omega
    have hne2 : bt (encC n) 0 ≠ 27 := by rw [e, bt_cons0]; omega
    rw [maybeM, if_neg (hne _ (by decide)), if_neg (hne _ (by decide)), if_neg (hne _ (by decide)), if_neg (hne _ (by decide)), if_pos (.inr hne2), hn]
  | go a b ha hb =>
    have e : (27 :: 91 :: (digB (a + 1) ++ 59 :: (digB (b + 1) ++ [72])) : List UInt8) = 27 :: 91 :: ((digB (a + 1) ++ 59 :: digB (b + 1)) ++ [72]) := by simp
    rw [e, maybe_esc, escM, if_neg (by decide), if_neg (by decide), if_pos (by decide), go_dig (by omega), numR_dig (by omega)]
    congr 2 <;> first | omega | (congr 1; omega)
  | one k hk =>
    have e : (UInt8.ofNat (62 + k)).toNat = 62 + k := ofNat_bt (by omega)
    have := maybe_esc [] (UInt8.ofNat (62 + k))
    rw [List.nil_append] at this
    rw [this, escM, if_neg (by rw [e]; omega), if_neg (by rw [e]; omega), if_neg (by rw [e]; omega), e, if_pos rfl]
    congr 1; omega
  | move k a hk ha =>
    have e : (UInt8.ofNat (62 + k)).toNat = 62 + k := ofNat_bt (by omega)
    have hd := digB_len a
    rw [maybe_esc, escM, if_neg (by rw [e]; omega), if_neg (by rw [e]; omega), if_neg (by rw [e]; omega), e, if_neg (by intro h; rw [h] at hd; simp at hd), numR_dig (by omega)]
    congr 1; omega
  | form k hk =>
    have : k = 7 ∨ k = 8 ∨ k = 9 ∨ k = 10 ∨ k = 11 ∨ k = 12 := by omega
    rcases this with rfl | rfl | rfl | rfl | rfl | rfl <;> rfl
theorem whole_full {c : Cmd} {l : List UInt8} (h : Shape c l) : wholeR l = (c, true) := by
  obtain ⟨h1, h2⟩ := shape_is h
  rw [wholeR, maybe_is h, h1, h2]; simp
/-- what may stand behind a beginning -/
def sfx : List (List UInt8) := [[91, 65], [65], [59, 49, 72], [49, 72], [72]]
theorem dig_pre {x k : Nat} (hx : 1 ≤ x ∧ x < 100) (h1 : 1 ≤ k) (h2 : k ≤ (digB x).length) : ∃ y, 1 ≤ y ∧ y ≤ x ∧ (digB x).take k = digB y := by
  by_cases hk : k = (digB x).length
  · exact ⟨x, hx.1, Nat.le_refl _, by rw [hk, List.take_length]⟩
  · by_cases h10 : x < 10
    · exfalso; rw [digB, if_pos h10] at h2 hk; simp only [List.length_singleton] at h2 hk; omega
    · refine ⟨x / 10, by omega, by omega, ?_⟩
      rw [digB, if_neg h10] at h2 hk ⊢
      simp only [List.length_cons, List.length_nil] at h2 hk
      obtain rfl : k = 1 := by omega
      rw [digB, if_pos (by omega)]; rfl
theorem pre_esc {m : List UInt8} {x : UInt8} {s : List UInt8} (h0 : s ≠ []) (hl : s.length < (27 :: 91 :: (m ++ [x]) : List UInt8).length) (hs : s = (27 :: 91 :: (m ++ [x]) : List UInt8).take s.length) :
    s = [27] ∨ s = [27, 91] ∨ ∃ k, 1 ≤ k ∧ k ≤ m.length ∧ s = 27 :: 91 :: m.take k := by
  match hn : s.length with
  | 0 => exact absurd (List.length_eq_zero_iff.1 hn) h0
  | 1 => left; rw [hn] at hs; rw [hs]; rfl
  | 2 => right; left; rw [hn] at hs; rw [hs]; rfl
  | k + 3 =>
    right; right
    rw [hn] at hs hl
    simp only [List.length_cons, List.length_append, List.length_singleton, List.length_nil] at hl
    refine ⟨k + 1, by omega, by omega, ?_⟩
    rw [hs]
    show 27 :: 91 :: (m ++ [x]).take (k + 1) = _
    rw [List.take_append_of_le_length (by omega)]
/-- some ending makes it whole -/
def Ends (s : List UInt8) : Prop := ∃ j, j < 5 ∧ (wholeR (s ++ sfx[j]!)).2 = true
theorem ends_1 : Ends [27] := ⟨0, by decide, by rw [show (([27] : List UInt8) ++ sfx[0]!) = [27, 91, UInt8.ofNat (62 + 3)] from rfl, whole_full (.one 3 (by decide))]⟩
theorem ends_2 : Ends [27, 91] := ⟨1, by decide, by rw [show (([27, 91] : List UInt8) ++ sfx[1]!) = [27, 91, UInt8.ofNat (62 + 3)] from rfl, whole_full (.one 3 (by decide))]⟩
theorem ends_go {y : Nat} (h1 : 1 ≤ y) (h2 : y ≤ 24) : Ends (27 :: 91 :: digB y) := ⟨2, by decide, by
  have := whole_full (.go (y - 1) 0 (by omega) (by omega))
  rw [show y - 1 + 1 = y by omega] at this
  rw [show (27 :: 91 :: digB y) ++ sfx[2]! = (27 :: 91 :: (digB y ++ 59 :: (digB (0 + 1) ++ [72])) : List UInt8) from rfl, this]⟩
theorem ends_go2 {y : Nat} (h1 : 1 ≤ y) (h2 : y ≤ 24) : Ends (27 :: 91 :: (digB y ++ [59])) := ⟨3, by decide, by
  have := whole_full (.go (y - 1) 0 (by omega) (by omega))
  rw [show y - 1 + 1 = y by omega] at this
  rw [show (27 :: 91 :: (digB y ++ [59])) ++ sfx[3]! = (27 :: 91 :: (digB y ++ 59 :: (digB (0 + 1) ++ [72])) : List UInt8) by
    rw [List.cons_append, List.cons_append, List.append_assoc]; rfl, this]⟩
theorem ends_go3 {y z : Nat} (h1 : 1 ≤ y) (h2 : y ≤ 24) (h3 : 1 ≤ z) (h4 : z ≤ 80) : Ends (27 :: 91 :: (digB y ++ 59 :: digB z)) := ⟨4, by decide, by
  have := whole_full (.go (y - 1) (z - 1) (by omega) (by omega))
  rw [show y - 1 + 1 = y by omega, show z - 1 + 1 = z by omega] at this
  rw [show (27 :: 91 :: (digB y ++ 59 :: digB z)) ++ sfx[4]! = (27 :: 91 :: (digB y ++ 59 :: (digB z ++ [72])) : List UInt8) by
    rw [List.cons_append, List.cons_append, List.append_assoc]; rfl, this]⟩
theorem ends_mv {y : Nat} (h1 : 1 ≤ y) (h2 : y ≤ 80) : Ends (27 :: 91 :: digB y) := by
  by_cases h : y = 1
  · exact ends_go h1 (by omega)
  · refine ⟨1, by decide, ?_⟩
    rw [show (27 :: 91 :: digB y) ++ sfx[1]! = (27 :: 91 :: (digB y ++ [UInt8.ofNat (62 + 3)]) : List UInt8) from rfl, whole_full (.move 3 y (by decide) (by omega))]
theorem ends_of {c : Cmd} {l s : List UInt8} (h : Shape c l) (hc : c.1 ≠ 1) (h0 : s ≠ []) (hl : s.length < l.length) (hs : s = l.take s.length) : Ends s ∧ bt s 0 = 27 := by
  have fin : ∀ (m : List UInt8) (x : UInt8), l = 27 :: 91 :: (m ++ [x]) → (∀ k, 1 ≤ k → k ≤ m.length → Ends (27 :: 91 :: m.take k)) → Ends s ∧ bt s 0 = 27 := fun m x e hk => by
    subst e
    rcases pre_esc h0 hl hs with rfl | rfl | ⟨k, k1, k2, rfl⟩
    · exact ⟨ends_1, rfl⟩
    · exact ⟨ends_2, rfl⟩
    · exact ⟨hk k k1 k2, rfl⟩
  cases h with
  | text n hs => exact absurd rfl hc
  | go a b ha hb =>
    refine fin (digB (a + 1) ++ 59 :: digB (b + 1)) 72 (by simp) fun k k1 k2 => ?_
    rcases Nat.lt_or_ge (digB (a + 1)).length k with h | h
    · obtain ⟨j, rfl⟩ : ∃ j, k = (digB (a + 1)).length + (j + 1) := ⟨k - (digB (a + 1)).length - 1, by omega⟩
      rw [List.take_length_add_append, List.take_succ_cons]
      by_cases hj : j = 0
      · subst hj; exact ends_go2 (by omega) (by omega)
      · simp only [List.length_append, List.length_cons] at k2
        obtain ⟨y, y1, y2, y3⟩ := dig_pre (x := b + 1) (k := j) (by omega) (by omega) (by omega)
        rw [y3]; exact ends_go3 (by omega) (by omega) y1 (by omega)
    · obtain ⟨y, y1, y2, y3⟩ := dig_pre (x := a + 1) (k := k) (by omega) k1 h
      rw [List.take_append_of_le_length h, y3]
      exact ends_go y1 (by omega)
  | one k hk => exact fin [] (UInt8.ofNat (62 + k)) rfl fun j j1 j2 => by simp only [List.length_nil] at j2; omega
  | move k a hk ha =>
    refine fin (digB a) (UInt8.ofNat (62 + k)) rfl fun j j1 j2 => ?_
    obtain ⟨y, y1, y2, y3⟩ := dig_pre (x := a) (k := j) (by omega) j1 j2
    rw [y3]; exact ends_mv y1 (by omega)
  | form k hk =>
    have h1 : 1 ≤ s.length := by cases s with | nil => exact absurd rfl h0 | cons => simp
    have : k = 7 ∨ k = 8 ∨ k = 9 ∨ k = 10 ∨ k = 11 ∨ k = 12 := by omega
    rcases this with rfl | rfl | rfl | rfl | rfl | rfl
    · exact fin [] 75 rfl fun j j1 j2 => by simp only [List.length_nil] at j2; omega
    · exact fin [] 74 rfl fun j j1 j2 => by simp only [List.length_nil] at j2; omega
    all_goals (exfalso; have : s.length < 1 := hl; omega)
theorem more_ends {s : List UInt8} (h : MoreC s) (hf : fullG s = true) : Ends s ∧ bt s 0 = 27 := by
  rcases h with h | ⟨h0, c, l, h1, h2, h3, h4⟩
  · rw [not_full_of_more h] at hf; cases hf
  · exact ends_of h1 h2 h0 h3 h4
theorem ends_more {s : List UInt8} (h0 : s ≠ []) {x : List UInt8} (hx : 1 ≤ x.length) (h : (wholeR (s ++ x)).2 = true) (h27 : bt s 0 = 27) : MoreC s := by
  have hs := whole_shape h
  refine .inr ⟨h0, _, _, hs, ?_, by rw [List.length_append]; omega, by rw [List.take_left]⟩
  intro h1
  generalize maybeM (s ++ x) = c at hs h1
  generalize he : s ++ x = l at hs
  cases hs with
  | text n hs =>
    obtain ⟨y, l', e, hy⟩ := enc_head hs
    have hp : 0 < s.length := by cases s with | nil => exact absurd rfl h0 | cons => simp
    have := bt_app_l (t := x) hp
    rw [he, e, bt_cons0] at this; omega
  | go a b => exact absurd h1 (by simp only; omega)
  | one k hk => exact absurd h1 (by simp only; omega)
  | move k a hk => exact absurd h1 (by simp only; omega)
  | form k hk => exact absurd h1 (by simp only; omega)
theorem more_iff {s : List UInt8} (h0 : s ≠ []) : (cmdM s).1 = 3 ↔ MoreC s := by
  constructor
  · intro h
    rcases cmd_sound s h0 with ⟨c, l, t, _, _, h3⟩ | ⟨_, h1⟩ | h1
    · rw [h3] at h; cases h
    · exact h1
    · rw [h1] at h; cases h
  · intro h; rw [cmd_more h]; rfl
end Go.Proofs.YtplabpjkkcillaaDoor
/- Layer 6 (scan): the reference's more, Next and All. No condition. -/
namespace Go.Proofs.YtplabpjkkcillaaDoor
set_option linter.unusedSimpArgs false
set_option linter.unusedVariables false
set_option linter.unusedSectionVars false
set_option maxHeartbeats 4000000
open Go Go.RowKit
variable {T0 : Gh}
set_option maxRecDepth 200000
def strT : Ty (List UInt8) := { enc := fun l => [.string ⟨l.toArray⟩], k := 1, len := fun _ => rfl }
theorem el_str : El Tryd.prog strT 9 [] 16 SA := ⟨⟨.string ⟨#[]⟩, by kernel_rfl, rfl⟩, by decide, fun x v hv => by simp [strT] at hv; subst hv; rfl, .inr ⟨agg_no (by kernel_rfl), rfl, fun x v h => by simp [strT] at h; rw [← h]⟩⟩
instance cElStr : ElC 9 strT [] 16 SA := ⟨el_str⟩
theorem un_strs : Tryd.prog.underlying 102 = some (.slice 9) := by kernel_rfl
instance cUnStrs : UnC 102 (.slice 9) := ⟨un_strs⟩
attribute [local irreducible] thenA inBlockA AW AL AO QY varO rowO rsA Opd OpdN vA gvA tupA aggA slA slcA ipA rpA EqK LnK IxK LdK FaK FdK
theorem f_more06 (s : List UInt8) (h0 : s ≠ []) (hs : s.length ≤ 80000) : AP Tryd.prog T0 43 [SA s] (B (decide ((cmdM s).1 = 3))) := by
  have c1 := f_ref01Next (T0 := T0) s (by omega)
  have c2 : True := trivial
  have hm := more_iff h0
  cases hf : fullG s with
  | false =>
    have e : nextG s = (0, 0, 3) := by rw [nextG, if_neg h0, if_pos hf]
    rw [e] at c1
    have ht : decide ((cmdM s).1 = 3) = true := decide_eq_true (hm.2 (.inl (more_of_not_full h0 hf)))
    rw [ht]
    refine af_intro Tryd.func43 rfl (by decide) Tryd.ntmps43 rfl ?_
    repeat' (first
    | fail
    | refine s_y ?_
      | refine c_ ?_
      | (refine aw_if ?_ ?_ <;> intro hb <;> try (exfalso; first | assumption | omega | (simp only [or_self, and_self, not_true_eq_false, not_false_eq_true, or_false, false_or, and_false, false_and, true_and, and_true] at hb; first | done | omega)))
      | refine s_call ?_ (c := by first | exact c1 | exact c2 | fail)
      | refine s_op ?_ (hy := by first | exact AY.sub (ay_buildSlice (T := strT) [[91, 65], [65], [59, 49, 72], [49, 72], [72]] rfl un_strs el_str rfl (by decide) ⟨_, pxg_, rfl⟩) sub_slc | fail)
      | refine s_yg ?_
      | refine s_callg ?_ (c := by intro hk hk2; first | exact c1 | exact c2 | fail)
      | refine s_opg ?_ (hy := by intro hk hk2; first | exact AY.sub (ay_buildSlice (T := strT) [[91, 65], [65], [59, 49, 72], [49, 72], [72]] rfl un_strs el_str rfl (by decide) ⟨_, pxg_, rfl⟩) sub_slc | fail)
      | refine s_skip ?_
      | ((first | refine w_alloc ?_ | refine w_box ?_) <;> intro bb)
      | ((first | refine w_emp ?_ | refine w_make ?_ | refine w_app ?_) <;> intro u hu1 hu2)
      | refine w_stv ?_ | refine w_str ?_ | refine w_cpr ?_ | refine w_cps ?_
      | refine al_last (by kernel_rfl) ?_
    | fail)
    all_goals first | (exfalso; omega) | exact ⟨_, [], rl_, List.nil_sublist _, Sub.refl _, rfl⟩
  | true =>
    obtain ⟨r, n, e⟩ : ∃ r n, nextG s = (r, n, 0) := ⟨((decG s).1 : Nat), ((decG s).2 : Nat), by rw [nextG, if_neg h0, if_neg (by rw [hf]; decide)]⟩
    rw [e] at c1
    have hme := fun h => more_ends (s := s) h hf
    obtain ⟨x0, hx0⟩ : ∃ x, s[0]? = some x := by cases s with | nil => exact absurd rfl h0 | cons b l => exact ⟨b, rfl⟩
    have hb0 := bt_at hx0
    have hx2 := x0.toNat_lt
    refine af_intro Tryd.func43 rfl (by decide) Tryd.ntmps43 rfl ?_
    repeat' (first
    | fail
    | refine s_y ?_
      | refine c_ ?_
      | (refine aw_if ?_ ?_ <;> intro hb <;> try (exfalso; first | assumption | omega | (simp only [or_self, and_self, not_true_eq_false, not_false_eq_true, or_false, false_or, and_false, false_and, true_and, and_true] at hb; first | done | omega)))
      | refine s_call ?_ (c := by first | exact c1 | exact c2 | fail)
      | refine s_op ?_ (hy := by first | exact AY.sub (ay_buildSlice (T := strT) [[91, 65], [65], [59, 49, 72], [49, 72], [72]] rfl un_strs el_str rfl (by decide) ⟨_, pxg_, rfl⟩) sub_slc | fail)
      | refine s_yg ?_
      | refine s_callg ?_ (c := by intro hk hk2; first | exact c1 | exact c2 | fail)
      | refine s_opg ?_ (hy := by intro hk hk2; first | exact AY.sub (ay_buildSlice (T := strT) [[91, 65], [65], [59, 49, 72], [49, 72], [72]] rfl un_strs el_str rfl (by decide) ⟨_, pxg_, rfl⟩) sub_slc | fail)
      | refine s_skip ?_
      | ((first | refine w_alloc ?_ | refine w_box ?_) <;> intro bb)
      | ((first | refine w_emp ?_ | refine w_make ?_ | refine w_app ?_) <;> intro u hu1 hu2)
      | refine w_stv ?_ | refine w_str ?_ | refine w_cpr ?_ | refine w_cps ?_
      | refine al_last (by kernel_rfl) ?_
    | fail)
    all_goals first | (exfalso; omega) | skip
    clear c1
    have c1 : True := trivial
    obtain ⟨L, hL⟩ : ∃ L : List (List UInt8), L = [[91, 65], [65], [59, 49, 72], [49, 72], [72]] := ⟨_, rfl⟩
    have hLl : L.length = 5 := by rw [hL]; rfl
    rw [← hL]
    refine aw_lf (σ := Nat) (fun i => [(7, I i)]) (fun i => i ≤ 5 ∧ ∀ j, j < i → ¬ ((wholeR (s ++ sfx[j]!)).2 = true ∧ bt s 0 = 27)) (fun i => 5 - i) 0 ⟨by omega, fun j h => by omega⟩ ?_
    rintro i ⟨i1, i2⟩
    by_cases h5 : i < 5
    · have hat : L[i]? = some sfx[i]! := by
        rw [hL]
        have : i = 0 ∨ i = 1 ∨ i = 2 ∨ i = 3 ∨ i = 4 := by omega
        rcases this with rfl | rfl | rfl | rfl | rfl <;> rfl
      have hsl : 1 ≤ (sfx[i]!).length ∧ (sfx[i]!).length ≤ 3 := by
        have : i = 0 ∨ i = 1 ∨ i = 2 ∨ i = 3 ∨ i = 4 := by omega
        rcases this with rfl | rfl | rfl | rfl | rfl <;> decide
      have hem := ends_more h0 hsl.1
      have hi2 := fun h => i2 i h
      have hnx : ∀ j, j < i + 1 → (¬ ((wholeR (s ++ sfx[i]!)).2 = true ∧ bt s 0 = 27)) → ¬ ((wholeR (s ++ sfx[j]!)).2 = true ∧ bt s 0 = 27) := fun j h hh => by
        rcases Nat.lt_or_ge j i with h' | h'
        · exact i2 j h'
        · obtain rfl : j = i := by omega
          exact hh
      obtain ⟨x, hx⟩ : ∃ x, x = sfx[i]! := ⟨_, rfl⟩
      rw [← hx] at hat hsl hem hnx
      clear c2 hx hi2 i2 hL
      have hcat : s.length + x.length ≤ 9223372036854775807 := by omega
      have c2 := f_whole06 (T0 := T0) (s ++ x) (by rw [List.length_append]; omega)
      cases hw : (wholeR (s ++ x)).2 with
      | true =>
        rw [hw] at c2
        by_cases h27 : x0.toNat = 27
        · have ht : decide ((cmdM s).1 = 3) = true := decide_eq_true (hm.2 (hem hw (by omega)))
          rw [ht]
          repeat' (first
          | fail
          | refine s_y ?_
            | refine c_ ?_
            | (refine aw_if ?_ ?_ <;> intro hb <;> try (exfalso; first | assumption | omega | (simp only [or_self, and_self, not_true_eq_false, not_false_eq_true, or_false, false_or, and_false, false_and, true_and, and_true] at hb; first | done | omega)))
            | refine s_call ?_ (c := by first | exact c1 | exact c2 | fail)
            | refine s_op ?_ (hy := by first | exact AY.sub (ay_buildSlice (T := strT) [[91, 65], [65], [59, 49, 72], [49, 72], [72]] rfl un_strs el_str rfl (by decide) ⟨_, pxg_, rfl⟩) sub_slc | fail)
            | refine s_yg ?_
            | refine s_callg ?_ (c := by intro hk hk2; first | exact c1 | exact c2 | fail)
            | refine s_opg ?_ (hy := by intro hk hk2; first | exact AY.sub (ay_buildSlice (T := strT) [[91, 65], [65], [59, 49, 72], [49, 72], [72]] rfl un_strs el_str rfl (by decide) ⟨_, pxg_, rfl⟩) sub_slc | fail)
            | refine s_skip ?_
            | ((first | refine w_alloc ?_ | refine w_box ?_) <;> intro bb)
            | ((first | refine w_emp ?_ | refine w_make ?_ | refine w_app ?_) <;> intro u hu1 hu2)
            | refine w_stv ?_ | refine w_str ?_ | refine w_cpr ?_ | refine w_cps ?_
            | refine al_last (by kernel_rfl) ?_
          | fail)
          all_goals first | (exfalso; omega) | exact ⟨_, [], rl_, List.nil_sublist _, Sub.refl _, rfl⟩
        · have hn := fun j h => hnx j h (fun h => by omega)
          repeat' (first
          | fail
          | refine s_y ?_
            | refine c_ ?_
            | (refine aw_if ?_ ?_ <;> intro hb <;> try (exfalso; first | assumption | omega | (simp only [or_self, and_self, not_true_eq_false, not_false_eq_true, or_false, false_or, and_false, false_and, true_and, and_true] at hb; first | done | omega)))
            | refine s_call ?_ (c := by first | exact c1 | exact c2 | fail)
            | refine s_op ?_ (hy := by first | exact AY.sub (ay_buildSlice (T := strT) [[91, 65], [65], [59, 49, 72], [49, 72], [72]] rfl un_strs el_str rfl (by decide) ⟨_, pxg_, rfl⟩) sub_slc | fail)
            | refine s_yg ?_
            | refine s_callg ?_ (c := by intro hk hk2; first | exact c1 | exact c2 | fail)
            | refine s_opg ?_ (hy := by intro hk hk2; first | exact AY.sub (ay_buildSlice (T := strT) [[91, 65], [65], [59, 49, 72], [49, 72], [72]] rfl un_strs el_str rfl (by decide) ⟨_, pxg_, rfl⟩) sub_slc | fail)
            | refine s_skip ?_
            | ((first | refine w_alloc ?_ | refine w_box ?_) <;> intro bb)
            | ((first | refine w_emp ?_ | refine w_make ?_ | refine w_app ?_) <;> intro u hu1 hu2)
            | refine w_stv ?_ | refine w_str ?_ | refine w_cpr ?_ | refine w_cps ?_
            | refine al_last (by kernel_rfl) ?_
          | fail)
          all_goals first | (exfalso; omega) | exact ⟨i + 1, ⟨by omega, hn⟩, by omega, wx_, sl_⟩
      | false =>
        rw [hw] at c2 hnx
        have hn := fun j h => hnx j h (fun h => by cases h.1)
        repeat' (first
        | fail
        | refine s_y ?_
          | refine c_ ?_
          | (refine aw_if ?_ ?_ <;> intro hb <;> try (exfalso; first | assumption | omega | (simp only [or_self, and_self, not_true_eq_false, not_false_eq_true, or_false, false_or, and_false, false_and, true_and, and_true] at hb; first | done | omega)))
          | refine s_call ?_ (c := by first | exact c1 | exact c2 | fail)
          | refine s_op ?_ (hy := by first | exact AY.sub (ay_buildSlice (T := strT) [[91, 65], [65], [59, 49, 72], [49, 72], [72]] rfl un_strs el_str rfl (by decide) ⟨_, pxg_, rfl⟩) sub_slc | fail)
          | refine s_yg ?_
          | refine s_callg ?_ (c := by intro hk hk2; first | exact c1 | exact c2 | fail)
          | refine s_opg ?_ (hy := by intro hk hk2; first | exact AY.sub (ay_buildSlice (T := strT) [[91, 65], [65], [59, 49, 72], [49, 72], [72]] rfl un_strs el_str rfl (by decide) ⟨_, pxg_, rfl⟩) sub_slc | fail)
          | refine s_skip ?_
          | ((first | refine w_alloc ?_ | refine w_box ?_) <;> intro bb)
          | ((first | refine w_emp ?_ | refine w_make ?_ | refine w_app ?_) <;> intro u hu1 hu2)
          | refine w_stv ?_ | refine w_str ?_ | refine w_cpr ?_ | refine w_cps ?_
          | refine al_last (by kernel_rfl) ?_
        | fail)
        all_goals first | (exfalso; omega) | exact ⟨i + 1, ⟨by omega, hn⟩, by omega, wx_, sl_⟩
    · have ht : decide ((cmdM s).1 = 3) = false := decide_eq_false fun h => by
        obtain ⟨⟨j, j1, j2⟩, j3⟩ := hme (hm.1 h)
        exact i2 j (by omega) ⟨j2, j3⟩
      rw [ht]
      repeat' (first
      | fail
      | refine s_y ?_
        | refine c_ ?_
        | (refine aw_if ?_ ?_ <;> intro hb <;> try (exfalso; first | assumption | omega | (simp only [or_self, and_self, not_true_eq_false, not_false_eq_true, or_false, false_or, and_false, false_and, true_and, and_true] at hb; first | done | omega)))
        | refine s_call ?_ (c := by first | exact c1 | exact c2 | fail)
        | refine s_op ?_ (hy := by first | exact AY.sub (ay_buildSlice (T := strT) [[91, 65], [65], [59, 49, 72], [49, 72], [72]] rfl un_strs el_str rfl (by decide) ⟨_, pxg_, rfl⟩) sub_slc | fail)
        | refine s_yg ?_
        | refine s_callg ?_ (c := by intro hk hk2; first | exact c1 | exact c2 | fail)
        | refine s_opg ?_ (hy := by intro hk hk2; first | exact AY.sub (ay_buildSlice (T := strT) [[91, 65], [65], [59, 49, 72], [49, 72], [72]] rfl un_strs el_str rfl (by decide) ⟨_, pxg_, rfl⟩) sub_slc | fail)
        | refine s_skip ?_
        | ((first | refine w_alloc ?_ | refine w_box ?_) <;> intro bb)
        | ((first | refine w_emp ?_ | refine w_make ?_ | refine w_app ?_) <;> intro u hu1 hu2)
        | refine w_stv ?_ | refine w_str ?_ | refine w_cpr ?_ | refine w_cps ?_
        | refine al_last (by kernel_rfl) ?_
      | fail)
      all_goals first | (exfalso; omega) | exact ⟨_, [], rl_, List.nil_sublist _, Sub.refl _, rfl⟩
end Go.Proofs.YtplabpjkkcillaaDoor
/- Layer 6 (scan): the reference's Next and All are the program's. No condition. -/
namespace Go.Proofs.YtplabpjkkcillaaDoor
set_option linter.unusedSimpArgs false
set_option linter.unusedVariables false
set_option linter.unusedSectionVars false
set_option maxHeartbeats 4000000
open Go Go.RowKit
variable {T0 : Gh}
set_option maxRecDepth 200000
theorem nextM_found {s : List UInt8} {k : Nat} (hk : 1 ≤ k) (hs : k ≤ s.length) (h : (wholeR (s.take k)).2 = true) : nextM s = ((wholeR (s.take k)).1, s.drop k, 0) := by
  have h1 := cmd_full (whole_shape h) (s.drop k)
  rw [List.take_append_drop] at h1
  have hne : s ≠ [] := by rintro rfl; simp only [List.length_nil] at hs; omega
  rw [nextM, if_neg hne, h1]; rfl
theorem shape_len {c : Cmd} {l : List UInt8} (h : Shape c l) : l.length ≤ 8 := by
  obtain ⟨h1, h2⟩ := shape_is h
  rw [← h2]; exact (bytesB_len h1).2
theorem nextM_none {s : List UInt8} (h0 : s ≠ []) (h : ∀ k, 1 ≤ k → k ≤ 8 → k ≤ s.length → (wholeR (s.take k)).2 = false) : nextM s = if decide ((cmdM s).1 = 3) = true then ((0, 0, 0, 0), [], 3) else ((0, 0, 0, 0), [], 2) := by
  rw [nextM, if_neg h0]
  rcases cmd_sound s h0 with ⟨c, l, t, h1, h2, h3⟩ | ⟨h1, _⟩ | h1
  · exfalso
    have e : s.take l.length = l := by rw [h2, List.take_left]
    have := h l.length (shape_pos h1) (shape_len h1) (by rw [h2, List.length_append]; omega)
    rw [e, whole_full h1] at this; cases this
  · rw [h1]; rfl
  · rw [h1]; rfl
attribute [local irreducible] thenA inBlockA AW AL AO QY varO rowO rsA Opd OpdN vA gvA tupA aggA slA slcA ipA rpA EqK LnK IxK LdK FaK FdK
theorem f_ref06Next (s : List UInt8) (hl : s.length ≤ 80000) : AP Tryd.prog T0 17 [SA s] (tupA [cmdA (nextM s).1, SA (nextM s).2.1, I (nextM s).2.2]) := by
  by_cases h0 : s = []
  · have c1 : True := trivial
    subst h0
    refine af_intro Tryd.func17 rfl (by decide) Tryd.ntmps17 rfl ?_
    repeat' (first
    | fail
    | (apply aw_regionN; (case hn => rfl); (case hm => kernel_rfl))
      | refine an_end ?_ (by rfl)
      | (apply an_all; (case hL => rfl); (case hne => rfl))
      | exact ai_nil
      | apply ai_cons
      | (apply at_i; (case ho => rfl))
      | (apply j_first; exact ext1_)
      | (apply j_next; (case h => exact ext_); (case hk => exact wk_); (case hc => rfl))
    | refine s_y ?_
      | refine c_ ?_
      | (refine aw_if ?_ ?_ <;> intro hb <;> try (exfalso; first | assumption | omega | (simp only [or_self, and_self, not_true_eq_false, not_false_eq_true, or_false, false_or, and_false, false_and, true_and, and_true] at hb; first | done | omega)))
      | refine s_call ?_ (c := by first | exact c1 | fail)
      | refine s_op ?_ (hy := by first | (apply bs_cmdA rfl un_; exact oo_; done) | fail)
      | refine s_yg ?_
      | refine s_callg ?_ (c := by intro hk hk2; first | exact c1 | fail)
      | refine s_opg ?_ (hy := by intro hk hk2; first | (apply bs_cmdA rfl un_; exact oo_; done) | fail)
      | refine s_skip ?_
      | ((first | refine w_alloc ?_ | refine w_box ?_) <;> intro bb)
      | ((first | refine w_emp ?_ | refine w_make ?_ | refine w_app ?_) <;> intro u hu1 hu2)
      | refine w_stv ?_ | refine w_str ?_ | refine w_cpr ?_ | refine w_cps ?_
      | refine al_last (by kernel_rfl) ?_
    | fail)
    all_goals first | exact ⟨_, [], rl_, List.nil_sublist _, Sub.eq (by rfl), rfl⟩ | (exfalso; simp at hb; done)
  · have hpos : 1 ≤ s.length := by cases s with | nil => exact absurd rfl h0 | cons => simp
    have c1 := f_more06 (T0 := T0) s h0 hl
    have hnone := nextM_none h0
    refine af_intro Tryd.func17 rfl (by decide) Tryd.ntmps17 rfl ?_
    repeat' (first
    | fail
    | (apply aw_regionN; (case hn => rfl); (case hm => kernel_rfl))
      | refine an_end ?_ (by rfl)
      | (apply an_all; (case hL => rfl); (case hne => rfl))
      | exact ai_nil
      | apply ai_cons
      | (apply at_i; (case ho => rfl))
      | (apply j_first; exact ext1_)
      | (apply j_next; (case h => exact ext_); (case hk => exact wk_); (case hc => rfl))
    | refine s_y ?_
      | refine c_ ?_
      | (refine aw_if ?_ ?_ <;> intro hb <;> try (exfalso; first | assumption | omega | (simp only [or_self, and_self, not_true_eq_false, not_false_eq_true, or_false, false_or, and_false, false_and, true_and, and_true] at hb; first | done | omega)))
      | refine s_call ?_ (c := by first | exact c1 | fail)
      | refine s_op ?_ (hy := by first | (apply bs_cmdA rfl un_; exact oo_; done) | fail)
      | refine s_yg ?_
      | refine s_callg ?_ (c := by intro hk hk2; first | exact c1 | fail)
      | refine s_opg ?_ (hy := by intro hk hk2; first | (apply bs_cmdA rfl un_; exact oo_; done) | fail)
      | refine s_skip ?_
      | ((first | refine w_alloc ?_ | refine w_box ?_) <;> intro bb)
      | ((first | refine w_emp ?_ | refine w_make ?_ | refine w_app ?_) <;> intro u hu1 hu2)
      | refine w_stv ?_ | refine w_str ?_ | refine w_cpr ?_ | refine w_cps ?_
      | refine al_last (by kernel_rfl) ?_
    | fail)
    all_goals first | (exfalso; exact h0 (by simpa using hb)) | skip
    refine aw_lf (σ := Nat) (fun k => [(5, I k)]) (fun k => 1 ≤ k ∧ k ≤ 9 ∧ ∀ j, 1 ≤ j → j < k → j ≤ s.length → (wholeR (s.take j)).2 = false) (fun k => 9 - k) 1 ⟨by omega, by omega, fun j a b => by omega⟩ ?_
    rintro k ⟨i1, i2, i3⟩
    by_cases hk : k ≤ 8 ∧ k ≤ s.length
    · obtain ⟨k1, k2⟩ := hk
      clear c1
      have c1 := f_whole06 (T0 := T0) (s.take k) (by rw [List.length_take]; omega)
      have e : s.drop k = (s.drop k).take (s.length - k) := (List.take_of_length_le (by rw [List.length_drop]; omega)).symm
      cases w : (wholeR (s.take k)).2 with
      | true =>
        have hf := nextM_found i1 k2 w
        rw [w] at c1
        rw [hf, e]
        clear e hnone i3 hf
        repeat' (first
        | fail
        | (apply aw_regionN; (case hn => rfl); (case hm => kernel_rfl))
          | refine an_end ?_ (by rfl)
          | (apply an_all; (case hL => rfl); (case hne => rfl))
          | exact ai_nil
          | apply ai_cons
          | (apply at_i; (case ho => rfl))
          | (apply j_first; exact ext1_)
          | (apply j_next; (case h => exact ext_); (case hk => exact wk_); (case hc => rfl))
        | refine s_y ?_
          | refine c_ ?_
          | (refine aw_if ?_ ?_ <;> intro hb <;> try (exfalso; first | assumption | omega | (simp only [or_self, and_self, not_true_eq_false, not_false_eq_true, or_false, false_or, and_false, false_and, true_and, and_true] at hb; first | done | omega)))
          | refine s_call ?_ (c := by first | exact c1 | fail)
          | refine s_op ?_ (hy := by first | (apply bs_cmdA rfl un_; exact oo_; done) | fail)
          | refine s_yg ?_
          | refine s_callg ?_ (c := by intro hk hk2; first | exact c1 | fail)
          | refine s_opg ?_ (hy := by intro hk hk2; first | (apply bs_cmdA rfl un_; exact oo_; done) | fail)
          | refine s_skip ?_
          | ((first | refine w_alloc ?_ | refine w_box ?_) <;> intro bb)
          | ((first | refine w_emp ?_ | refine w_make ?_ | refine w_app ?_) <;> intro u hu1 hu2)
          | refine w_stv ?_ | refine w_str ?_ | refine w_cpr ?_ | refine w_cps ?_
          | refine al_last (by kernel_rfl) ?_
        | fail)
        all_goals first | (exfalso; omega) | exact ⟨_, [], rl_, List.nil_sublist _, Sub.refl _, rfl⟩
      | false =>
        rw [w] at c1
        have hn : ∀ j, 1 ≤ j → j < k + 1 → j ≤ s.length → (wholeR (s.take j)).2 = false := fun j a b c => by
          rcases Nat.lt_or_ge j k with h | h
          · exact i3 j a h c
          · obtain rfl : j = k := by omega
            exact w
        repeat' (first
        | fail
        | (apply aw_regionN; (case hn => rfl); (case hm => kernel_rfl))
          | refine an_end ?_ (by rfl)
          | (apply an_all; (case hL => rfl); (case hne => rfl))
          | exact ai_nil
          | apply ai_cons
          | (apply at_i; (case ho => rfl))
          | (apply j_first; exact ext1_)
          | (apply j_next; (case h => exact ext_); (case hk => exact wk_); (case hc => rfl))
        | refine s_y ?_
          | refine c_ ?_
          | (refine aw_if ?_ ?_ <;> intro hb <;> try (exfalso; first | assumption | omega | (simp only [or_self, and_self, not_true_eq_false, not_false_eq_true, or_false, false_or, and_false, false_and, true_and, and_true] at hb; first | done | omega)))
          | refine s_call ?_ (c := by first | exact c1 | fail)
          | refine s_op ?_ (hy := by first | (apply bs_cmdA rfl un_; exact oo_; done) | fail)
          | refine s_yg ?_
          | refine s_callg ?_ (c := by intro hk hk2; first | exact c1 | fail)
          | refine s_opg ?_ (hy := by intro hk hk2; first | (apply bs_cmdA rfl un_; exact oo_; done) | fail)
          | refine s_skip ?_
          | ((first | refine w_alloc ?_ | refine w_box ?_) <;> intro bb)
          | ((first | refine w_emp ?_ | refine w_make ?_ | refine w_app ?_) <;> intro u hu1 hu2)
          | refine w_stv ?_ | refine w_str ?_ | refine w_cpr ?_ | refine w_cps ?_
          | refine al_last (by kernel_rfl) ?_
        | fail)
        all_goals first | (exfalso; omega) | exact ⟨k + 1, ⟨by omega, by omega, hn⟩, by omega, wx_, sl_⟩
    · have e := hnone fun j a b c => i3 j a (by omega) c
      rw [e]
      clear hnone i3 e
      cases hf : decide ((cmdM s).1 = 3) <;> rw [hf] at c1
      · repeat' (first
        | fail
        | (apply aw_regionN; (case hn => rfl); (case hm => kernel_rfl))
          | refine an_end ?_ (by rfl)
          | (apply an_all; (case hL => rfl); (case hne => rfl))
          | exact ai_nil
          | apply ai_cons
          | (apply at_i; (case ho => rfl))
          | (apply j_first; exact ext1_)
          | (apply j_next; (case h => exact ext_); (case hk => exact wk_); (case hc => rfl))
        | refine s_y ?_
          | refine c_ ?_
          | (refine aw_if ?_ ?_ <;> intro hb <;> try (exfalso; first | assumption | omega | (simp only [or_self, and_self, not_true_eq_false, not_false_eq_true, or_false, false_or, and_false, false_and, true_and, and_true] at hb; first | done | omega)))
          | refine s_call ?_ (c := by first | exact c1 | fail)
          | refine s_op ?_ (hy := by first | (apply bs_cmdA rfl un_; exact oo_; done) | fail)
          | refine s_yg ?_
          | refine s_callg ?_ (c := by intro hk hk2; first | exact c1 | fail)
          | refine s_opg ?_ (hy := by intro hk hk2; first | (apply bs_cmdA rfl un_; exact oo_; done) | fail)
          | refine s_skip ?_
          | ((first | refine w_alloc ?_ | refine w_box ?_) <;> intro bb)
          | ((first | refine w_emp ?_ | refine w_make ?_ | refine w_app ?_) <;> intro u hu1 hu2)
          | refine w_stv ?_ | refine w_str ?_ | refine w_cpr ?_ | refine w_cps ?_
          | refine al_last (by kernel_rfl) ?_
        | fail)
        all_goals first | (exfalso; omega) | exact ⟨_, [], rl_, List.nil_sublist _, Sub.eq (by rfl), rfl⟩
      · repeat' (first
        | fail
        | (apply aw_regionN; (case hn => rfl); (case hm => kernel_rfl))
          | refine an_end ?_ (by rfl)
          | (apply an_all; (case hL => rfl); (case hne => rfl))
          | exact ai_nil
          | apply ai_cons
          | (apply at_i; (case ho => rfl))
          | (apply j_first; exact ext1_)
          | (apply j_next; (case h => exact ext_); (case hk => exact wk_); (case hc => rfl))
        | refine s_y ?_
          | refine c_ ?_
          | (refine aw_if ?_ ?_ <;> intro hb <;> try (exfalso; first | assumption | omega | (simp only [or_self, and_self, not_true_eq_false, not_false_eq_true, or_false, false_or, and_false, false_and, true_and, and_true] at hb; first | done | omega)))
          | refine s_call ?_ (c := by first | exact c1 | fail)
          | refine s_op ?_ (hy := by first | (apply bs_cmdA rfl un_; exact oo_; done) | fail)
          | refine s_yg ?_
          | refine s_callg ?_ (c := by intro hk hk2; first | exact c1 | fail)
          | refine s_opg ?_ (hy := by intro hk hk2; first | (apply bs_cmdA rfl un_; exact oo_; done) | fail)
          | refine s_skip ?_
          | ((first | refine w_alloc ?_ | refine w_box ?_) <;> intro bb)
          | ((first | refine w_emp ?_ | refine w_make ?_ | refine w_app ?_) <;> intro u hu1 hu2)
          | refine w_stv ?_ | refine w_str ?_ | refine w_cpr ?_ | refine w_cps ?_
          | refine al_last (by kernel_rfl) ?_
        | fail)
        all_goals first | (exfalso; omega) | exact ⟨_, [], rl_, List.nil_sublist _, Sub.eq (by rfl), rfl⟩
end Go.Proofs.YtplabpjkkcillaaDoor
/- Layer 6 (scan): the reference's All is the program's. No condition. -/
namespace Go.Proofs.YtplabpjkkcillaaDoor
set_option linter.unusedSimpArgs false
set_option linter.unusedVariables false
set_option linter.unusedSectionVars false
set_option maxHeartbeats 4000000
open Go Go.RowKit
variable {T0 : Gh}
set_option maxRecDepth 200000
attribute [local irreducible] thenA inBlockA AW AL AO QY varO rowO rsA Opd OpdN vA gvA tupA aggA slA slcA ipA rpA EqK LnK IxK LdK FaK FdK
theorem f_ref06All (s : List UInt8) (hs : s.length ≤ 80000) : AP Tryd.prog T0 20 [SA s] (tupA [slA cmdT (allS s).1, SA (allS s).2.1, I (allS s).2.2]) := by
  have c1 : True := trivial
  refine af_intro Tryd.func20 rfl (by decide) Tryd.ntmps20 rfl ?_
  repeat' (first
  | fail
  | refine s_y ?_
    | refine c_ ?_
    | (refine aw_if ?_ ?_ <;> intro hb <;> try (exfalso; first | assumption | omega | (simp only [or_self, and_self, not_true_eq_false, not_false_eq_true, or_false, false_or, and_false, false_and, true_and, and_true] at hb; first | done | omega)))
    | refine s_call ?_ (c := by first | exact c1 | fail)
    | refine s_op ?_ (hy := by first | (apply bs_cmdA rfl un_; exact oo_; done) | fail)
    | refine s_yg ?_
    | refine s_callg ?_ (c := by intro hk hk2; first | exact c1 | fail)
    | refine s_opg ?_ (hy := by intro hk hk2; first | (apply bs_cmdA rfl un_; exact oo_; done) | fail)
    | refine s_skip ?_
    | ((first | refine w_alloc ?_ | refine w_box ?_) <;> intro bb)
    | ((first | refine w_emp ?_ | refine w_make ?_ | refine w_app ?_) <;> intro u hu1 hu2)
    | refine w_stv ?_ | refine w_str ?_ | refine w_cpr ?_ | refine w_cps ?_
    | refine al_last (by kernel_rfl) ?_
  | fail)
  refine aw_la 5 (fun y : List UInt8 × List Cmd => [(0, SA y.1)]) (fun y => y.2) (fun y => y.1.length + y.2.length ≤ s.length ∧ allF y.2 (allS y.1) = allS s) (fun y => y.1.length) (s, []) ⟨by simp, allF_nil s⟩ rfl ?_
  rintro ⟨q, out⟩ u ⟨i1, i2⟩ hu1 hu2
  simp only at i1 i2 ⊢
  clear c1
  have c1 := f_ref06Next (T0 := T0) q (by omega)
  have k1 := fun h => allS_ok (s := q) h
  have k2 := fun h => allS_form (s := q) h
  have k3 := fun h h2 => allS_end (s := q) h h2
  have k4 := fun h => next_len (s := q) h
  have ke := next_err q
  obtain ⟨⟨c, t, e⟩, hx⟩ : ∃ x, x = nextM q := ⟨_, rfl⟩
  rw [← hx] at c1 k1 k2 k3 k4 ke
  simp only at c1 k1 k2 k3 k4 ke
  clear hx
  by_cases he : e = 0
  · subst he
    have k1 := k1 rfl
    have k4 := k4 rfl
    rw [k1, allF_app] at i2
    clear k2 k3 ke k1
    repeat' (first
    | fail
    | refine s_y ?_
      | refine c_ ?_
      | (refine aw_if ?_ ?_ <;> intro hb <;> try (exfalso; first | assumption | omega | (simp only [or_self, and_self, not_true_eq_false, not_false_eq_true, or_false, false_or, and_false, false_and, true_and, and_true] at hb; first | done | omega)))
      | refine s_call ?_ (c := by first | exact c1 | fail)
      | refine s_op ?_ (hy := by first | (apply bs_cmdA rfl un_; exact oo_; done) | fail)
      | refine s_yg ?_
      | refine s_callg ?_ (c := by intro hk hk2; first | exact c1 | fail)
      | refine s_opg ?_ (hy := by intro hk hk2; first | (apply bs_cmdA rfl un_; exact oo_; done) | fail)
      | refine s_skip ?_
      | ((first | refine w_alloc ?_ | refine w_box ?_) <;> intro bb)
      | ((first | refine w_emp ?_ | refine w_make ?_ | refine w_app ?_) <;> intro u hu1 hu2)
      | refine w_stv ?_ | refine w_str ?_ | refine w_cpr ?_ | refine w_cps ?_
      | refine al_last (by kernel_rfl) ?_
    | fail)
    all_goals first | (exfalso; omega) | exact ⟨(t, out ++ [c]), _, ⟨by simp only [List.length_append, List.length_singleton]; omega, i2⟩, by simp only; omega, wx_, sl_⟩
  · apply aw_freezeF 0 rfl
    case hz => simp only [List.cons_append, List.nil_append]; repeat' (first | exact fzf_nil | apply fzf_cons | exact fz_here | exact fz_keep)
    by_cases h2 : e = 2
    · subst h2
      rw [k2 rfl] at i2
      have hr : allS s = ([], [], 2) := by rw [← i2]; rfl
      rw [hr]
      repeat' (first
      | fail
      | refine s_y ?_
        | refine c_ ?_
        | (refine aw_if ?_ ?_ <;> intro hb <;> try (exfalso; first | assumption | omega | (simp only [or_self, and_self, not_true_eq_false, not_false_eq_true, or_false, false_or, and_false, false_and, true_and, and_true] at hb; first | done | omega)))
        | refine s_call ?_ (c := by first | exact c1 | fail)
        | refine s_op ?_ (hy := by first | (apply bs_cmdA rfl un_; exact oo_; done) | fail)
        | refine s_yg ?_
        | refine s_callg ?_ (c := by intro hk hk2; first | exact c1 | fail)
        | refine s_opg ?_ (hy := by intro hk hk2; first | (apply bs_cmdA rfl un_; exact oo_; done) | fail)
        | refine s_skip ?_
        | ((first | refine w_alloc ?_ | refine w_box ?_) <;> intro bb)
        | ((first | refine w_emp ?_ | refine w_make ?_ | refine w_app ?_) <;> intro u hu1 hu2)
        | refine w_stv ?_ | refine w_str ?_ | refine w_cpr ?_ | refine w_cps ?_
        | refine al_last (by kernel_rfl) ?_
      | fail)
      all_goals first | (exfalso; omega) | exact ⟨_, [], rl_, List.nil_sublist _, sub_tup (subl1 sub_nilc (subl1 (Sub.refl _) (subl1 (Sub.refl _) subl0))), rfl⟩
    · rw [k3 he h2] at i2
      have hr : allS s = (out, q, 0) := by rw [← i2]; simp [allF]
      rw [hr]
      repeat' (first
      | fail
      | refine s_y ?_
        | refine c_ ?_
        | (refine aw_if ?_ ?_ <;> intro hb <;> try (exfalso; first | assumption | omega | (simp only [or_self, and_self, not_true_eq_false, not_false_eq_true, or_false, false_or, and_false, false_and, true_and, and_true] at hb; first | done | omega)))
        | refine s_call ?_ (c := by first | exact c1 | fail)
        | refine s_op ?_ (hy := by first | (apply bs_cmdA rfl un_; exact oo_; done) | fail)
        | refine s_yg ?_
        | refine s_callg ?_ (c := by intro hk hk2; first | exact c1 | fail)
        | refine s_opg ?_ (hy := by intro hk hk2; first | (apply bs_cmdA rfl un_; exact oo_; done) | fail)
        | refine s_skip ?_
        | ((first | refine w_alloc ?_ | refine w_box ?_) <;> intro bb)
        | ((first | refine w_emp ?_ | refine w_make ?_ | refine w_app ?_) <;> intro u hu1 hu2)
        | refine w_stv ?_ | refine w_str ?_ | refine w_cpr ?_ | refine w_cps ?_
        | refine al_last (by kernel_rfl) ?_
      | fail)
      all_goals first | (exfalso; omega) | exact ⟨_, [], rl_, List.nil_sublist _, Sub.refl _, rfl⟩
end Go.Proofs.YtplabpjkkcillaaDoor
/- Layer 6 (scan), plainly: what is put is found again; bytes may be cut anywhere. No condition. -/
namespace Go.Proofs.YtplabpjkkcillaaDoor
set_option linter.unusedSimpArgs false
set_option linter.unusedVariables false
set_option linter.unusedSectionVars false
set_option maxHeartbeats 4000000
open Go Go.RowKit
set_option maxRecDepth 100000
theorem more_take {c : Cmd} {l : List UInt8} (h : Shape c l) {k : Nat} (h1 : 1 ≤ k) (h2 : k < l.length) : MoreC (l.take k) := by
  have hlen : (l.take k).length = k := by rw [List.length_take]; omega
  have h0 : l.take k ≠ [] := by intro e; rw [e] at hlen; simp only [List.length_nil] at hlen; omega
  by_cases hc : c.1 = 1
  · cases h with
    | text n hs => exact .inl ⟨h0, n, isG_shown hs, by rw [hlen]; exact h2, by rw [hlen]⟩
    | go a b => exact absurd hc (by simp only; omega)
    | one k hk => exact absurd hc (by simp only; omega)
    | move k a hk => exact absurd hc (by simp only; omega)
    | form k hk => exact absurd hc (by simp only; omega)
  · exact .inr ⟨h0, c, l, h, hc, by rw [hlen]; exact h2, by rw [hlen]⟩
theorem take_front {a b l : List UInt8} {n : Nat} (e : a ++ b = l.take n) (hn : a.length ≤ n) : a = l.take a.length := by
  have := congrArg (List.take a.length) e
  rw [List.take_left, List.take_take, Nat.min_eq_left hn] at this; exact this
theorem more_pre {a b : List UInt8} (h : MoreC (a ++ b)) (h0 : a ≠ []) : MoreC a := by
  have hl : (a ++ b).length = a.length + b.length := List.length_append
  rcases h with ⟨_, r, hr, h2, e⟩ | ⟨_, c, l, hs, hc, h2, e⟩
  · exact .inl ⟨h0, r, hr, by omega, take_front e (by omega)⟩
  · exact .inr ⟨h0, c, l, hs, hc, by omega, take_front e (by omega)⟩
theorem nextM_nil : nextM [] = ((0, 0, 0, 0), [], 6) := rfl
theorem next_ne {s : List UInt8} {e : Int} (h : (nextM s).2.2 = e) (he : e ≠ 6) : s ≠ [] := by rintro rfl; exact he h.symm
theorem nextM_app {a : List UInt8} (b : List UInt8) (h : (nextM a).2.2 = 0) : nextM (a ++ b) = ((nextM a).1, (nextM a).2.1 ++ b, 0) := by
  obtain ⟨l, h1, h2⟩ := next_ok h
  have h0 := next_ne h (by decide)
  have hne : a ++ b ≠ [] := by simp [h0]
  have e : a ++ b = l ++ ((nextM a).2.1 ++ b) := by rw [← List.append_assoc, ← h2]
  have hc := cmd_full h1 ((nextM a).2.1 ++ b)
  rw [← e] at hc
  rw [nextM, if_neg hne, hc]
theorem nextM_form {a : List UInt8} (b : List UInt8) (h : (nextM a).2.2 = 2) : (nextM (a ++ b)).2.2 = 2 := by
  have h0 := next_ne h (by decide)
  have hpos : 1 ≤ a.length := by cases a with | nil => exact absurd rfl h0 | cons => simp
  have hne : a ++ b ≠ [] := by simp [h0]
  have hc : (cmdM a).1 = 2 := by rw [nextM, if_neg h0] at h; exact h
  rcases cmd_sound (a ++ b) hne with ⟨c, l, t, k1, k2, k3⟩ | ⟨k1, k2⟩ | k1
  · exfalso
    rcases Nat.lt_or_ge a.length l.length with hl | hl
    · have e : a = l.take a.length := by
        have := congrArg (List.take a.length) k2
        rw [List.take_left, List.take_append_of_le_length (by omega)] at this; exact this
      have hm : MoreC a := by rw [e]; exact more_take k1 hpos hl
      rw [cmd_more hm] at hc; cases hc
    · have e : l = a.take l.length := by
        have := congrArg (List.take l.length) k2
        rw [List.take_left, List.take_append_of_le_length hl] at this; exact this.symm
      have e2 : a = l ++ a.drop l.length := by
        conv => lhs; rw [← List.take_append_drop l.length a]
        rw [← e]
      rw [e2, cmd_full k1] at hc; cases hc
  · exfalso; rw [cmd_more (more_pre k2 h0)] at hc; cases hc
  · rw [nextM, if_neg hne, k1]; rfl
/-- bytes are cut: what is found in the front stands ahead of what is found from its rest on -/
theorem allS_app (a b : List UInt8) : ((allS a).2.2 = 0 → allS (a ++ b) = allF (allS a).1 (allS ((allS a).2.1 ++ b))) ∧ ((allS a).2.2 ≠ 0 → allS (a ++ b) = ([], [], 2)) := by
  generalize hn : a.length = n
  induction n using Nat.strongRecOn generalizing a with
  | ind n ih =>
    by_cases h : (nextM a).2.2 = 0
    · have hl := next_len h
      have hb := nextM_app b h
      obtain ⟨i1, i2⟩ := ih _ (by omega) (nextM a).2.1 rfl
      have e1 := allS_ok h
      have e2 : allS (a ++ b) = allF [(nextM a).1] (allS ((nextM a).2.1 ++ b)) := by
        have := allS_ok (s := a ++ b) (by rw [hb])
        rw [hb] at this; exact this
      rcases allS_err (nextM a).2.1 with k | k
      · have e3 : allS a = ([(nextM a).1] ++ (allS (nextM a).2.1).1, (allS (nextM a).2.1).2) := by rw [e1, allF, if_neg (by rw [k]; decide)]
        refine ⟨fun _ => ?_, fun hne => absurd (by rw [e3]; exact k) hne⟩
        rw [e2, i1 k, allF_app, e3]
      · have e3 : allS a = ([], [], 2) := by rw [e1, k]; rfl
        refine ⟨fun h0 => (by rw [e3] at h0; cases h0), fun _ => ?_⟩
        rw [e2, i2 (by rw [k]; decide)]; rfl
    · by_cases h2 : (nextM a).2.2 = 2
      · have e1 := allS_form h2
        refine ⟨fun h0 => (by rw [e1] at h0; cases h0), fun _ => ?_⟩
        exact allS_form (nextM_form b h2)
      · have e1 := allS_end h h2
        refine ⟨fun _ => ?_, fun hne => absurd (by rw [e1]) hne⟩
        rw [e1]; exact (allF_nil _).symm
theorem more_len {s : List UInt8} (h : MoreC s) : s.length < 8 := by
  rcases h with ⟨_, r, _, h2, _⟩ | ⟨_, c, l, hs, _, h2, _⟩
  · have := encC_len r; omega
  · obtain ⟨h1, h3⟩ := shape_is hs
    have := bytesB_len h1
    rw [h3] at this; omega
/-- bytes are the bytes of what is found in them, and a beginning of one more -/
theorem allS_sound (s : List UInt8) (h : (allS s).2.2 = 0) : s.length = costM (allS s).1 + (allS s).2.1.length ∧ (∀ c ∈ (allS s).1, isCmd c = true) ∧ s = ((allS s).1.flatMap bytesB) ++ (allS s).2.1 ∧ (((allS s).2.1 = [] ∧ (nextM (allS s).2.1).2.2 = 6) ∨ (MoreC (allS s).2.1 ∧ (nextM (allS s).2.1).2.2 = 3)) := by
  generalize hn : s.length = n
  induction n using Nat.strongRecOn generalizing s with
  | ind n ih =>
    by_cases h1 : (nextM s).2.2 = 0
    · have hl := next_len h1
      have e1 := allS_ok h1
      rcases allS_err (nextM s).2.1 with k | k
      · have e3 : allS s = ((nextM s).1 :: (allS (nextM s).2.1).1, (allS (nextM s).2.1).2) := by rw [e1, allF, if_neg (by rw [k]; decide)]; rfl
        obtain ⟨j1, j2, j3, j4⟩ := ih _ (by omega) (nextM s).2.1 k rfl
        obtain ⟨l, s1, s2⟩ := next_ok h1
        obtain ⟨s3, s4⟩ := shape_is s1
        rw [e3]
        refine ⟨?_, ?_, ?_, j4⟩
        · have e4 : lenC (nextM s).1 = l.length := by rw [lenC, putR', if_pos s3, s4]
          have e5 : s.length = l.length + (nextM s).2.1.length := by rw [← List.length_append, ← s2]
          simp only [costM, List.map_cons, List.sum_cons] at j1 ⊢; omega
        · intro c hc
          rcases List.mem_cons.1 hc with rfl | hc
          · exact s3
          · exact j2 c hc
        · rw [List.flatMap_cons, s4, List.append_assoc, ← j3]; exact s2
      · rw [e1, k] at h; cases h
    · by_cases h2 : (nextM s).2.2 = 2
      · rw [allS_form h2] at h; cases h
      · have e1 := allS_end h1 h2
        rw [e1]
        refine ⟨by simp [costM]; exact hn.symm, fun c hc => (by cases hc), by simp, ?_⟩
        by_cases h0 : s = []
        · subst h0; exact .inl ⟨rfl, rfl⟩
        · right
          rcases cmd_sound s h0 with ⟨c, l, t, k1, k2, k3⟩ | ⟨k1, k2⟩ | k1
          · exact absurd (by rw [nextM, if_neg h0, k3]) h1
          · exact ⟨k2, by rw [nextM, if_neg h0, k1]; rfl⟩
          · exact absurd (by rw [nextM, if_neg h0, k1]; rfl) h2
/-- commands that were put are found again -/
theorem allS_put : ∀ (l : List Cmd) (s : List UInt8), (∀ c ∈ l, isCmd c = true) → allS (l.flatMap bytesB ++ s) = allF l (allS s)
  | [], s, _ => (allF_nil s).symm
  | c :: l, s, h => by
    have hs := shape_of (h c (by simp))
    have hp := shape_pos hs
    have e : (c :: l).flatMap bytesB ++ s = bytesB c ++ (l.flatMap bytesB ++ s) := by rw [List.flatMap_cons, List.append_assoc]
    have hne : bytesB c ++ (l.flatMap bytesB ++ s) ≠ [] := by
      intro e; have := congrArg List.length e; simp only [List.length_append, List.length_nil] at this; omega
    have hn : nextM (bytesB c ++ (l.flatMap bytesB ++ s)) = (c, l.flatMap bytesB ++ s, 0) := by rw [nextM, if_neg hne, cmd_full hs]
    have := allS_ok (s := bytesB c ++ (l.flatMap bytesB ++ s)) (by rw [hn])
    rw [hn] at this
    rw [e, this, allS_put l s (fun d hd => h d (by simp [hd])), allF_app]; rfl
end Go.Proofs.YtplabpjkkcillaaDoor
/- Layer 6 (scan): the example, and the laws of Next and All. No condition. -/
namespace Go.Proofs.YtplabpjkkcillaaDoor
set_option linter.unusedSimpArgs false
set_option linter.unusedVariables false
set_option linter.unusedSectionVars false
set_option maxHeartbeats 4000000
open Go Go.RowKit
variable {T0 : Gh} [TabU T0]
set_option maxRecDepth 200000
attribute [local irreducible] thenA inBlockA AW AL AO QY varO rowO rsA Opd OpdN vA gvA tupA aggA slA slcA ipA rpA EqK LnK IxK LdK FaK FdK
theorem f_scanned : AP Tryd.prog T0 18 [] (B true) := by
  have c1 : AP Tryd.prog T0 19 [SA [97, 27, 91, 50, 59, 49, 48, 72, 27, 91, 49]] (tupA [slA cmdT [(1, 0, 0, 97), (2, 1, 9, 0)], SA [27, 91, 49], I 0]) := (f_scanAll [97, 27, 91, 50, 59, 49, 48, 72, 27, 91, 49] (by decide)).to (by rw [show allS [97, 27, 91, 50, 59, 49, 48, 72, 27, 91, 49] = ([(1, 0, 0, 97), (2, 1, 9, 0)], [27, 91, 49], 0) by decide])
  have c2 : AP Tryd.prog T0 16 [SA [27, 91, 75, 65]] (tupA [cmdA (7, 0, 0, 0), SA [65], I 0]) := (f_scanNext [27, 91, 75, 65] (by decide)).to (by rw [show nextM [27, 91, 75, 65] = ((7, 0, 0, 0), [65], 0) by decide])
  have c3 : AP Tryd.prog T0 16 [SA [27, 91, 49, 65]] (tupA [cmdA (0, 0, 0, 0), SA [], I 2]) := (f_scanNext [27, 91, 49, 65] (by decide)).to (by rw [show nextM [27, 91, 49, 65] = ((0, 0, 0, 0), [], 2) by decide])
  have c4 : AP Tryd.prog T0 16 [SA [27, 91, 50, 52, 59]] (tupA [cmdA (0, 0, 0, 0), SA [], I 3]) := (f_scanNext [27, 91, 50, 52, 59] (by decide)).to (by rw [show nextM [27, 91, 50, 52, 59] = ((0, 0, 0, 0), [], 3) by decide])
  have c5 : AP Tryd.prog T0 16 [SA []] (tupA [cmdA (0, 0, 0, 0), SA [], I 6]) := (f_scanNext [] (by decide)).to (by rw [show nextM [] = ((0, 0, 0, 0), [], 6) by decide])
  have c6 : AP Tryd.prog T0 19 [SA [97, 1]] (tupA [slA cmdT [], SA [], I 2]) := (f_scanAll [97, 1] (by decide)).to (by rw [show allS [97, 1] = ([], [], 2) by decide])
  have c7 := (f_ref05Same (T0 := T0) [(1, 0, 0, 97), (2, 1, 9, 0)] [(1, 0, 0, 97), (2, 1, 9, 0)] (by decide) (by decide)).to (A' := B true) (congrArg B (by decide))
  refine af_intro Tryd.func18 rfl (by decide) Tryd.ntmps18 rfl ?_
  repeat' (first
  | fail
  | refine s_y ?_
    | refine c_ ?_
    | (refine aw_if ?_ ?_ <;> intro hb <;> try (exfalso; first | assumption | omega | (simp only [or_self, and_self, not_true_eq_false, not_false_eq_true, or_false, false_or, and_false, false_and, true_and, and_true] at hb; first | done | omega)))
    | refine s_call ?_ (c := by first | exact c1 | exact c2 | exact c3 | exact c4 | exact c5 | exact c6 | exact c7 | fail)
    | refine s_op ?_ (hy := by first | exact AY.sub (ay_buildSlice (T := cmdT) [(1, 0, 0, 97), (2, 1, 9, 0)] rfl un_ el_ rfl (by decide) ⟨_, pxg_, rfl⟩) sub_slc
                                       | exact AY.sub (ay_buildSlice (T := cmdT) [(1, 0, 0, 97), (2, 1, 9, 0)] rfl un_ el_ rfl (by decide) ⟨_, px_, rfl⟩) sub_slc | fail)
    | refine s_yg ?_
    | refine s_callg ?_ (c := by intro hk hk2; first | exact c1 | exact c2 | exact c3 | exact c4 | exact c5 | exact c6 | exact c7 | fail)
    | refine s_opg ?_ (hy := by intro hk hk2; first | exact AY.sub (ay_buildSlice (T := cmdT) [(1, 0, 0, 97), (2, 1, 9, 0)] rfl un_ el_ rfl (by decide) ⟨_, pxg_, rfl⟩) sub_slc
                                                      | exact AY.sub (ay_buildSlice (T := cmdT) [(1, 0, 0, 97), (2, 1, 9, 0)] rfl un_ el_ rfl (by decide) ⟨_, px_, rfl⟩) sub_slc | fail)
    | refine s_skip ?_
    | ((first | refine w_alloc ?_ | refine w_box ?_) <;> intro bb)
    | ((first | refine w_emp ?_ | refine w_make ?_ | refine w_app ?_) <;> intro u hu1 hu2)
    | refine w_stv ?_ | refine w_str ?_ | refine w_cpr ?_ | refine w_cps ?_
    | refine al_last (by kernel_rfl) ?_
  | fail)
  exact ⟨_, [], rl_, List.nil_sublist _, Sub.eq (congrArg B (by decide)), rfl⟩
theorem l_ScanNext (s : List UInt8) : AP Tryd.prog T0 3 [SA s] (B true) := by
  by_cases hl : s.length ≤ 1000
  · have c1 := f_scanNext (T0 := T0) s (by omega)
    have c2 := f_ref06Next (T0 := T0) s (by omega)
    obtain ⟨⟨⟨k, a, b, r⟩, t, e⟩, hx⟩ : ∃ x, x = nextM s := ⟨_, rfl⟩
    rw [← hx] at c1 c2
    simp only at c1 c2
    clear hx
    refine af_intro Tryd.func3 rfl (by decide) Tryd.ntmps3 rfl ?_
    repeat' (first
    | fail
    | refine s_y ?_
      | refine c_ ?_
      | (refine aw_if ?_ ?_ <;> intro hb <;> try (exfalso; first | assumption | omega | (simp only [or_self, and_self, not_true_eq_false, not_false_eq_true, or_false, false_or, and_false, false_and, true_and, and_true] at hb; first | done | omega)))
      | refine s_call ?_ (c := by first | exact f_scanned | exact c1 | exact c2 | exact f_ref05Same _ _ (by omega) (by omega) | fail)
      | refine s_op ?_ (hy := by first | fail | fail)
      | refine s_yg ?_
      | refine s_callg ?_ (c := by intro hk hk2; first | exact f_scanned | exact c1 | exact c2 | exact f_ref05Same _ _ (by omega) (by omega) | fail)
      | refine s_opg ?_ (hy := by intro hk hk2; first | fail | fail)
      | refine s_skip ?_
      | ((first | refine w_alloc ?_ | refine w_box ?_) <;> intro bb)
      | ((first | refine w_emp ?_ | refine w_make ?_ | refine w_app ?_) <;> intro u hu1 hu2)
      | refine w_stv ?_ | refine w_str ?_ | refine w_cpr ?_ | refine w_cps ?_
      | refine al_last (by kernel_rfl) ?_
    | fail)
    all_goals first | (exfalso; omega) | exact ⟨_, [], rl_, List.nil_sublist _, Sub.refl _, rfl⟩ | exact ⟨_, [], rl_, List.nil_sublist _, Sub.eq (congrArg B (by simp)), rfl⟩
  · have c1 : True := trivial
    have c2 : True := trivial
    refine af_intro Tryd.func3 rfl (by decide) Tryd.ntmps3 rfl ?_
    repeat' (first
    | fail
    | refine s_y ?_
      | refine c_ ?_
      | (refine aw_if ?_ ?_ <;> intro hb <;> try (exfalso; first | assumption | omega | (simp only [or_self, and_self, not_true_eq_false, not_false_eq_true, or_false, false_or, and_false, false_and, true_and, and_true] at hb; first | done | omega)))
      | refine s_call ?_ (c := by first | exact f_scanned | exact c1 | exact c2 | exact f_ref05Same _ _ (by omega) (by omega) | fail)
      | refine s_op ?_ (hy := by first | fail | fail)
      | refine s_yg ?_
      | refine s_callg ?_ (c := by intro hk hk2; first | exact f_scanned | exact c1 | exact c2 | exact f_ref05Same _ _ (by omega) (by omega) | fail)
      | refine s_opg ?_ (hy := by intro hk hk2; first | fail | fail)
      | refine s_skip ?_
      | ((first | refine w_alloc ?_ | refine w_box ?_) <;> intro bb)
      | ((first | refine w_emp ?_ | refine w_make ?_ | refine w_app ?_) <;> intro u hu1 hu2)
      | refine w_stv ?_ | refine w_str ?_ | refine w_cpr ?_ | refine w_cps ?_
      | refine al_last (by kernel_rfl) ?_
    | fail)
    all_goals first | exact ⟨_, [], rl_, List.nil_sublist _, Sub.refl _, rfl⟩ | (exfalso; omega)
theorem allS_len (s : List UInt8) : (allS s).1.length ≤ s.length := by
  rcases allS_err s with h | h
  · obtain ⟨h1, h2, h3, _⟩ := allS_sound s h
    have : ∀ l : List Cmd, (∀ c ∈ l, isCmd c = true) → l.length ≤ costM l := fun l => by
      induction l with
      | nil => intro _; simp [costM]
      | cons c l ih =>
        intro h
        have h4 := (bytesB_len (h c (by simp))).1
        have h5 : lenC c = (bytesB c).length := by rw [lenC, putR', if_pos (h c (by simp))]
        have := ih fun d hd => h d (by simp [hd])
        simp only [costM, List.map_cons, List.sum_cons, List.length_cons] at this ⊢; omega
    have := this _ h2
    omega
  · rw [h]; simp
theorem l_ScanAll (s : List UInt8) : AP Tryd.prog T0 4 [SA s] (B true) := by
  by_cases hl : s.length ≤ 1000
  · have c1 := f_scanAll (T0 := T0) s (by omega)
    have c2 := f_ref06All (T0 := T0) s (by omega)
    have hle := allS_len s
    obtain ⟨⟨l, t, e⟩, hx⟩ : ∃ x, x = allS s := ⟨_, rfl⟩
    rw [← hx] at c1 c2 hle
    simp only at c1 c2 hle
    clear hx
    refine af_intro Tryd.func4 rfl (by decide) Tryd.ntmps4 rfl ?_
    repeat' (first
    | fail
    | refine s_y ?_
      | refine c_ ?_
      | (refine aw_if ?_ ?_ <;> intro hb <;> try (exfalso; first | assumption | omega | (simp only [or_self, and_self, not_true_eq_false, not_false_eq_true, or_false, false_or, and_false, false_and, true_and, and_true] at hb; first | done | omega)))
      | refine s_call ?_ (c := by first | exact f_scanned | exact c1 | exact c2 | exact f_ref05Same _ _ (by omega) (by omega) | fail)
      | refine s_op ?_ (hy := by first | fail | fail)
      | refine s_yg ?_
      | refine s_callg ?_ (c := by intro hk hk2; first | exact f_scanned | exact c1 | exact c2 | exact f_ref05Same _ _ (by omega) (by omega) | fail)
      | refine s_opg ?_ (hy := by intro hk hk2; first | fail | fail)
      | refine s_skip ?_
      | ((first | refine w_alloc ?_ | refine w_box ?_) <;> intro bb)
      | ((first | refine w_emp ?_ | refine w_make ?_ | refine w_app ?_) <;> intro u hu1 hu2)
      | refine w_stv ?_ | refine w_str ?_ | refine w_cpr ?_ | refine w_cps ?_
      | refine al_last (by kernel_rfl) ?_
    | fail)
    all_goals first | (exfalso; omega) | exact ⟨_, [], rl_, List.nil_sublist _, Sub.refl _, rfl⟩ | exact ⟨_, [], rl_, List.nil_sublist _, Sub.eq (congrArg B (by simp)), rfl⟩
  · have c1 : True := trivial
    have c2 : True := trivial
    refine af_intro Tryd.func4 rfl (by decide) Tryd.ntmps4 rfl ?_
    repeat' (first
    | fail
    | refine s_y ?_
      | refine c_ ?_
      | (refine aw_if ?_ ?_ <;> intro hb <;> try (exfalso; first | assumption | omega | (simp only [or_self, and_self, not_true_eq_false, not_false_eq_true, or_false, false_or, and_false, false_and, true_and, and_true] at hb; first | done | omega)))
      | refine s_call ?_ (c := by first | exact f_scanned | exact c1 | exact c2 | exact f_ref05Same _ _ (by omega) (by omega) | fail)
      | refine s_op ?_ (hy := by first | fail | fail)
      | refine s_yg ?_
      | refine s_callg ?_ (c := by intro hk hk2; first | exact f_scanned | exact c1 | exact c2 | exact f_ref05Same _ _ (by omega) (by omega) | fail)
      | refine s_opg ?_ (hy := by intro hk hk2; first | fail | fail)
      | refine s_skip ?_
      | ((first | refine w_alloc ?_ | refine w_box ?_) <;> intro bb)
      | ((first | refine w_emp ?_ | refine w_make ?_ | refine w_app ?_) <;> intro u hu1 hu2)
      | refine w_stv ?_ | refine w_str ?_ | refine w_cpr ?_ | refine w_cps ?_
      | refine al_last (by kernel_rfl) ?_
    | fail)
    all_goals first | exact ⟨_, [], rl_, List.nil_sublist _, Sub.refl _, rfl⟩ | (exfalso; omega)
end Go.Proofs.YtplabpjkkcillaaDoor
