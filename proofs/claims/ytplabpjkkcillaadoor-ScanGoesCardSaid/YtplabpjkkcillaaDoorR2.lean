/- Layer 1: the reference's next sign: it is the program's. No condition. -/
import Derived.Test.YtplabpjkkcillaaDoorR1
namespace Go.Proofs.YtplabpjkkcillaaDoor
set_option linter.unusedSimpArgs false
set_option linter.unusedVariables false
set_option linter.unusedSectionVars false
set_option maxHeartbeats 4000000
open Go Go.RowKit
variable {T0 : Gh}
set_option maxRecDepth 100000
theorem value_le (b : UInt8) (l : List UInt8) (h : l.length ≤ 3) : valueM b l ≤ 2147483647 := by
  have hb := b.toNat_lt
  cases l with
  | nil => rw [valueM, if_pos rfl]; omega
  | cons x l =>
    have hx := x.toNat_lt
    rw [valueM, if_neg (by simp)]
    split
    · omega
    · cases l with
      | nil => rw [valL_cons]; split <;> (try simp only [valL_nil, List.length_cons, List.length_nil, lead2]) <;> omega
      | cons y l =>
        have hy := y.toNat_lt
        cases l with
        | nil => rw [valL_cons, valL_cons]; (repeat' split) <;> (try simp only [valL_nil, List.length_cons, List.length_nil, lead3]) <;> omega
        | cons z l =>
          have hz := z.toNat_lt
          cases l with
          | nil => rw [valL_cons, valL_cons, valL_cons]; (repeat' split) <;> (try simp only [valL_nil, List.length_cons, List.length_nil, lead4]) <;> omega
          | cons w l => simp only [List.length_cons] at h; omega
attribute [local irreducible] thenA inBlockA AW AL AO QY varO rowO rsA Opd OpdN vA gvA tupA aggA slA slcA ipA rpA EqK LnK IxK LdK FaK FdK
theorem f_whole (s : List UInt8) (h0 : s ≠ []) (hl : s.length ≤ 4) : AP Tryd.prog T0 107 [SA s] (tupA [R (wholeS s).1, B (wholeS s).2]) := by
  cases s with
  | nil => exact absurd rfl h0
  | cons b l =>
    have hl' : l.length ≤ 3 := by simp only [List.length_cons] at hl; omega
    have hv := value_le b l hl'
    have c1 := f_value (T0 := T0) b l hl'
    have c2 := f_ref01Put (T0 := T0) (valueM b l)
    rw [wholeS]
    obtain ⟨s, hs⟩ : ∃ s, s = b :: l := ⟨_, rfl⟩
    rw [← hs] at c1 ⊢
    obtain ⟨v, hve⟩ : ∃ v, v = valueM b l := ⟨_, rfl⟩
    rw [← hve] at hv c1 c2 ⊢
    by_cases hn : v < 0
    · rw [if_pos hn]
      clear c2
      have c2 : True := trivial
      refine af_intro Tryd.func107 rfl (by decide) Tryd.ntmps107 rfl ?_
      repeat' (first
      | fail
      | refine s_y ?_
        | refine c_ ?_
        | (refine aw_if ?_ ?_ <;> intro hb <;> try (exfalso; first | assumption | omega | (simp only [or_self, and_self, not_true_eq_false, not_false_eq_true, or_false, false_or, and_false, false_and, true_and, and_true] at hb; first | done | omega)))
        | refine s_call ?_ (c := by first | exact c1 | exact c2 | fail)
        | refine s_op ?_ (hy := by first | fail | fail)
        | refine s_yg ?_
        | refine s_callg ?_ (c := by intro hk hk2; first | exact c1 | exact c2 | fail)
        | refine s_opg ?_ (hy := by intro hk hk2; first | fail | fail)
        | refine s_skip ?_
        | ((first | refine w_alloc ?_ | refine w_box ?_) <;> intro bb)
        | ((first | refine w_emp ?_ | refine w_make ?_ | refine w_app ?_) <;> intro u hu1 hu2)
        | refine w_stv ?_ | refine w_str ?_ | refine w_cpr ?_ | refine w_cps ?_
        | refine al_last (by kernel_rfl) ?_
      | fail)
      all_goals first | (exfalso; omega) | exact ⟨_, [], rl_, List.nil_sublist _, Sub.refl _, rfl⟩
    · rw [if_neg hn]
      cases hg : isG v with
      | true =>
        have e2 : putG v = (encC v, 0) := by rw [putG, if_pos hg, encB_eq hg]
        rw [e2] at c2
        refine af_intro Tryd.func107 rfl (by decide) Tryd.ntmps107 rfl ?_
        repeat' (first
        | fail
        | refine s_y ?_
          | refine c_ ?_
          | (refine aw_if ?_ ?_ <;> intro hb <;> try (exfalso; first | assumption | omega | (simp only [or_self, and_self, not_true_eq_false, not_false_eq_true, or_false, false_or, and_false, false_and, true_and, and_true] at hb; first | done | omega)))
          | refine s_call ?_ (c := by first | exact c1 | exact c2 | fail)
          | refine s_op ?_ (hy := by first | fail | fail)
          | refine s_yg ?_
          | refine s_callg ?_ (c := by intro hk hk2; first | exact c1 | exact c2 | fail)
          | refine s_opg ?_ (hy := by intro hk hk2; first | fail | fail)
          | refine s_skip ?_
          | ((first | refine w_alloc ?_ | refine w_box ?_) <;> intro bb)
          | ((first | refine w_emp ?_ | refine w_make ?_ | refine w_app ?_) <;> intro u hu1 hu2)
          | refine w_stv ?_ | refine w_str ?_ | refine w_cpr ?_ | refine w_cps ?_
          | refine al_last (by kernel_rfl) ?_
        | fail)
        all_goals first | (exfalso; omega) | exact ⟨_, [], rl_, List.nil_sublist _, Sub.refl _, rfl⟩ | exact ⟨_, [], rl_, List.nil_sublist _, Sub.eq (by simp), rfl⟩
      | false =>
        have e2 : putG v = ([], 1) := by rw [putG, if_neg (by rw [hg]; decide)]
        rw [e2] at c2
        refine af_intro Tryd.func107 rfl (by decide) Tryd.ntmps107 rfl ?_
        repeat' (first
        | fail
        | refine s_y ?_
          | refine c_ ?_
          | (refine aw_if ?_ ?_ <;> intro hb <;> try (exfalso; first | assumption | omega | (simp only [or_self, and_self, not_true_eq_false, not_false_eq_true, or_false, false_or, and_false, false_and, true_and, and_true] at hb; first | done | omega)))
          | refine s_call ?_ (c := by first | exact c1 | exact c2 | fail)
          | refine s_op ?_ (hy := by first | fail | fail)
          | refine s_yg ?_
          | refine s_callg ?_ (c := by intro hk hk2; first | exact c1 | exact c2 | fail)
          | refine s_opg ?_ (hy := by intro hk hk2; first | fail | fail)
          | refine s_skip ?_
          | ((first | refine w_alloc ?_ | refine w_box ?_) <;> intro bb)
          | ((first | refine w_emp ?_ | refine w_make ?_ | refine w_app ?_) <;> intro u hu1 hu2)
          | refine w_stv ?_ | refine w_str ?_ | refine w_cpr ?_ | refine w_cps ?_
          | refine al_last (by kernel_rfl) ?_
        | fail)
        all_goals first | (exfalso; omega) | exact ⟨_, [], rl_, List.nil_sublist _, Sub.refl _, rfl⟩ | exact ⟨_, [], rl_, List.nil_sublist _, Sub.eq (by simp), rfl⟩
def rep (k : Nat) (x : UInt8) : List UInt8 := List.replicate k x
theorem rep_s (s : List UInt8) (k : Nat) (x : UInt8) : s ++ rep (k + 1) x = s ++ rep k x ++ [x] := by rw [rep, rep, List.replicate_succ', List.append_assoc]
theorem rep_z (s : List UInt8) (x : UInt8) : s ++ rep 0 x = s := by simp [rep]
theorem more_of_whole {s : List UInt8} (h0 : s ≠ []) {k : Nat} (hk : 1 ≤ k) {x : UInt8} (h : (wholeS (s ++ rep k x)).2 = true) : MoreG s := by
  obtain ⟨h1, h2⟩ := whole_is h
  refine ⟨h0, _, h1, ?_, ?_⟩
  · rw [h2, List.length_append, rep, List.length_replicate]; omega
  · rw [h2, List.take_left]
theorem isG_nat {n : Nat} (h1 : n ≤ 1114111) (h2 : ¬ (55296 ≤ n ∧ n ≤ 57343)) : isG (n : Int) = true := isG_iff.2 ⟨by omega, by omega, by omega⟩
theorem whole_of_more {s : List UInt8} (h : MoreG s) : ∃ k, 1 ≤ k ∧ s.length + k ≤ 4 ∧ ((wholeS (s ++ rep k 128)).2 = true ∨ (wholeS (s ++ rep k 191)).2 = true) := by
  obtain ⟨h0, r, hg, hl, ht⟩ := h
  have hw : ∀ (m : Nat) (t : List UInt8), m ≤ 1114111 → ¬ (55296 ≤ m ∧ m ≤ 57343) → encC (m : Int) = t → (wholeS t).2 = true := fun m t a b e => by rw [whole_of (isG_nat a b) e]
  have h1 : 1 ≤ s.length := by cases s with | nil => exact absurd rfl h0 | cons => simp
  obtain ⟨n, rfl, hn, hs, hc⟩ := enc_cases hg
  rcases hc with ⟨_, e⟩ | ⟨a, b, e⟩ | ⟨a, b, e⟩ | ⟨a, e⟩ <;> rw [e] at hl ht <;> simp only [List.length_cons, List.length_nil] at hl
  · omega
  · have : s.length = 1 := by omega
    rw [this] at ht
    refine ⟨1, by omega, by omega, .inl ?_⟩
    subst ht
    refine hw (n / 64 * 64) _ (by omega) (by omega) ?_
    rw [(encN (n := n / 64 * 64)).2.1 (by omega) (by omega)]
    exact lst2 (b' := 128) (by omega) (by omega)
  · have : s.length = 1 ∨ s.length = 2 := by omega
    rcases this with h2 | h2
    · rw [h2] at ht
      by_cases hz : n / 4096 = 0
      · refine ⟨2, by omega, by omega, .inr ?_⟩
        subst ht
        refine hw 4095 _ (by omega) (by omega) ?_
        rw [hz]; rfl
      · refine ⟨2, by omega, by omega, .inl ?_⟩
        subst ht
        refine hw (n / 4096 * 4096) _ (by omega) (by omega) ?_
        rw [(encN (n := n / 4096 * 4096)).2.2.1 (by omega) (by omega)]
        exact lst3 (b' := 128) (c' := 128) (by omega) (by omega) (by omega)
    · rw [h2] at ht
      refine ⟨1, by omega, by omega, .inl ?_⟩
      subst ht
      refine hw (n / 64 * 64) _ (by omega) (by omega) ?_
      rw [(encN (n := n / 64 * 64)).2.2.1 (by omega) (by omega)]
      exact lst3 (c' := 128) (by omega) (by omega) (by omega)
  · have : s.length = 1 ∨ s.length = 2 ∨ s.length = 3 := by omega
    rcases this with h2 | h2 | h2
    · rw [h2] at ht
      by_cases hz : n / 262144 = 0
      · refine ⟨3, by omega, by omega, .inr ?_⟩
        subst ht
        refine hw 262143 _ (by omega) (by omega) ?_
        rw [hz]; rfl
      · refine ⟨3, by omega, by omega, .inl ?_⟩
        subst ht
        refine hw (n / 262144 * 262144) _ (by omega) (by omega) ?_
        rw [(encN (n := n / 262144 * 262144)).2.2.2 (by omega)]
        exact lst4 (b' := 128) (c' := 128) (d' := 128) (by omega) (by omega) (by omega) (by omega)
    · rw [h2] at ht
      refine ⟨2, by omega, by omega, .inl ?_⟩
      subst ht
      refine hw (n / 4096 * 4096) _ (by omega) (by omega) ?_
      rw [(encN (n := n / 4096 * 4096)).2.2.2 (by omega)]
      exact lst4 (c' := 128) (d' := 128) (by omega) (by omega) (by omega) (by omega)
    · rw [h2] at ht
      refine ⟨1, by omega, by omega, .inl ?_⟩
      subst ht
      refine hw (n / 64 * 64) _ (by omega) (by omega) ?_
      rw [(encN (n := n / 64 * 64)).2.2.2 (by omega)]
      exact lst4 (d' := 128) (by omega) (by omega) (by omega) (by omega)
theorem f_more (s : List UInt8) (h0 : s ≠ []) (hs : s.length ≤ 90000) : AP Tryd.prog T0 108 [SA s] (B (!fullG s)) := by
  have hno : (∀ k, 1 ≤ k → s.length + k ≤ 4 → (wholeS (s ++ rep k 128)).2 = false ∧ (wholeS (s ++ rep k 191)).2 = false) → fullG s = true := fun h => by
    cases hf : fullG s with
    | true => rfl
    | false =>
      obtain ⟨k, k1, k2, k3⟩ := whole_of_more (more_of_not_full h0 hf)
      obtain ⟨q1, q2⟩ := h k k1 k2
      rw [q1, q2] at k3; simp at k3
  have hyes : ∀ k, 1 ≤ k → ((wholeS (s ++ rep k 128)).2 = true ∨ (wholeS (s ++ rep k 191)).2 = true) → fullG s = false := fun k hk h => by
    rcases h with h | h
    · exact not_full_of_more (more_of_whole h0 hk h)
    · exact not_full_of_more (more_of_whole h0 hk h)
  refine af_intro Tryd.func108 rfl (by decide) Tryd.ntmps108 rfl ?_
  have c1 : True := trivial
  have c2 : True := trivial
  repeat' (first
  | fail
  | refine s_y ?_
    | refine c_ ?_
    | (refine aw_if ?_ ?_ <;> intro hb <;> try (exfalso; first | assumption | omega | (simp only [or_self, and_self, not_true_eq_false, not_false_eq_true, or_false, false_or, and_false, false_and, true_and, and_true] at hb; first | done | omega)))
    | refine s_call ?_ (c := by first | exact c1 | exact c2 | fail)
    | refine s_op ?_ (hy := by first | fail | fail)
    | refine s_yg ?_
    | refine s_callg ?_ (c := by intro hk hk2; first | exact c1 | exact c2 | fail)
    | refine s_opg ?_ (hy := by intro hk hk2; first | fail | fail)
    | refine s_skip ?_
    | ((first | refine w_alloc ?_ | refine w_box ?_) <;> intro bb)
    | ((first | refine w_emp ?_ | refine w_make ?_ | refine w_app ?_) <;> intro u hu1 hu2)
    | refine w_stv ?_ | refine w_str ?_ | refine w_cpr ?_ | refine w_cps ?_
    | refine al_last (by kernel_rfl) ?_
  | fail)
  refine aw_lf (σ := Nat) (fun k => [(3, I (s.length + k : Nat))]) (fun k => 1 ≤ k ∧ (s.length + k ≤ 5 ∨ k = 1) ∧ ∀ j, 1 ≤ j → j < k → (wholeS (s ++ rep j 128)).2 = false ∧ (wholeS (s ++ rep j 191)).2 = false) (fun k => 5 - k) 1 ⟨by omega, .inr rfl, fun j a b => by omega⟩ ?_
  rintro k ⟨i1, i2, i3⟩
  by_cases hk : s.length + k ≤ 4
  · repeat' (first
    | fail
    | refine s_y ?_
      | refine c_ ?_
      | (refine aw_if ?_ ?_ <;> intro hb <;> try (exfalso; first | assumption | omega | (simp only [or_self, and_self, not_true_eq_false, not_false_eq_true, or_false, false_or, and_false, false_and, true_and, and_true] at hb; first | done | omega)))
      | refine s_call ?_ (c := by first | exact c1 | exact c2 | fail)
      | refine s_op ?_ (hy := by first | fail | fail)
      | refine s_yg ?_
      | refine s_callg ?_ (c := by intro hk hk2; first | exact c1 | exact c2 | fail)
      | refine s_opg ?_ (hy := by intro hk hk2; first | fail | fail)
      | refine s_skip ?_
      | ((first | refine w_alloc ?_ | refine w_box ?_) <;> intro bb)
      | ((first | refine w_emp ?_ | refine w_make ?_ | refine w_app ?_) <;> intro u hu1 hu2)
      | refine w_stv ?_ | refine w_str ?_ | refine w_cpr ?_ | refine w_cps ?_
      | refine al_last (by kernel_rfl) ?_
    | fail)
    all_goals first | (exfalso; omega) | skip
    refine aw_lf (σ := Nat) (fun j => [(4, SA (s ++ rep j 128)), (5, SA (s ++ rep j 191))]) (fun j => j ≤ k) (fun j => k - j) 0 (by omega) ?_ (by rw [rep_z, rep_z]; exact wk_)
    intro j hj
    have e128 := rep_s s j 128
    have e191 := rep_s s j 191
    have l128 : (s ++ rep j 128).length = s.length + j := by rw [List.length_append, rep, List.length_replicate]
    have l191 : (s ++ rep j 191).length = s.length + j := by rw [List.length_append, rep, List.length_replicate]
    have hnext : (wholeS (s ++ rep j 128)).2 = false → (wholeS (s ++ rep j 191)).2 = false → j = k → ∀ q, 1 ≤ q → q < k + 1 → (wholeS (s ++ rep q 128)).2 = false ∧ (wholeS (s ++ rep q 191)).2 = false := fun w1 w2 e q a b => by
      rcases Nat.lt_or_ge q k with h | h
      · exact i3 q a h
      · obtain rfl : q = k := by omega
        subst e; exact ⟨w1, w2⟩
    by_cases hlt : j < k
    · clear hnext
      obtain ⟨x, hx⟩ : ∃ x, x = s ++ rep j 128 := ⟨_, rfl⟩
      obtain ⟨y, hy⟩ : ∃ y, y = s ++ rep j 191 := ⟨_, rfl⟩
      rw [← hx] at e128 l128 ⊢
      rw [← hy] at e191 l191 ⊢
      have hx1 : x.length + [(128 : UInt8)].length ≤ 9223372036854775807 := by rw [l128]; simp only [List.length_singleton]; omega
      have hy1 : y.length + [(191 : UInt8)].length ≤ 9223372036854775807 := by rw [l191]; simp only [List.length_singleton]; omega
      repeat' (first
      | fail
      | refine s_y ?_
        | refine c_ ?_
        | (refine aw_if ?_ ?_ <;> intro hb <;> try (exfalso; first | assumption | omega | (simp only [or_self, and_self, not_true_eq_false, not_false_eq_true, or_false, false_or, and_false, false_and, true_and, and_true] at hb; first | done | omega)))
        | refine s_call ?_ (c := by first | exact c1 | exact c2 | fail)
        | refine s_op ?_ (hy := by first | fail | fail)
        | refine s_yg ?_
        | refine s_callg ?_ (c := by intro hk hk2; first | exact c1 | exact c2 | fail)
        | refine s_opg ?_ (hy := by intro hk hk2; first | fail | fail)
        | refine s_skip ?_
        | ((first | refine w_alloc ?_ | refine w_box ?_) <;> intro bb)
        | ((first | refine w_emp ?_ | refine w_make ?_ | refine w_app ?_) <;> intro u hu1 hu2)
        | refine w_stv ?_ | refine w_str ?_ | refine w_cpr ?_ | refine w_cps ?_
        | refine al_last (by kernel_rfl) ?_
      | fail)
      all_goals first | (exfalso; omega) | skip
      exact ⟨j + 1, by omega, by omega, by rw [e128, e191]; exact wx_, sl_⟩
    · have hjk : j = k := by omega
      have c1 := f_whole (T0 := T0) (s ++ rep j 128) (by simp [h0]) (by rw [l128]; omega)
      have c2 := f_whole (T0 := T0) (s ++ rep j 191) (by simp [h0]) (by rw [l191]; omega)
      have hyes := hyes j (by omega)
      obtain ⟨x, hx⟩ : ∃ x, x = s ++ rep j 128 := ⟨_, rfl⟩
      obtain ⟨y, hy⟩ : ∃ y, y = s ++ rep j 191 := ⟨_, rfl⟩
      rw [← hx] at l128 c1 hnext hyes ⊢
      rw [← hy] at l191 c2 hnext hyes ⊢
      clear e128 e191 hx hy
      cases w1 : (wholeS x).2 <;> rw [w1] at c1 <;> cases w2 : (wholeS y).2 <;> rw [w2] at c2
      · have hn := hnext w1 w2 hjk
        repeat' (first
        | fail
        | refine s_y ?_
          | refine c_ ?_
          | (refine aw_if ?_ ?_ <;> intro hb <;> try (exfalso; first | assumption | omega | (simp only [or_self, and_self, not_true_eq_false, not_false_eq_true, or_false, false_or, and_false, false_and, true_and, and_true] at hb; first | done | omega)))
          | refine s_call ?_ (c := by first | exact c1 | exact c2 | fail)
          | refine s_op ?_ (hy := by first | fail | fail)
          | refine s_yg ?_
          | refine s_callg ?_ (c := by intro hk hk2; first | exact c1 | exact c2 | fail)
          | refine s_opg ?_ (hy := by intro hk hk2; first | fail | fail)
          | refine s_skip ?_
          | ((first | refine w_alloc ?_ | refine w_box ?_) <;> intro bb)
          | ((first | refine w_emp ?_ | refine w_make ?_ | refine w_app ?_) <;> intro u hu1 hu2)
          | refine w_stv ?_ | refine w_str ?_ | refine w_cpr ?_ | refine w_cps ?_
          | refine al_last (by kernel_rfl) ?_
        | fail)
        all_goals first | (exfalso; omega) | exact ⟨k + 1, ⟨by omega, .inl (by omega), hn⟩, by omega, wx_, sl_⟩
      all_goals
        have hf := hyes (by rw [w1, w2]; simp)
        repeat' (first
        | fail
        | refine s_y ?_
          | refine c_ ?_
          | (refine aw_if ?_ ?_ <;> intro hb <;> try (exfalso; first | assumption | omega | (simp only [or_self, and_self, not_true_eq_false, not_false_eq_true, or_false, false_or, and_false, false_and, true_and, and_true] at hb; first | done | omega)))
          | refine s_call ?_ (c := by first | exact c1 | exact c2 | fail)
          | refine s_op ?_ (hy := by first | fail | fail)
          | refine s_yg ?_
          | refine s_callg ?_ (c := by intro hk hk2; first | exact c1 | exact c2 | fail)
          | refine s_opg ?_ (hy := by intro hk hk2; first | fail | fail)
          | refine s_skip ?_
          | ((first | refine w_alloc ?_ | refine w_box ?_) <;> intro bb)
          | ((first | refine w_emp ?_ | refine w_make ?_ | refine w_app ?_) <;> intro u hu1 hu2)
          | refine w_stv ?_ | refine w_str ?_ | refine w_cpr ?_ | refine w_cps ?_
          | refine al_last (by kernel_rfl) ?_
        | fail)
      all_goals first | (exfalso; omega) | exact ⟨_, [], rl_, List.nil_sublist _, Sub.eq (by rw [hf]; rfl), rfl⟩
  · have := hno fun j a b => i3 j a (by omega)
    repeat' (first
    | fail
    | refine s_y ?_
      | refine c_ ?_
      | (refine aw_if ?_ ?_ <;> intro hb <;> try (exfalso; first | assumption | omega | (simp only [or_self, and_self, not_true_eq_false, not_false_eq_true, or_false, false_or, and_false, false_and, true_and, and_true] at hb; first | done | omega)))
      | refine s_call ?_ (c := by first | exact c1 | exact c2 | fail)
      | refine s_op ?_ (hy := by first | fail | fail)
      | refine s_yg ?_
      | refine s_callg ?_ (c := by intro hk hk2; first | exact c1 | exact c2 | fail)
      | refine s_opg ?_ (hy := by intro hk hk2; first | fail | fail)
      | refine s_skip ?_
      | ((first | refine w_alloc ?_ | refine w_box ?_) <;> intro bb)
      | ((first | refine w_emp ?_ | refine w_make ?_ | refine w_app ?_) <;> intro u hu1 hu2)
      | refine w_stv ?_ | refine w_str ?_ | refine w_cpr ?_ | refine w_cps ?_
      | refine al_last (by kernel_rfl) ?_
    | fail)
    all_goals first | (exfalso; omega) | exact ⟨_, [], rl_, List.nil_sublist _, Sub.eq (by rw [this]; rfl), rfl⟩
end Go.Proofs.YtplabpjkkcillaaDoor
