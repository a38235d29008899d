/- Layer 6 (scan): the program's reader: a number. No condition. -/
import Derived.Test.YtplabpjkkcillaaDoorS3
namespace Go.Proofs.YtplabpjkkcillaaDoor
set_option linter.unusedSimpArgs false
set_option linter.unusedVariables false
set_option linter.unusedSectionVars false
set_option maxHeartbeats 4000000
open Go Go.RowKit
variable {T0 : Gh}
set_option maxRecDepth 100000
theorem drop_at {s : List UInt8} {p : Nat} {x : UInt8} (h : s[p]? = some x) : s.drop p = x :: s.drop (p + 1) := by
  obtain ⟨h1, h2⟩ := List.getElem?_eq_some_iff.1 h
  rw [← h2]; exact List.drop_eq_getElem_cons h1
attribute [local irreducible] thenA inBlockA AW AL AO QY varO rowO rsA Opd OpdN vA gvA tupA aggA slA slcA ipA rpA EqK LnK IxK LdK FaK FdK
theorem f_number (b : Nat) (s : List UInt8) (p : Nat) (hs : s.length ≤ 9223372036854775807) (hp : p ≤ s.length) : AF Tryd.prog T0 101 [ptA b, I 80] [rdO b s p]
    (fun A M' => ∃ n t, numM 80 0 (s.drop p) = (0, n, t) ∧ A = I n ∧ M' = [rdO b s (s.length - t.length)]) (fun c _ => ∃ e, e ≠ 0 ∧ (numM 80 0 (s.drop p)).1 = e ∧ c = errP e) := by
  by_cases h0 : p = s.length
  · subst h0
    have cp : True := trivial
    have cq := f_peekE (T0 := T0) b s hs
    have e : numM 80 0 (s.drop s.length) = (3, 0, []) := by rw [List.drop_length]; rfl
    rw [e]
    refine af_intro Tryd.func101 rfl (by decide) Tryd.ntmps101 rfl ?_
    repeat' (first
    | (apply al_call1 rfl rfl rfl rfl (c := cp)
       case ha => exact os_
       case hM => exact pick_
       rintro _ _ ⟨rfl, rfl⟩)
      | (apply al_call1p rfl rfl rfl rfl (c := cq)
         case ha => exact os_
         case hM => exact pick_
         case h => exact fun _ _ h => h.elim
         rintro _ _ rfl)
      | (apply al_panic rfl rfl rfl; (case hx => exact oo_)) | refine th_p ?_ | refine ib_p ?_
    | refine s_y ?_
      | refine c_ ?_
      | (refine aw_if ?_ ?_ <;> intro hb <;> try (exfalso; first | assumption | omega | (simp only [or_self, and_self, not_true_eq_false, not_false_eq_true, or_false, false_or, and_false, false_and, true_and, and_true] at hb; first | done | omega)))
      | refine s_call ?_ (c := by first | fail | fail)
      | refine s_op ?_ (hy := by first | (apply ay_nilp rfl; exact oo_; done) | (apply ay_nilp rfl; exact oog_; done) | (apply ay_iface rfl un_; exact oo_; done) | fail)
      | refine s_yg ?_
      | refine s_callg ?_ (c := by intro hk hk2; first | fail | fail)
      | refine s_opg ?_ (hy := by intro hk hk2; first | (apply ay_nilp rfl; exact oo_; done) | (apply ay_nilp rfl; exact oog_; done) | (apply ay_iface rfl un_; exact oo_; done) | fail)
      | refine s_skip ?_
      | ((first | refine w_alloc ?_ | refine w_box ?_) <;> intro bb)
      | ((first | refine w_emp ?_ | refine w_make ?_ | refine w_app ?_) <;> intro u hu1 hu2)
      | refine w_stv ?_ | refine w_str ?_ | refine w_cpr ?_ | refine w_cps ?_
      | refine al_last (by kernel_rfl) ?_
    | fail)
    exact rq_p ⟨3, by decide, rfl, rfl⟩
  · obtain ⟨x, hx⟩ : ∃ x, s[p]? = some x := ⟨_, List.getElem?_eq_getElem (by omega)⟩
    have cp := f_peek (T0 := T0) b s p x hs hx
    have cq : True := trivial
    refine af_intro Tryd.func101 rfl (by decide) Tryd.ntmps101 rfl ?_
    repeat' (first
    | (apply al_call1 rfl rfl rfl rfl (c := cp)
       case ha => exact os_
       case hM => exact pick_
       rintro _ _ ⟨rfl, rfl⟩)
      | (apply al_call1p rfl rfl rfl rfl (c := cq)
         case ha => exact os_
         case hM => exact pick_
         case h => exact fun _ _ h => h.elim
         rintro _ _ rfl)
      | (apply al_panic rfl rfl rfl; (case hx => exact oo_)) | refine th_p ?_ | refine ib_p ?_
    | refine s_y ?_
      | refine c_ ?_
      | (refine aw_if ?_ ?_ <;> intro hb <;> try (exfalso; first | assumption | omega | (simp only [or_self, and_self, not_true_eq_false, not_false_eq_true, or_false, false_or, and_false, false_and, true_and, and_true] at hb; first | done | omega)))
      | refine s_call ?_ (c := by first | fail | fail)
      | refine s_op ?_ (hy := by first | (apply ay_nilp rfl; exact oo_; done) | (apply ay_nilp rfl; exact oog_; done) | (apply ay_iface rfl un_; exact oo_; done) | fail)
      | refine s_yg ?_
      | refine s_callg ?_ (c := by intro hk hk2; first | fail | fail)
      | refine s_opg ?_ (hy := by intro hk hk2; first | (apply ay_nilp rfl; exact oo_; done) | (apply ay_nilp rfl; exact oog_; done) | (apply ay_iface rfl un_; exact oo_; done) | fail)
      | refine s_skip ?_
      | ((first | refine w_alloc ?_ | refine w_box ?_) <;> intro bb)
      | ((first | refine w_emp ?_ | refine w_make ?_ | refine w_app ?_) <;> intro u hu1 hu2)
      | refine w_stv ?_ | refine w_str ?_ | refine w_cpr ?_ | refine w_cps ?_
      | refine al_last (by kernel_rfl) ?_
    | fail)
    refine aw_lv (σ := Nat × Nat × UInt8) (fun y => [(5, I y.1), (6, UB y.2.2)]) (fun y => [SA s, I y.2.1]) (fun y => s[y.2.1]? = some y.2.2 ∧ y.1 ≤ 80 ∧ numM 80 0 (s.drop p) = numM 80 y.1 (s.drop y.2.1)) (fun y => s.length - y.2.1) (0, p, x) ⟨hx, Nat.zero_le _, rfl⟩ rfl ?_
    rintro ⟨n, q, z⟩ ⟨hz, hn, he⟩
    simp only at hz hn he ⊢
    have hq := (List.getElem?_eq_some_iff.1 hz).1
    have hz2 := z.toNat_lt
    rw [drop_at hz, numM_cons] at he
    clear cp cq
    by_cases hd : dig z
    · rw [if_pos hd] at he
      unfold dig at hd
      by_cases hk : n * 10 + (z.toNat - 48) = 0 ∨ 80 < n * 10 + (z.toNat - 48)
      · rw [if_pos hk] at he
        have cp : True := trivial
        have cq : True := trivial
        repeat' (first
        | (apply al_call1 rfl rfl rfl rfl (c := cp)
           case ha => exact os_
           case hM => exact pick_
           rintro _ _ ⟨rfl, rfl⟩)
          | (apply al_call1p rfl rfl rfl rfl (c := cq)
             case ha => exact os_
             case hM => exact pick_
             case h => exact fun _ _ h => h.elim
             rintro _ _ rfl)
          | (apply al_panic rfl rfl rfl; (case hx => exact oo_)) | refine th_p ?_ | refine ib_p ?_
        | refine s_y ?_
          | refine c_ ?_
          | (refine aw_if ?_ ?_ <;> intro hb <;> try (exfalso; first | assumption | omega | (simp only [or_self, and_self, not_true_eq_false, not_false_eq_true, or_false, false_or, and_false, false_and, true_and, and_true] at hb; first | done | omega)))
          | refine s_call ?_ (c := by first | fail | fail)
          | refine s_op ?_ (hy := by first | (apply ay_nilp rfl; exact oo_; done) | (apply ay_nilp rfl; exact oog_; done) | (apply ay_iface rfl un_; exact oo_; done) | fail)
          | refine s_yg ?_
          | refine s_callg ?_ (c := by intro hk hk2; first | fail | fail)
          | refine s_opg ?_ (hy := by intro hk hk2; first | (apply ay_nilp rfl; exact oo_; done) | (apply ay_nilp rfl; exact oog_; done) | (apply ay_iface rfl un_; exact oo_; done) | fail)
          | refine s_skip ?_
          | ((first | refine w_alloc ?_ | refine w_box ?_) <;> intro bb)
          | ((first | refine w_emp ?_ | refine w_make ?_ | refine w_app ?_) <;> intro u hu1 hu2)
          | refine w_stv ?_ | refine w_str ?_ | refine w_cpr ?_ | refine w_cps ?_
          | refine al_last (by kernel_rfl) ?_
        | fail)
        · exact rq_p ⟨2, by decide, by rw [he], rfl⟩
        all_goals (exfalso; omega)
      · rw [if_neg hk] at he
        by_cases hl : q + 1 = s.length
        · have cp : True := trivial
          have cq : AF Tryd.prog T0 78 [ptA b] [rdO b s (q + 1)] (fun _ _ => False) (fun c _ => c = errP 3) := by rw [hl]; exact f_peekE b s hs
          have e : numM 80 (n * 10 + (z.toNat - 48)) (s.drop (q + 1)) = (3, 0, []) := by rw [hl, List.drop_length]; rfl
          rw [e] at he
          repeat' (first
          | (apply al_call1 rfl rfl rfl rfl (c := cp)
             case ha => exact os_
             case hM => exact pick_
             rintro _ _ ⟨rfl, rfl⟩)
            | (apply al_call1p rfl rfl rfl rfl (c := cq)
               case ha => exact os_
               case hM => exact pick_
               case h => exact fun _ _ h => h.elim
               rintro _ _ rfl)
            | (apply al_panic rfl rfl rfl; (case hx => exact oo_)) | refine th_p ?_ | refine ib_p ?_
          | refine s_y ?_
            | refine c_ ?_
            | (refine aw_if ?_ ?_ <;> intro hb <;> try (exfalso; first | assumption | omega | (simp only [or_self, and_self, not_true_eq_false, not_false_eq_true, or_false, false_or, and_false, false_and, true_and, and_true] at hb; first | done | omega)))
            | refine s_call ?_ (c := by first | fail | fail)
            | refine s_op ?_ (hy := by first | (apply ay_nilp rfl; exact oo_; done) | (apply ay_nilp rfl; exact oog_; done) | (apply ay_iface rfl un_; exact oo_; done) | fail)
            | refine s_yg ?_
            | refine s_callg ?_ (c := by intro hk hk2; first | fail | fail)
            | refine s_opg ?_ (hy := by intro hk hk2; first | (apply ay_nilp rfl; exact oo_; done) | (apply ay_nilp rfl; exact oog_; done) | (apply ay_iface rfl un_; exact oo_; done) | fail)
            | refine s_skip ?_
            | ((first | refine w_alloc ?_ | refine w_box ?_) <;> intro bb)
            | ((first | refine w_emp ?_ | refine w_make ?_ | refine w_app ?_) <;> intro u hu1 hu2)
            | refine w_stv ?_ | refine w_str ?_ | refine w_cpr ?_ | refine w_cps ?_
            | refine al_last (by kernel_rfl) ?_
          | fail)
          all_goals first | exact rq_p ⟨3, by decide, by rw [he], rfl⟩ | (exfalso; omega)
        · obtain ⟨y, hy⟩ : ∃ y, s[q + 1]? = some y := ⟨_, List.getElem?_eq_getElem (by omega)⟩
          have cp := f_peek (T0 := T0) b s (q + 1) y hs hy
          have cq : True := trivial
          repeat' (first
          | (apply al_call1 rfl rfl rfl rfl (c := cp)
             case ha => exact os_
             case hM => exact pick_
             rintro _ _ ⟨rfl, rfl⟩)
            | (apply al_call1p rfl rfl rfl rfl (c := cq)
               case ha => exact os_
               case hM => exact pick_
               case h => exact fun _ _ h => h.elim
               rintro _ _ rfl)
            | (apply al_panic rfl rfl rfl; (case hx => exact oo_)) | refine th_p ?_ | refine ib_p ?_
          | refine s_y ?_
            | refine c_ ?_
            | (refine aw_if ?_ ?_ <;> intro hb <;> try (exfalso; first | assumption | omega | (simp only [or_self, and_self, not_true_eq_false, not_false_eq_true, or_false, false_or, and_false, false_and, true_and, and_true] at hb; first | done | omega)))
            | refine s_call ?_ (c := by first | fail | fail)
            | refine s_op ?_ (hy := by first | (apply ay_nilp rfl; exact oo_; done) | (apply ay_nilp rfl; exact oog_; done) | (apply ay_iface rfl un_; exact oo_; done) | fail)
            | refine s_yg ?_
            | refine s_callg ?_ (c := by intro hk hk2; first | fail | fail)
            | refine s_opg ?_ (hy := by intro hk hk2; first | (apply ay_nilp rfl; exact oo_; done) | (apply ay_nilp rfl; exact oog_; done) | (apply ay_iface rfl un_; exact oo_; done) | fail)
            | refine s_skip ?_
            | ((first | refine w_alloc ?_ | refine w_box ?_) <;> intro bb)
            | ((first | refine w_emp ?_ | refine w_make ?_ | refine w_app ?_) <;> intro u hu1 hu2)
            | refine w_stv ?_ | refine w_str ?_ | refine w_cpr ?_ | refine w_cps ?_
            | refine al_last (by kernel_rfl) ?_
          | fail)
          all_goals first | (exfalso; omega) | skip
          exact ⟨(n * 10 + (z.toNat - 48), q + 1, y), ⟨hy, by simp only; omega, he⟩, by simp only; omega, by dsimp only; exact wx_, sl_⟩
    · rw [if_neg hd] at he
      unfold dig at hd
      have cp : True := trivial
      have cq : True := trivial
      by_cases hk : n = 0
      · subst hk
        rw [if_pos rfl] at he
        repeat' (first
        | (apply al_call1 rfl rfl rfl rfl (c := cp)
           case ha => exact os_
           case hM => exact pick_
           rintro _ _ ⟨rfl, rfl⟩)
          | (apply al_call1p rfl rfl rfl rfl (c := cq)
             case ha => exact os_
             case hM => exact pick_
             case h => exact fun _ _ h => h.elim
             rintro _ _ rfl)
          | (apply al_panic rfl rfl rfl; (case hx => exact oo_)) | refine th_p ?_ | refine ib_p ?_
        | refine s_y ?_
          | refine c_ ?_
          | (refine aw_if ?_ ?_ <;> intro hb <;> try (exfalso; first | assumption | omega | (simp only [or_self, and_self, not_true_eq_false, not_false_eq_true, or_false, false_or, and_false, false_and, true_and, and_true] at hb; first | done | omega)))
          | refine s_call ?_ (c := by first | fail | fail)
          | refine s_op ?_ (hy := by first | (apply ay_nilp rfl; exact oo_; done) | (apply ay_nilp rfl; exact oog_; done) | (apply ay_iface rfl un_; exact oo_; done) | fail)
          | refine s_yg ?_
          | refine s_callg ?_ (c := by intro hk hk2; first | fail | fail)
          | refine s_opg ?_ (hy := by intro hk hk2; first | (apply ay_nilp rfl; exact oo_; done) | (apply ay_nilp rfl; exact oog_; done) | (apply ay_iface rfl un_; exact oo_; done) | fail)
          | refine s_skip ?_
          | ((first | refine w_alloc ?_ | refine w_box ?_) <;> intro bb)
          | ((first | refine w_emp ?_ | refine w_make ?_ | refine w_app ?_) <;> intro u hu1 hu2)
          | refine w_stv ?_ | refine w_str ?_ | refine w_cpr ?_ | refine w_cps ?_
          | refine al_last (by kernel_rfl) ?_
        | fail)
        all_goals first | exact rq_p ⟨2, by decide, by rw [he], rfl⟩ | (exfalso; omega)
      · rw [if_neg hk] at he
        repeat' (first
        | (apply al_call1 rfl rfl rfl rfl (c := cp)
           case ha => exact os_
           case hM => exact pick_
           rintro _ _ ⟨rfl, rfl⟩)
          | (apply al_call1p rfl rfl rfl rfl (c := cq)
             case ha => exact os_
             case hM => exact pick_
             case h => exact fun _ _ h => h.elim
             rintro _ _ rfl)
          | (apply al_panic rfl rfl rfl; (case hx => exact oo_)) | refine th_p ?_ | refine ib_p ?_
        | refine s_y ?_
          | refine c_ ?_
          | (refine aw_if ?_ ?_ <;> intro hb <;> try (exfalso; first | assumption | omega | (simp only [or_self, and_self, not_true_eq_false, not_false_eq_true, or_false, false_or, and_false, false_and, true_and, and_true] at hb; first | done | omega)))
          | refine s_call ?_ (c := by first | fail | fail)
          | refine s_op ?_ (hy := by first | (apply ay_nilp rfl; exact oo_; done) | (apply ay_nilp rfl; exact oog_; done) | (apply ay_iface rfl un_; exact oo_; done) | fail)
          | refine s_yg ?_
          | refine s_callg ?_ (c := by intro hk hk2; first | fail | fail)
          | refine s_opg ?_ (hy := by intro hk hk2; first | (apply ay_nilp rfl; exact oo_; done) | (apply ay_nilp rfl; exact oog_; done) | (apply ay_iface rfl un_; exact oo_; done) | fail)
          | refine s_skip ?_
          | ((first | refine w_alloc ?_ | refine w_box ?_) <;> intro bb)
          | ((first | refine w_emp ?_ | refine w_make ?_ | refine w_app ?_) <;> intro u hu1 hu2)
          | refine w_stv ?_ | refine w_str ?_ | refine w_cpr ?_ | refine w_cps ?_
          | refine al_last (by kernel_rfl) ?_
        | fail)
        all_goals first | (exfalso; omega) | skip
        refine ⟨_, [rdO b s q], rl_, sl_, n, _, he, rfl, ?_⟩
        rw [show s.length - (z :: s.drop (q + 1)).length = q by rw [List.length_cons, List.length_drop]; omega]
end Go.Proofs.YtplabpjkkcillaaDoor
