/- Layer 6 (scan): the program's reader: what stands behind 27 and [. No condition. -/
import Derived.Test.YtplabpjkkcillaaDoorS4
namespace Go.Proofs.YtplabpjkkcillaaDoor
set_option linter.unusedSimpArgs false
set_option linter.unusedVariables false
set_option linter.unusedSectionVars false
set_option maxHeartbeats 4000000
open Go Go.RowKit
variable {T0 : Gh}
set_option maxRecDepth 100000
theorem drop_len {s t : List UInt8} {p : Nat} (h : s.drop p = t) (hp : p ≤ s.length) : t.length = s.length - p := by rw [← h, List.length_drop]
theorem at_app {s l t : List UInt8} {p : Nat} (h : s.drop p = l ++ t) (hp : p ≤ s.length) : s.drop (p + l.length) = t ∧ p + l.length + t.length = s.length := by
  have h1 := congrArg (List.drop l.length) h
  rw [List.drop_drop, List.drop_left] at h1
  have h2 := congrArg List.length h
  rw [List.length_drop, List.length_append] at h2
  exact ⟨h1, by omega⟩
theorem dig_last {m : Nat} (h : m < 100) : ∃ k y, (digB m).length = k + 1 ∧ (digB m)[k]? = some y ∧ y.toNat ≤ 57 := by
  unfold digB; split
  · exact ⟨0, _, rfl, rfl, by simp; omega⟩
  · exact ⟨1, _, rfl, rfl, by simp; omega⟩
theorem cons_at {s t : List UInt8} {p : Nat} {x : UInt8} (h : s.drop p = x :: t) : s[p]? = some x ∧ s.drop (p + 1) = t := by
  have h1 : s[p]? = some x := by
    have := congrArg (fun l : List UInt8 => l[0]?) h
    simpa [List.getElem?_drop] using this
  rw [drop_at h1] at h
  exact ⟨h1, (List.cons.inj h).2⟩
/-- what the reader's parts yield -/
def RdK (b : Nat) (s : List UInt8) (r : Sc) : AV → List Own → Prop := fun A M' => ∃ c t, r = (0, c, t) ∧ A = cmdA c ∧ M' = [rdO b s (s.length - t.length)]
def RdP (r : Sc) : List PanicEntry → List Own → Prop := fun c _ => ∃ e, e ≠ 0 ∧ r.1 = e ∧ c = errP e
attribute [local irreducible] thenA inBlockA AW AL AO QY varO rowO rsA Opd OpdN vA gvA tupA aggA slA slcA ipA rpA EqK LnK IxK LdK FaK FdK
/-- a number's contract, where it is known what comes -/
theorem number_ok {b : Nat} {s : List UInt8} {p m : Nat} {t : List UInt8} (hs : s.length ≤ 9223372036854775807) (hp : p ≤ s.length) (h : numM 80 0 (s.drop p) = (0, m, t)) : AF Tryd.prog T0 101 [ptA b, I 80] [rdO b s p] (fun A M' => A = I m ∧ M' = [rdO b s (s.length - t.length)]) (fun _ _ => False) := by
  refine (f_number b s p hs hp).mono (fun A M' ⟨n, t', h1, h2, h3⟩ => ?_) (fun c _ ⟨e, h1, h2, _⟩ => ?_)
  · rw [h] at h1
    simp only [Prod.mk.injEq, true_and] at h1
    obtain ⟨rfl, rfl⟩ := h1
    exact ⟨h2, h3⟩
  · rw [h] at h2; exact h1 h2.symm
theorem number_no {b : Nat} {s : List UInt8} {p : Nat} {e : Int} (hs : s.length ≤ 9223372036854775807) (hp : p ≤ s.length) (h : numM 80 0 (s.drop p) = (e, 0, [])) (he : e ≠ 0) : AF Tryd.prog T0 101 [ptA b, I 80] [rdO b s p] (fun _ _ => False) (fun c _ => c = errP e) := by
  refine (f_number b s p hs hp).mono (fun A M' ⟨n, t', h1, h2, h3⟩ => ?_) (fun c _ ⟨e', h1, h2, h3⟩ => ?_)
  · rw [h] at h1
    simp only [Prod.mk.injEq] at h1
    exact he h1.1
  · rw [h] at h2; simp only at h2; rw [h2]; exact h3
/-- behind a number (the loop of the cases: 65 .. 68, ;, others) -/
theorem f_control (b : Nat) (s : List UInt8) (p : Nat) (hs : s.length ≤ 9223372036854775807) (hp : p + 1 ≤ s.length) (h91 : s[p]? = some 91) : AF Tryd.prog T0 80 [ptA b] [rdO b s (p + 1)] (RdK b s (ctlM (s.drop (p + 1)))) (RdP (ctlM (s.drop (p + 1)))) := by
  cases hl : s.drop (p + 1) with
  | nil =>
    have hp2 : p + 1 = s.length := by have := congrArg List.length hl; rw [List.length_drop] at this; simp at this; omega
    have cq : AF Tryd.prog T0 78 [ptA b] [rdO b s (p + 1)] (fun _ _ => False) (fun c _ => c = errP 3) := by rw [hp2]; exact f_peekE b s hs
    have cp : True := trivial
    have ct : True := trivial
    have cn : True := trivial
    have cm : True := trivial
    have cv : True := trivial
    have cw : True := trivial
    refine af_intro Tryd.func80 rfl (by decide) Tryd.ntmps80 rfl ?_
    repeat' (first
    | (apply al_call1 rfl rfl rfl rfl (c := cp)
       case ha => exact os_
       case hM => exact pick_
       rintro _ _ ⟨rfl, rfl⟩)
      | (apply al_call1 rfl rfl rfl rfl (c := ct)
         case ha => exact os_
         case hM => exact pick_
         rintro _ _ ⟨rfl, rfl⟩)
      | (apply al_call1 rfl rfl rfl rfl (c := cn)
         case ha => exact os_
         case hM => exact pick_
         rintro _ _ ⟨rfl, rfl⟩)
      | (apply al_call1 rfl rfl rfl rfl (c := cm)
         case ha => exact os_
         case hM => exact pick_
         rintro _ _ ⟨rfl, rfl⟩)
      | (apply al_call1 rfl rfl rfl rfl (c := cv)
         case ha => exact os_
         case hM => exact pick_
         rintro _ _ ⟨rfl, rfl⟩)
      | (apply al_call1 rfl rfl rfl rfl (c := cw)
         case ha => exact os_
         case hM => exact pick_
         rintro _ _ ⟨rfl, rfl⟩)
      | (apply al_call1p rfl rfl rfl rfl (c := cq)
         case ha => exact os_
         case hM => exact pick_
         case h => exact fun _ _ h => h.elim
         rintro _ _ rfl)
      | (apply al_panic rfl rfl rfl; (case hx => exact oo_)) | refine th_p ?_ | refine ib_p ?_
    | refine s_y ?_
      | refine c_ ?_
      | (refine aw_if ?_ ?_ <;> intro hb <;> try (exfalso; first | assumption | omega | (simp only [or_self, and_self, not_true_eq_false, not_false_eq_true, or_false, false_or, and_false, false_and, true_and, and_true] at hb; first | done | omega)))
      | refine s_call ?_ (c := by first | fail | fail)
      | refine s_op ?_ (hy := by first | (apply ay_nilp rfl; exact oo_; done) | (apply ay_nilp rfl; exact oog_; done) | (apply ay_iface rfl un_; exact oo_; done) | fail)
      | refine s_yg ?_
      | refine s_callg ?_ (c := by intro hk hk2; first | fail | fail)
      | refine s_opg ?_ (hy := by intro hk hk2; first | (apply ay_nilp rfl; exact oo_; done) | (apply ay_nilp rfl; exact oog_; done) | (apply ay_iface rfl un_; exact oo_; done) | fail)
      | refine s_skip ?_
      | ((first | refine w_alloc ?_ | refine w_box ?_) <;> intro bb)
      | ((first | refine w_emp ?_ | refine w_make ?_ | refine w_app ?_) <;> intro u hu1 hu2)
      | refine w_stv ?_ | refine w_str ?_ | refine w_cpr ?_ | refine w_cps ?_
      | refine al_last (by kernel_rfl) ?_
    | fail)
    exact rq_p ⟨3, by decide, rfl, rfl⟩
  | cons x l =>
    obtain ⟨hx, hl2⟩ := cons_at hl
    have hxp := (List.getElem?_eq_some_iff.1 hx).1
    have hx2 := x.toNat_lt
    have cp := f_peek (T0 := T0) b s (p + 1) x hs hx
    by_cases hd : dig x
    · have hd' := hd
      unfold dig at hd'
      rcases num_zero (most := 80) (by decide) (x :: l) with ⟨k, m, m1, m2, e, hk, hn⟩ | ⟨m, b2, t, m1, m2, e, hb2, hn⟩ | hn | h0
      · have e2 : ctlM (x :: l) = nok 3 := by rw [ctlM, if_pos hd, hn]; rfl
        rw [e2]
        have cq := number_no (T0 := T0) (b := b) hs (by omega) (hl ▸ hn) (by decide)
        have ct : True := trivial
        have cn : True := trivial
        have cm : True := trivial
        have cv : True := trivial
        have cw : True := trivial
        refine af_intro Tryd.func80 rfl (by decide) Tryd.ntmps80 rfl ?_
        repeat' (first
        | (apply al_call1 rfl rfl rfl rfl (c := cp)
           case ha => exact os_
           case hM => exact pick_
           rintro _ _ ⟨rfl, rfl⟩)
          | (apply al_call1 rfl rfl rfl rfl (c := ct)
             case ha => exact os_
             case hM => exact pick_
             rintro _ _ ⟨rfl, rfl⟩)
          | (apply al_call1 rfl rfl rfl rfl (c := cn)
             case ha => exact os_
             case hM => exact pick_
             rintro _ _ ⟨rfl, rfl⟩)
          | (apply al_call1 rfl rfl rfl rfl (c := cm)
             case ha => exact os_
             case hM => exact pick_
             rintro _ _ ⟨rfl, rfl⟩)
          | (apply al_call1 rfl rfl rfl rfl (c := cv)
             case ha => exact os_
             case hM => exact pick_
             rintro _ _ ⟨rfl, rfl⟩)
          | (apply al_call1 rfl rfl rfl rfl (c := cw)
             case ha => exact os_
             case hM => exact pick_
             rintro _ _ ⟨rfl, rfl⟩)
          | (apply al_call1p rfl rfl rfl rfl (c := cq)
             case ha => exact os_
             case hM => exact pick_
             case h => exact fun _ _ h => h.elim
             rintro _ _ rfl)
          | (apply al_panic rfl rfl rfl; (case hx => exact oo_)) | refine th_p ?_ | refine ib_p ?_
        | refine s_y ?_
          | refine c_ ?_
          | (refine aw_if ?_ ?_ <;> intro hb <;> try (exfalso; first | assumption | omega | (simp only [or_self, and_self, not_true_eq_false, not_false_eq_true, or_false, false_or, and_false, false_and, true_and, and_true] at hb; first | done | omega)))
          | refine s_call ?_ (c := by first | fail | fail)
          | refine s_op ?_ (hy := by first | (apply ay_nilp rfl; exact oo_; done) | (apply ay_nilp rfl; exact oog_; done) | (apply ay_iface rfl un_; exact oo_; done) | fail)
          | refine s_yg ?_
          | refine s_callg ?_ (c := by intro hk hk2; first | fail | fail)
          | refine s_opg ?_ (hy := by intro hk hk2; first | (apply ay_nilp rfl; exact oo_; done) | (apply ay_nilp rfl; exact oog_; done) | (apply ay_iface rfl un_; exact oo_; done) | fail)
          | refine s_skip ?_
          | ((first | refine w_alloc ?_ | refine w_box ?_) <;> intro bb)
          | ((first | refine w_emp ?_ | refine w_make ?_ | refine w_app ?_) <;> intro u hu1 hu2)
          | refine w_stv ?_ | refine w_str ?_ | refine w_cpr ?_ | refine w_cps ?_
          | refine al_last (by kernel_rfl) ?_
        | fail)
        all_goals first | exact rq_p ⟨3, by decide, rfl, rfl⟩ | (exfalso; omega)
      · rw [e, ctl_dig m1 m2 hb2]
        have hal := at_app (hl.trans e) (by omega)
        obtain ⟨k, y, k1, k2, k3⟩ := dig_last (m := m) (by omega)
        rw [k1] at hal
        have hq : s.length - (b2 :: t).length = p + 1 + (k + 1) := by simp at hal ⊢; omega
        have hy : s[p + 1 + k]? = some y := by
          have h1 : (s.drop (p + 1))[k]? = some y := by rw [hl, e, List.getElem?_append_left (by omega)]; exact k2
          rwa [List.getElem?_drop] at h1
        have hy2 : y.toNat ≠ 91 := by omega
        obtain ⟨hb, ht⟩ := cons_at hal.1
        have hbl := (List.getElem?_eq_some_iff.1 hb).1
        have hb3 := b2.toNat_lt
        have cn := number_ok (T0 := T0) (b := b) hs (by omega) (hl ▸ hn)
        rw [hq] at cn
        have cm := f_peek (T0 := T0) b s (p + 1 + (k + 1)) b2 hs hb
        have ct := f_take (T0 := T0) b s (p + 1 + (k + 1)) b2 hs hb
        clear hn hal
        by_cases h1 : m = 1 ∧ b2.toNat ≠ 59
        · rw [if_pos h1]
          have cq : True := trivial
          have cv : True := trivial
          have cw : True := trivial
          refine af_intro Tryd.func80 rfl (by decide) Tryd.ntmps80 rfl ?_
          repeat' (first
          | (apply al_call1 rfl rfl rfl rfl (c := cp)
             case ha => exact os_
             case hM => exact pick_
             rintro _ _ ⟨rfl, rfl⟩)
            | (apply al_call1 rfl rfl rfl rfl (c := ct)
               case ha => exact os_
               case hM => exact pick_
               rintro _ _ ⟨rfl, rfl⟩)
            | (apply al_call1 rfl rfl rfl rfl (c := cn)
               case ha => exact os_
               case hM => exact pick_
               rintro _ _ ⟨rfl, rfl⟩)
            | (apply al_call1 rfl rfl rfl rfl (c := cm)
               case ha => exact os_
               case hM => exact pick_
               rintro _ _ ⟨rfl, rfl⟩)
            | (apply al_call1 rfl rfl rfl rfl (c := cv)
               case ha => exact os_
               case hM => exact pick_
               rintro _ _ ⟨rfl, rfl⟩)
            | (apply al_call1 rfl rfl rfl rfl (c := cw)
               case ha => exact os_
               case hM => exact pick_
               rintro _ _ ⟨rfl, rfl⟩)
            | (apply al_call1p rfl rfl rfl rfl (c := cq)
               case ha => exact os_
               case hM => exact pick_
               case h => exact fun _ _ h => h.elim
               rintro _ _ rfl)
            | (apply al_panic rfl rfl rfl; (case hx => exact oo_)) | refine th_p ?_ | refine ib_p ?_
          | refine s_y ?_
            | refine c_ ?_
            | (refine aw_if ?_ ?_ <;> intro hb <;> try (exfalso; first | assumption | omega | (simp only [or_self, and_self, not_true_eq_false, not_false_eq_true, or_false, false_or, and_false, false_and, true_and, and_true] at hb; first | done | omega)))
            | refine s_call ?_ (c := by first | fail | fail)
            | refine s_op ?_ (hy := by first | (apply ay_nilp rfl; exact oo_; done) | (apply ay_nilp rfl; exact oog_; done) | (apply ay_iface rfl un_; exact oo_; done) | fail)
            | refine s_yg ?_
            | refine s_callg ?_ (c := by intro hk hk2; first | fail | fail)
            | refine s_opg ?_ (hy := by intro hk hk2; first | (apply ay_nilp rfl; exact oo_; done) | (apply ay_nilp rfl; exact oog_; done) | (apply ay_iface rfl un_; exact oo_; done) | fail)
            | refine s_skip ?_
            | ((first | refine w_alloc ?_ | refine w_box ?_) <;> intro bb)
            | ((first | refine w_emp ?_ | refine w_make ?_ | refine w_app ?_) <;> intro u hu1 hu2)
            | refine w_stv ?_ | refine w_str ?_ | refine w_cpr ?_ | refine w_cps ?_
            | refine al_last (by kernel_rfl) ?_
          | fail)
          all_goals first | exact rq_p ⟨2, by decide, rfl, rfl⟩ | (exfalso; omega)
        · rw [if_neg h1]
          by_cases hm : 65 ≤ b2.toNat ∧ b2.toNat ≤ 68
          · rw [endM, if_pos hm]
            have cq : True := trivial
            have cv : True := trivial
            have cw : True := trivial
            refine af_intro Tryd.func80 rfl (by decide) Tryd.ntmps80 rfl ?_
            repeat' (first
            | (apply al_call1 rfl rfl rfl rfl (c := cp)
               case ha => exact os_
               case hM => exact pick_
               rintro _ _ ⟨rfl, rfl⟩)
              | (apply al_call1 rfl rfl rfl rfl (c := ct)
                 case ha => exact os_
                 case hM => exact pick_
                 rintro _ _ ⟨rfl, rfl⟩)
              | (apply al_call1 rfl rfl rfl rfl (c := cn)
                 case ha => exact os_
                 case hM => exact pick_
                 rintro _ _ ⟨rfl, rfl⟩)
              | (apply al_call1 rfl rfl rfl rfl (c := cm)
                 case ha => exact os_
                 case hM => exact pick_
                 rintro _ _ ⟨rfl, rfl⟩)
              | (apply al_call1 rfl rfl rfl rfl (c := cv)
                 case ha => exact os_
                 case hM => exact pick_
                 rintro _ _ ⟨rfl, rfl⟩)
              | (apply al_call1 rfl rfl rfl rfl (c := cw)
                 case ha => exact os_
                 case hM => exact pick_
                 rintro _ _ ⟨rfl, rfl⟩)
              | (apply al_call1p rfl rfl rfl rfl (c := cq)
                 case ha => exact os_
                 case hM => exact pick_
                 case h => exact fun _ _ h => h.elim
                 rintro _ _ rfl)
              | (apply al_panic rfl rfl rfl; (case hx => exact oo_)) | refine th_p ?_ | refine ib_p ?_
            | refine s_y ?_
              | refine c_ ?_
              | (refine aw_if ?_ ?_ <;> intro hb <;> try (exfalso; first | assumption | omega | (simp only [or_self, and_self, not_true_eq_false, not_false_eq_true, or_false, false_or, and_false, false_and, true_and, and_true] at hb; first | done | omega)))
              | refine s_call ?_ (c := by first | fail | fail)
              | refine s_op ?_ (hy := by first | (apply ay_nilp rfl; exact oo_; done) | (apply ay_nilp rfl; exact oog_; done) | (apply ay_iface rfl un_; exact oo_; done) | fail)
              | refine s_yg ?_
              | refine s_callg ?_ (c := by intro hk hk2; first | fail | fail)
              | refine s_opg ?_ (hy := by intro hk hk2; first | (apply ay_nilp rfl; exact oo_; done) | (apply ay_nilp rfl; exact oog_; done) | (apply ay_iface rfl un_; exact oo_; done) | fail)
              | refine s_skip ?_
              | ((first | refine w_alloc ?_ | refine w_box ?_) <;> intro bb)
              | ((first | refine w_emp ?_ | refine w_make ?_ | refine w_app ?_) <;> intro u hu1 hu2)
              | refine w_stv ?_ | refine w_str ?_ | refine w_cpr ?_ | refine w_cps ?_
              | refine al_last (by kernel_rfl) ?_
            | fail)
            all_goals first | (exfalso; omega) | skip
            refine ⟨_, [rdO b s (p + 1 + (k + 1) + 1)], rl_, sl_, _, _, rfl, ?_, ?_⟩
            · show aggA _ = aggA _
              rw [show 3 + (b2.toNat - 65) = b2.toNat - 62 by omega]
            · have := drop_len ht (by omega)
              rw [this, show s.length - (s.length - (p + 1 + (k + 1) + 1)) = p + 1 + (k + 1) + 1 by omega]
          · by_cases hf : b2.toNat ≠ 59 ∨ 24 < m ∨ true = false
            · rw [endM, if_neg hm, if_pos hf]
              have cq : True := trivial
              have cv : True := trivial
              have cw : True := trivial
              refine af_intro Tryd.func80 rfl (by decide) Tryd.ntmps80 rfl ?_
              repeat' (first
              | (apply al_call1 rfl rfl rfl rfl (c := cp)
                 case ha => exact os_
                 case hM => exact pick_
                 rintro _ _ ⟨rfl, rfl⟩)
                | (apply al_call1 rfl rfl rfl rfl (c := ct)
                   case ha => exact os_
                   case hM => exact pick_
                   rintro _ _ ⟨rfl, rfl⟩)
                | (apply al_call1 rfl rfl rfl rfl (c := cn)
                   case ha => exact os_
                   case hM => exact pick_
                   rintro _ _ ⟨rfl, rfl⟩)
                | (apply al_call1 rfl rfl rfl rfl (c := cm)
                   case ha => exact os_
                   case hM => exact pick_
                   rintro _ _ ⟨rfl, rfl⟩)
                | (apply al_call1 rfl rfl rfl rfl (c := cv)
                   case ha => exact os_
                   case hM => exact pick_
                   rintro _ _ ⟨rfl, rfl⟩)
                | (apply al_call1 rfl rfl rfl rfl (c := cw)
                   case ha => exact os_
                   case hM => exact pick_
                   rintro _ _ ⟨rfl, rfl⟩)
                | (apply al_call1p rfl rfl rfl rfl (c := cq)
                   case ha => exact os_
                   case hM => exact pick_
                   case h => exact fun _ _ h => h.elim
                   rintro _ _ rfl)
                | (apply al_panic rfl rfl rfl; (case hx => exact oo_)) | refine th_p ?_ | refine ib_p ?_
              | refine s_y ?_
                | refine c_ ?_
                | (refine aw_if ?_ ?_ <;> intro hb <;> try (exfalso; first | assumption | omega | (simp only [or_self, and_self, not_true_eq_false, not_false_eq_true, or_false, false_or, and_false, false_and, true_and, and_true] at hb; first | done | omega)))
                | refine s_call ?_ (c := by first | fail | fail)
                | refine s_op ?_ (hy := by first | (apply ay_nilp rfl; exact oo_; done) | (apply ay_nilp rfl; exact oog_; done) | (apply ay_iface rfl un_; exact oo_; done) | fail)
                | refine s_yg ?_
                | refine s_callg ?_ (c := by intro hk hk2; first | fail | fail)
                | refine s_opg ?_ (hy := by intro hk hk2; first | (apply ay_nilp rfl; exact oo_; done) | (apply ay_nilp rfl; exact oog_; done) | (apply ay_iface rfl un_; exact oo_; done) | fail)
                | refine s_skip ?_
                | ((first | refine w_alloc ?_ | refine w_box ?_) <;> intro bb)
                | ((first | refine w_emp ?_ | refine w_make ?_ | refine w_app ?_) <;> intro u hu1 hu2)
                | refine w_stv ?_ | refine w_str ?_ | refine w_cpr ?_ | refine w_cps ?_
                | refine al_last (by kernel_rfl) ?_
              | fail)
              all_goals first | exact rq_p ⟨2, by decide, rfl, rfl⟩ | (exfalso; omega) | (exfalso; simp at hf; omega)
            · have h59 : b2.toNat = 59 := by omega
              have hm24 : m ≤ 24 := by omega
              have hy' : s[p + 1 + (k + 1) + 1 - 2]? = some y := by rw [show p + 1 + (k + 1) + 1 - 2 = p + 1 + k by omega]; exact hy
              have htl := drop_len ht (by omega)
              have h59' : b2 = 59 := byte_eq (by show b2.toNat = 59; omega)
              rcases num_zero (most := 80) (by decide) t with ⟨k2, n, n1, n2, e2, hk2, hn2⟩ | ⟨n, b3, t2, n1, n2, e2, hb3, hn2⟩ | hn2 | h0
              · have e3 : endM true m (b2 :: t) = nok 3 := by rw [endM, if_neg hm, if_neg hf, hn2]; rfl
                rw [e3]
                have cq := number_no (T0 := T0) (b := b) (p := p + 1 + (k + 1) + 1) hs (by omega) (ht ▸ hn2) (by decide)
                have cv : True := trivial
                have cw : True := trivial
                refine af_intro Tryd.func80 rfl (by decide) Tryd.ntmps80 rfl ?_
                repeat' (first
                | (apply al_call1 rfl rfl rfl rfl (c := cp)
                   case ha => exact os_
                   case hM => exact pick_
                   rintro _ _ ⟨rfl, rfl⟩)
                  | (apply al_call1 rfl rfl rfl rfl (c := ct)
                     case ha => exact os_
                     case hM => exact pick_
                     rintro _ _ ⟨rfl, rfl⟩)
                  | (apply al_call1 rfl rfl rfl rfl (c := cn)
                     case ha => exact os_
                     case hM => exact pick_
                     rintro _ _ ⟨rfl, rfl⟩)
                  | (apply al_call1 rfl rfl rfl rfl (c := cm)
                     case ha => exact os_
                     case hM => exact pick_
                     rintro _ _ ⟨rfl, rfl⟩)
                  | (apply al_call1 rfl rfl rfl rfl (c := cv)
                     case ha => exact os_
                     case hM => exact pick_
                     rintro _ _ ⟨rfl, rfl⟩)
                  | (apply al_call1 rfl rfl rfl rfl (c := cw)
                     case ha => exact os_
                     case hM => exact pick_
                     rintro _ _ ⟨rfl, rfl⟩)
                  | (apply al_call1p rfl rfl rfl rfl (c := cq)
                     case ha => exact os_
                     case hM => exact pick_
                     case h => exact fun _ _ h => h.elim
                     rintro _ _ rfl)
                  | (apply al_panic rfl rfl rfl; (case hx => exact oo_)) | refine th_p ?_ | refine ib_p ?_
                | refine s_y ?_
                  | refine c_ ?_
                  | (refine aw_if ?_ ?_ <;> intro hb <;> try (exfalso; first | assumption | omega | (simp only [or_self, and_self, not_true_eq_false, not_false_eq_true, or_false, false_or, and_false, false_and, true_and, and_true] at hb; first | done | omega)))
                  | refine s_call ?_ (c := by first | fail | fail)
                  | refine s_op ?_ (hy := by first | (apply ay_nilp rfl; exact oo_; done) | (apply ay_nilp rfl; exact oog_; done) | (apply ay_iface rfl un_; exact oo_; done) | fail)
                  | refine s_yg ?_
                  | refine s_callg ?_ (c := by intro hk hk2; first | fail | fail)
                  | refine s_opg ?_ (hy := by intro hk hk2; first | (apply ay_nilp rfl; exact oo_; done) | (apply ay_nilp rfl; exact oog_; done) | (apply ay_iface rfl un_; exact oo_; done) | fail)
                  | refine s_skip ?_
                  | ((first | refine w_alloc ?_ | refine w_box ?_) <;> intro bb)
                  | ((first | refine w_emp ?_ | refine w_make ?_ | refine w_app ?_) <;> intro u hu1 hu2)
                  | refine w_stv ?_ | refine w_str ?_ | refine w_cpr ?_ | refine w_cps ?_
                  | refine al_last (by kernel_rfl) ?_
                | fail)
                all_goals first | exact rq_p ⟨3, by decide, rfl, rfl⟩ | (exfalso; omega)
              · have e3 : endM true m (b2 :: t) = if b3.toNat = 72 then (0, (2, (m : Int) - 1, (n : Int) - 1, 0), t2) else nok 2 := by
                  rw [e2, h59']; exact end_go hm24 n1 n2 hb3
                rw [e3]
                have hal := at_app (ht.trans e2) (by omega)
                have hq3 : s.length - (b3 :: t2).length = p + 1 + (k + 1) + 1 + (digB n).length := by simp at hal ⊢; omega
                obtain ⟨hb4, ht2⟩ := cons_at hal.1
                have hbl4 := (List.getElem?_eq_some_iff.1 hb4).1
                have hb5 := b3.toNat_lt
                have cv := number_ok (T0 := T0) (b := b) (p := p + 1 + (k + 1) + 1) hs (by omega) (ht ▸ hn2)
                rw [hq3] at cv
                have cw := f_take (T0 := T0) b s (p + 1 + (k + 1) + 1 + (digB n).length) b3 hs hb4
                have cq : True := trivial
                by_cases h72 : b3.toNat = 72
                · rw [if_pos h72]
                  refine af_intro Tryd.func80 rfl (by decide) Tryd.ntmps80 rfl ?_
                  repeat' (first
                  | (apply al_call1 rfl rfl rfl rfl (c := cp)
                     case ha => exact os_
                     case hM => exact pick_
                     rintro _ _ ⟨rfl, rfl⟩)
                    | (apply al_call1 rfl rfl rfl rfl (c := ct)
                       case ha => exact os_
                       case hM => exact pick_
                       rintro _ _ ⟨rfl, rfl⟩)
                    | (apply al_call1 rfl rfl rfl rfl (c := cn)
                       case ha => exact os_
                       case hM => exact pick_
                       rintro _ _ ⟨rfl, rfl⟩)
                    | (apply al_call1 rfl rfl rfl rfl (c := cm)
                       case ha => exact os_
                       case hM => exact pick_
                       rintro _ _ ⟨rfl, rfl⟩)
                    | (apply al_call1 rfl rfl rfl rfl (c := cv)
                       case ha => exact os_
                       case hM => exact pick_
                       rintro _ _ ⟨rfl, rfl⟩)
                    | (apply al_call1 rfl rfl rfl rfl (c := cw)
                       case ha => exact os_
                       case hM => exact pick_
                       rintro _ _ ⟨rfl, rfl⟩)
                    | (apply al_call1p rfl rfl rfl rfl (c := cq)
                       case ha => exact os_
                       case hM => exact pick_
                       case h => exact fun _ _ h => h.elim
                       rintro _ _ rfl)
                    | (apply al_panic rfl rfl rfl; (case hx => exact oo_)) | refine th_p ?_ | refine ib_p ?_
                  | refine s_y ?_
                    | refine c_ ?_
                    | (refine aw_if ?_ ?_ <;> intro hb <;> try (exfalso; first | assumption | omega | (simp only [or_self, and_self, not_true_eq_false, not_false_eq_true, or_false, false_or, and_false, false_and, true_and, and_true] at hb; first | done | omega)))
                    | refine s_call ?_ (c := by first | fail | fail)
                    | refine s_op ?_ (hy := by first | (apply ay_nilp rfl; exact oo_; done) | (apply ay_nilp rfl; exact oog_; done) | (apply ay_iface rfl un_; exact oo_; done) | fail)
                    | refine s_yg ?_
                    | refine s_callg ?_ (c := by intro hk hk2; first | fail | fail)
                    | refine s_opg ?_ (hy := by intro hk hk2; first | (apply ay_nilp rfl; exact oo_; done) | (apply ay_nilp rfl; exact oog_; done) | (apply ay_iface rfl un_; exact oo_; done) | fail)
                    | refine s_skip ?_
                    | ((first | refine w_alloc ?_ | refine w_box ?_) <;> intro bb)
                    | ((first | refine w_emp ?_ | refine w_make ?_ | refine w_app ?_) <;> intro u hu1 hu2)
                    | refine w_stv ?_ | refine w_str ?_ | refine w_cpr ?_ | refine w_cps ?_
                    | refine al_last (by kernel_rfl) ?_
                  | fail)
                  all_goals first | (exfalso; omega) | skip
                  refine ⟨_, [rdO b s (p + 1 + (k + 1) + 1 + (digB n).length + 1)], rl_, sl_, _, _, rfl, ?_, ?_⟩
                  · show aggA _ = aggA _
                    rw [show ((m - 1 : Nat) : Int) = (m : Int) - 1 by omega, show ((n - 1 : Nat) : Int) = (n : Int) - 1 by omega]
                  · have := drop_len ht2 (by omega)
                    rw [this, show s.length - (s.length - (p + 1 + (k + 1) + 1 + (digB n).length + 1)) = p + 1 + (k + 1) + 1 + (digB n).length + 1 by omega]
                · rw [if_neg h72]
                  refine af_intro Tryd.func80 rfl (by decide) Tryd.ntmps80 rfl ?_
                  repeat' (first
                  | (apply al_call1 rfl rfl rfl rfl (c := cp)
                     case ha => exact os_
                     case hM => exact pick_
                     rintro _ _ ⟨rfl, rfl⟩)
                    | (apply al_call1 rfl rfl rfl rfl (c := ct)
                       case ha => exact os_
                       case hM => exact pick_
                       rintro _ _ ⟨rfl, rfl⟩)
                    | (apply al_call1 rfl rfl rfl rfl (c := cn)
                       case ha => exact os_
                       case hM => exact pick_
                       rintro _ _ ⟨rfl, rfl⟩)
                    | (apply al_call1 rfl rfl rfl rfl (c := cm)
                       case ha => exact os_
                       case hM => exact pick_
                       rintro _ _ ⟨rfl, rfl⟩)
                    | (apply al_call1 rfl rfl rfl rfl (c := cv)
                       case ha => exact os_
                       case hM => exact pick_
                       rintro _ _ ⟨rfl, rfl⟩)
                    | (apply al_call1 rfl rfl rfl rfl (c := cw)
                       case ha => exact os_
                       case hM => exact pick_
                       rintro _ _ ⟨rfl, rfl⟩)
                    | (apply al_call1p rfl rfl rfl rfl (c := cq)
                       case ha => exact os_
                       case hM => exact pick_
                       case h => exact fun _ _ h => h.elim
                       rintro _ _ rfl)
                    | (apply al_panic rfl rfl rfl; (case hx => exact oo_)) | refine th_p ?_ | refine ib_p ?_
                  | refine s_y ?_
                    | refine c_ ?_
                    | (refine aw_if ?_ ?_ <;> intro hb <;> try (exfalso; first | assumption | omega | (simp only [or_self, and_self, not_true_eq_false, not_false_eq_true, or_false, false_or, and_false, false_and, true_and, and_true] at hb; first | done | omega)))
                    | refine s_call ?_ (c := by first | fail | fail)
                    | refine s_op ?_ (hy := by first | (apply ay_nilp rfl; exact oo_; done) | (apply ay_nilp rfl; exact oog_; done) | (apply ay_iface rfl un_; exact oo_; done) | fail)
                    | refine s_yg ?_
                    | refine s_callg ?_ (c := by intro hk hk2; first | fail | fail)
                    | refine s_opg ?_ (hy := by intro hk hk2; first | (apply ay_nilp rfl; exact oo_; done) | (apply ay_nilp rfl; exact oog_; done) | (apply ay_iface rfl un_; exact oo_; done) | fail)
                    | refine s_skip ?_
                    | ((first | refine w_alloc ?_ | refine w_box ?_) <;> intro bb)
                    | ((first | refine w_emp ?_ | refine w_make ?_ | refine w_app ?_) <;> intro u hu1 hu2)
                    | refine w_stv ?_ | refine w_str ?_ | refine w_cpr ?_ | refine w_cps ?_
                    | refine al_last (by kernel_rfl) ?_
                  | fail)
                  all_goals first | exact rq_p ⟨2, by decide, rfl, rfl⟩ | (exfalso; omega)
              · have e3 : endM true m (b2 :: t) = nok 2 := by rw [endM, if_neg hm, if_neg hf, hn2]; rfl
                rw [e3]
                have cq := number_no (T0 := T0) (b := b) (p := p + 1 + (k + 1) + 1) hs (by omega) (ht ▸ hn2) (by decide)
                have cv : True := trivial
                have cw : True := trivial
                refine af_intro Tryd.func80 rfl (by decide) Tryd.ntmps80 rfl ?_
                repeat' (first
                | (apply al_call1 rfl rfl rfl rfl (c := cp)
                   case ha => exact os_
                   case hM => exact pick_
                   rintro _ _ ⟨rfl, rfl⟩)
                  | (apply al_call1 rfl rfl rfl rfl (c := ct)
                     case ha => exact os_
                     case hM => exact pick_
                     rintro _ _ ⟨rfl, rfl⟩)
                  | (apply al_call1 rfl rfl rfl rfl (c := cn)
                     case ha => exact os_
                     case hM => exact pick_
                     rintro _ _ ⟨rfl, rfl⟩)
                  | (apply al_call1 rfl rfl rfl rfl (c := cm)
                     case ha => exact os_
                     case hM => exact pick_
                     rintro _ _ ⟨rfl, rfl⟩)
                  | (apply al_call1 rfl rfl rfl rfl (c := cv)
                     case ha => exact os_
                     case hM => exact pick_
                     rintro _ _ ⟨rfl, rfl⟩)
                  | (apply al_call1 rfl rfl rfl rfl (c := cw)
                     case ha => exact os_
                     case hM => exact pick_
                     rintro _ _ ⟨rfl, rfl⟩)
                  | (apply al_call1p rfl rfl rfl rfl (c := cq)
                     case ha => exact os_
                     case hM => exact pick_
                     case h => exact fun _ _ h => h.elim
                     rintro _ _ rfl)
                  | (apply al_panic rfl rfl rfl; (case hx => exact oo_)) | refine th_p ?_ | refine ib_p ?_
                | refine s_y ?_
                  | refine c_ ?_
                  | (refine aw_if ?_ ?_ <;> intro hb <;> try (exfalso; first | assumption | omega | (simp only [or_self, and_self, not_true_eq_false, not_false_eq_true, or_false, false_or, and_false, false_and, true_and, and_true] at hb; first | done | omega)))
                  | refine s_call ?_ (c := by first | fail | fail)
                  | refine s_op ?_ (hy := by first | (apply ay_nilp rfl; exact oo_; done) | (apply ay_nilp rfl; exact oog_; done) | (apply ay_iface rfl un_; exact oo_; done) | fail)
                  | refine s_yg ?_
                  | refine s_callg ?_ (c := by intro hk hk2; first | fail | fail)
                  | refine s_opg ?_ (hy := by intro hk hk2; first | (apply ay_nilp rfl; exact oo_; done) | (apply ay_nilp rfl; exact oog_; done) | (apply ay_iface rfl un_; exact oo_; done) | fail)
                  | refine s_skip ?_
                  | ((first | refine w_alloc ?_ | refine w_box ?_) <;> intro bb)
                  | ((first | refine w_emp ?_ | refine w_make ?_ | refine w_app ?_) <;> intro u hu1 hu2)
                  | refine w_stv ?_ | refine w_str ?_ | refine w_cpr ?_ | refine w_cps ?_
                  | refine al_last (by kernel_rfl) ?_
                | fail)
                all_goals first | exact rq_p ⟨2, by decide, rfl, rfl⟩ | (exfalso; omega)
              · exact absurd h0 (by decide)
      · have e2 : ctlM (x :: l) = nok 2 := by rw [ctlM, if_pos hd, hn]; rfl
        rw [e2]
        have cq := number_no (T0 := T0) (b := b) hs (by omega) (hl ▸ hn) (by decide)
        have ct : True := trivial
        have cn : True := trivial
        have cm : True := trivial
        have cv : True := trivial
        have cw : True := trivial
        refine af_intro Tryd.func80 rfl (by decide) Tryd.ntmps80 rfl ?_
        repeat' (first
        | (apply al_call1 rfl rfl rfl rfl (c := cp)
           case ha => exact os_
           case hM => exact pick_
           rintro _ _ ⟨rfl, rfl⟩)
          | (apply al_call1 rfl rfl rfl rfl (c := ct)
             case ha => exact os_
             case hM => exact pick_
             rintro _ _ ⟨rfl, rfl⟩)
          | (apply al_call1 rfl rfl rfl rfl (c := cn)
             case ha => exact os_
             case hM => exact pick_
             rintro _ _ ⟨rfl, rfl⟩)
          | (apply al_call1 rfl rfl rfl rfl (c := cm)
             case ha => exact os_
             case hM => exact pick_
             rintro _ _ ⟨rfl, rfl⟩)
          | (apply al_call1 rfl rfl rfl rfl (c := cv)
             case ha => exact os_
             case hM => exact pick_
             rintro _ _ ⟨rfl, rfl⟩)
          | (apply al_call1 rfl rfl rfl rfl (c := cw)
             case ha => exact os_
             case hM => exact pick_
             rintro _ _ ⟨rfl, rfl⟩)
          | (apply al_call1p rfl rfl rfl rfl (c := cq)
             case ha => exact os_
             case hM => exact pick_
             case h => exact fun _ _ h => h.elim
             rintro _ _ rfl)
          | (apply al_panic rfl rfl rfl; (case hx => exact oo_)) | refine th_p ?_ | refine ib_p ?_
        | refine s_y ?_
          | refine c_ ?_
          | (refine aw_if ?_ ?_ <;> intro hb <;> try (exfalso; first | assumption | omega | (simp only [or_self, and_self, not_true_eq_false, not_false_eq_true, or_false, false_or, and_false, false_and, true_and, and_true] at hb; first | done | omega)))
          | refine s_call ?_ (c := by first | fail | fail)
          | refine s_op ?_ (hy := by first | (apply ay_nilp rfl; exact oo_; done) | (apply ay_nilp rfl; exact oog_; done) | (apply ay_iface rfl un_; exact oo_; done) | fail)
          | refine s_yg ?_
          | refine s_callg ?_ (c := by intro hk hk2; first | fail | fail)
          | refine s_opg ?_ (hy := by intro hk hk2; first | (apply ay_nilp rfl; exact oo_; done) | (apply ay_nilp rfl; exact oog_; done) | (apply ay_iface rfl un_; exact oo_; done) | fail)
          | refine s_skip ?_
          | ((first | refine w_alloc ?_ | refine w_box ?_) <;> intro bb)
          | ((first | refine w_emp ?_ | refine w_make ?_ | refine w_app ?_) <;> intro u hu1 hu2)
          | refine w_stv ?_ | refine w_str ?_ | refine w_cpr ?_ | refine w_cps ?_
          | refine al_last (by kernel_rfl) ?_
        | fail)
        all_goals first | exact rq_p ⟨2, by decide, rfl, rfl⟩ | (exfalso; omega)
      · exact absurd h0 (by decide)
    · have cn : True := trivial
      have cm : True := trivial
      have cv : True := trivial
      have cw : True := trivial
      have cq : True := trivial
      unfold dig at hd
      have h91' : s[p + 1 + 1 - 2]? = some 91 := h91
      have ct := f_take (T0 := T0) b s (p + 1) x hs hx
      have hll := drop_len hl2 (by omega)
      rw [ctlM, if_neg hd]
      by_cases h75 : x.toNat = 75
      · rw [if_pos h75]
        refine af_intro Tryd.func80 rfl (by decide) Tryd.ntmps80 rfl ?_
        repeat' (first
        | (apply al_call1 rfl rfl rfl rfl (c := cp)
           case ha => exact os_
           case hM => exact pick_
           rintro _ _ ⟨rfl, rfl⟩)
          | (apply al_call1 rfl rfl rfl rfl (c := ct)
             case ha => exact os_
             case hM => exact pick_
             rintro _ _ ⟨rfl, rfl⟩)
          | (apply al_call1 rfl rfl rfl rfl (c := cn)
             case ha => exact os_
             case hM => exact pick_
             rintro _ _ ⟨rfl, rfl⟩)
          | (apply al_call1 rfl rfl rfl rfl (c := cm)
             case ha => exact os_
             case hM => exact pick_
             rintro _ _ ⟨rfl, rfl⟩)
          | (apply al_call1 rfl rfl rfl rfl (c := cv)
             case ha => exact os_
             case hM => exact pick_
             rintro _ _ ⟨rfl, rfl⟩)
          | (apply al_call1 rfl rfl rfl rfl (c := cw)
             case ha => exact os_
             case hM => exact pick_
             rintro _ _ ⟨rfl, rfl⟩)
          | (apply al_call1p rfl rfl rfl rfl (c := cq)
             case ha => exact os_
             case hM => exact pick_
             case h => exact fun _ _ h => h.elim
             rintro _ _ rfl)
          | (apply al_panic rfl rfl rfl; (case hx => exact oo_)) | refine th_p ?_ | refine ib_p ?_
        | refine s_y ?_
          | refine c_ ?_
          | (refine aw_if ?_ ?_ <;> intro hb <;> try (exfalso; first | assumption | omega | (simp only [or_self, and_self, not_true_eq_false, not_false_eq_true, or_false, false_or, and_false, false_and, true_and, and_true] at hb; first | done | omega)))
          | refine s_call ?_ (c := by first | fail | fail)
          | refine s_op ?_ (hy := by first | (apply ay_nilp rfl; exact oo_; done) | (apply ay_nilp rfl; exact oog_; done) | (apply ay_iface rfl un_; exact oo_; done) | fail)
          | refine s_yg ?_
          | refine s_callg ?_ (c := by intro hk hk2; first | fail | fail)
          | refine s_opg ?_ (hy := by intro hk hk2; first | (apply ay_nilp rfl; exact oo_; done) | (apply ay_nilp rfl; exact oog_; done) | (apply ay_iface rfl un_; exact oo_; done) | fail)
          | refine s_skip ?_
          | ((first | refine w_alloc ?_ | refine w_box ?_) <;> intro bb)
          | ((first | refine w_emp ?_ | refine w_make ?_ | refine w_app ?_) <;> intro u hu1 hu2)
          | refine w_stv ?_ | refine w_str ?_ | refine w_cpr ?_ | refine w_cps ?_
          | refine al_last (by kernel_rfl) ?_
        | fail)
        all_goals first | (exfalso; omega) | skip
        refine ⟨_, [rdO b s (p + 1 + 1)], rl_, sl_, _, _, rfl, ?_, ?_⟩
        · show aggA _ = aggA _
          rw [show ((8 - (x.toNat - 74) : Nat) : Int) = 7 by omega]
        · rw [hll, show s.length - (s.length - (p + 1 + 1)) = p + 1 + 1 by omega]
      · rw [if_neg h75]
        by_cases h74 : x.toNat = 74
        · rw [if_pos h74]
          refine af_intro Tryd.func80 rfl (by decide) Tryd.ntmps80 rfl ?_
          repeat' (first
          | (apply al_call1 rfl rfl rfl rfl (c := cp)
             case ha => exact os_
             case hM => exact pick_
             rintro _ _ ⟨rfl, rfl⟩)
            | (apply al_call1 rfl rfl rfl rfl (c := ct)
               case ha => exact os_
               case hM => exact pick_
               rintro _ _ ⟨rfl, rfl⟩)
            | (apply al_call1 rfl rfl rfl rfl (c := cn)
               case ha => exact os_
               case hM => exact pick_
               rintro _ _ ⟨rfl, rfl⟩)
            | (apply al_call1 rfl rfl rfl rfl (c := cm)
               case ha => exact os_
               case hM => exact pick_
               rintro _ _ ⟨rfl, rfl⟩)
            | (apply al_call1 rfl rfl rfl rfl (c := cv)
               case ha => exact os_
               case hM => exact pick_
               rintro _ _ ⟨rfl, rfl⟩)
            | (apply al_call1 rfl rfl rfl rfl (c := cw)
               case ha => exact os_
               case hM => exact pick_
               rintro _ _ ⟨rfl, rfl⟩)
            | (apply al_call1p rfl rfl rfl rfl (c := cq)
               case ha => exact os_
               case hM => exact pick_
               case h => exact fun _ _ h => h.elim
               rintro _ _ rfl)
            | (apply al_panic rfl rfl rfl; (case hx => exact oo_)) | refine th_p ?_ | refine ib_p ?_
          | refine s_y ?_
            | refine c_ ?_
            | (refine aw_if ?_ ?_ <;> intro hb <;> try (exfalso; first | assumption | omega | (simp only [or_self, and_self, not_true_eq_false, not_false_eq_true, or_false, false_or, and_false, false_and, true_and, and_true] at hb; first | done | omega)))
            | refine s_call ?_ (c := by first | fail | fail)
            | refine s_op ?_ (hy := by first | (apply ay_nilp rfl; exact oo_; done) | (apply ay_nilp rfl; exact oog_; done) | (apply ay_iface rfl un_; exact oo_; done) | fail)
            | refine s_yg ?_
            | refine s_callg ?_ (c := by intro hk hk2; first | fail | fail)
            | refine s_opg ?_ (hy := by intro hk hk2; first | (apply ay_nilp rfl; exact oo_; done) | (apply ay_nilp rfl; exact oog_; done) | (apply ay_iface rfl un_; exact oo_; done) | fail)
            | refine s_skip ?_
            | ((first | refine w_alloc ?_ | refine w_box ?_) <;> intro bb)
            | ((first | refine w_emp ?_ | refine w_make ?_ | refine w_app ?_) <;> intro u hu1 hu2)
            | refine w_stv ?_ | refine w_str ?_ | refine w_cpr ?_ | refine w_cps ?_
            | refine al_last (by kernel_rfl) ?_
          | fail)
          all_goals first | (exfalso; omega) | skip
          refine ⟨_, [rdO b s (p + 1 + 1)], rl_, sl_, _, _, rfl, ?_, ?_⟩
          · show aggA _ = aggA _
            rw [show ((8 - (x.toNat - 74) : Nat) : Int) = 8 by omega]
          · rw [hll, show s.length - (s.length - (p + 1 + 1)) = p + 1 + 1 by omega]
        · rw [if_neg h74]
          by_cases hm : 65 ≤ x.toNat ∧ x.toNat ≤ 68
          · rw [endM, if_pos hm]
            refine af_intro Tryd.func80 rfl (by decide) Tryd.ntmps80 rfl ?_
            repeat' (first
            | (apply al_call1 rfl rfl rfl rfl (c := cp)
               case ha => exact os_
               case hM => exact pick_
               rintro _ _ ⟨rfl, rfl⟩)
              | (apply al_call1 rfl rfl rfl rfl (c := ct)
                 case ha => exact os_
                 case hM => exact pick_
                 rintro _ _ ⟨rfl, rfl⟩)
              | (apply al_call1 rfl rfl rfl rfl (c := cn)
                 case ha => exact os_
                 case hM => exact pick_
                 rintro _ _ ⟨rfl, rfl⟩)
              | (apply al_call1 rfl rfl rfl rfl (c := cm)
                 case ha => exact os_
                 case hM => exact pick_
                 rintro _ _ ⟨rfl, rfl⟩)
              | (apply al_call1 rfl rfl rfl rfl (c := cv)
                 case ha => exact os_
                 case hM => exact pick_
                 rintro _ _ ⟨rfl, rfl⟩)
              | (apply al_call1 rfl rfl rfl rfl (c := cw)
                 case ha => exact os_
                 case hM => exact pick_
                 rintro _ _ ⟨rfl, rfl⟩)
              | (apply al_call1p rfl rfl rfl rfl (c := cq)
                 case ha => exact os_
                 case hM => exact pick_
                 case h => exact fun _ _ h => h.elim
                 rintro _ _ rfl)
              | (apply al_panic rfl rfl rfl; (case hx => exact oo_)) | refine th_p ?_ | refine ib_p ?_
            | refine s_y ?_
              | refine c_ ?_
              | (refine aw_if ?_ ?_ <;> intro hb <;> try (exfalso; first | assumption | omega | (simp only [or_self, and_self, not_true_eq_false, not_false_eq_true, or_false, false_or, and_false, false_and, true_and, and_true] at hb; first | done | omega)))
              | refine s_call ?_ (c := by first | fail | fail)
              | refine s_op ?_ (hy := by first | (apply ay_nilp rfl; exact oo_; done) | (apply ay_nilp rfl; exact oog_; done) | (apply ay_iface rfl un_; exact oo_; done) | fail)
              | refine s_yg ?_
              | refine s_callg ?_ (c := by intro hk hk2; first | fail | fail)
              | refine s_opg ?_ (hy := by intro hk hk2; first | (apply ay_nilp rfl; exact oo_; done) | (apply ay_nilp rfl; exact oog_; done) | (apply ay_iface rfl un_; exact oo_; done) | fail)
              | refine s_skip ?_
              | ((first | refine w_alloc ?_ | refine w_box ?_) <;> intro bb)
              | ((first | refine w_emp ?_ | refine w_make ?_ | refine w_app ?_) <;> intro u hu1 hu2)
              | refine w_stv ?_ | refine w_str ?_ | refine w_cpr ?_ | refine w_cps ?_
              | refine al_last (by kernel_rfl) ?_
            | fail)
            all_goals first | (exfalso; omega) | skip
            refine ⟨_, [rdO b s (p + 1 + 1)], rl_, sl_, _, _, rfl, ?_, ?_⟩
            · show aggA _ = aggA _
              rw [show 3 + (x.toNat - 65) = x.toNat - 62 by omega]; rfl
            · rw [hll, show s.length - (s.length - (p + 1 + 1)) = p + 1 + 1 by omega]
          · rw [endM, if_neg hm, if_pos (.inr (.inr rfl))]
            refine af_intro Tryd.func80 rfl (by decide) Tryd.ntmps80 rfl ?_
            repeat' (first
            | (apply al_call1 rfl rfl rfl rfl (c := cp)
               case ha => exact os_
               case hM => exact pick_
               rintro _ _ ⟨rfl, rfl⟩)
              | (apply al_call1 rfl rfl rfl rfl (c := ct)
                 case ha => exact os_
                 case hM => exact pick_
                 rintro _ _ ⟨rfl, rfl⟩)
              | (apply al_call1 rfl rfl rfl rfl (c := cn)
                 case ha => exact os_
                 case hM => exact pick_
                 rintro _ _ ⟨rfl, rfl⟩)
              | (apply al_call1 rfl rfl rfl rfl (c := cm)
                 case ha => exact os_
                 case hM => exact pick_
                 rintro _ _ ⟨rfl, rfl⟩)
              | (apply al_call1 rfl rfl rfl rfl (c := cv)
                 case ha => exact os_
                 case hM => exact pick_
                 rintro _ _ ⟨rfl, rfl⟩)
              | (apply al_call1 rfl rfl rfl rfl (c := cw)
                 case ha => exact os_
                 case hM => exact pick_
                 rintro _ _ ⟨rfl, rfl⟩)
              | (apply al_call1p rfl rfl rfl rfl (c := cq)
                 case ha => exact os_
                 case hM => exact pick_
                 case h => exact fun _ _ h => h.elim
                 rintro _ _ rfl)
              | (apply al_panic rfl rfl rfl; (case hx => exact oo_)) | refine th_p ?_ | refine ib_p ?_
            | refine s_y ?_
              | refine c_ ?_
              | (refine aw_if ?_ ?_ <;> intro hb <;> try (exfalso; first | assumption | omega | (simp only [or_self, and_self, not_true_eq_false, not_false_eq_true, or_false, false_or, and_false, false_and, true_and, and_true] at hb; first | done | omega)))
              | refine s_call ?_ (c := by first | fail | fail)
              | refine s_op ?_ (hy := by first | (apply ay_nilp rfl; exact oo_; done) | (apply ay_nilp rfl; exact oog_; done) | (apply ay_iface rfl un_; exact oo_; done) | fail)
              | refine s_yg ?_
              | refine s_callg ?_ (c := by intro hk hk2; first | fail | fail)
              | refine s_opg ?_ (hy := by intro hk hk2; first | (apply ay_nilp rfl; exact oo_; done) | (apply ay_nilp rfl; exact oog_; done) | (apply ay_iface rfl un_; exact oo_; done) | fail)
              | refine s_skip ?_
              | ((first | refine w_alloc ?_ | refine w_box ?_) <;> intro bb)
              | ((first | refine w_emp ?_ | refine w_make ?_ | refine w_app ?_) <;> intro u hu1 hu2)
              | refine w_stv ?_ | refine w_str ?_ | refine w_cpr ?_ | refine w_cps ?_
              | refine al_last (by kernel_rfl) ?_
            | fail)
            all_goals first | exact rq_p ⟨2, by decide, rfl, rfl⟩ | (exfalso; simp at hb; done) | (exfalso; omega)
end Go.Proofs.YtplabpjkkcillaaDoor
