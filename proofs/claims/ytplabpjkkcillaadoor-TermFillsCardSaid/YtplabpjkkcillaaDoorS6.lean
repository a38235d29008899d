/- Layer 6 (scan): the program's reader: a command. No condition. -/
import Derived.Test.YtplabpjkkcillaaDoorS5
namespace Go.Proofs.YtplabpjkkcillaaDoor
set_option linter.unusedSimpArgs false
set_option linter.unusedVariables false
set_option linter.unusedSectionVars false
set_option maxHeartbeats 4000000
open Go Go.RowKit
variable {T0 : Gh} [TabU T0]
set_option maxRecDepth 2000000
instance cUnMap : UnC 98 (.map 5 3) := ⟨Tryd.underlying98⟩
attribute [local irreducible] thenA inBlockA AW AL AO QY varO rowO rsA Opd OpdN vA gvA tupA aggA slA slcA ipA rpA EqK LnK IxK LdK FaK FdK
theorem f_command (b : Nat) (s : List UInt8) (hs : s.length ≤ 9223372036854775807) (h0 : s ≠ []) : AF Tryd.prog T0 41 [ptA b] [rdO b s 0] (RdK b s (cmdM s)) (RdP (cmdM s)) := by
  cases hsl : s with
  | nil => exact absurd hsl h0
  | cons x l =>
    rw [← hsl]
    have hx : s[0]? = some x := by rw [hsl]; rfl
    have hx2 := x.toNat_lt
    have hlen : s.length = l.length + 1 := by rw [hsl]; rfl
    have hl : s.drop 1 = l := by rw [hsl]; rfl
    have cp := f_peek (T0 := T0) b s 0 x (by omega) hx
    have hll : s.length - l.length = 0 + 1 := by omega
    by_cases hk : homeK x.toNat ≠ 0
    · have e : cmdM s = (0, (homeK x.toNat, 0, 0, 0), l) := by rw [hsl, cmdM_cons, if_pos hk]
      rw [e]
      have cq : True := trivial
      have ct : True := trivial
      have cc : True := trivial
      have cg : True := trivial
      have fin : ∀ k, homeK x.toNat = k → RdK b s (0, (homeK x.toNat, 0, 0, 0), l) (aggA [I k, I 0, I 0, R 0]) [rdO b s (0 + 1)] := fun k h => ⟨_, _, rfl, by rw [h]; rfl, by rw [hll]⟩
      rcases home_cases x.toNat with h | ⟨h, hk2⟩ | ⟨h, hk2⟩ | ⟨h, hk2⟩ | ⟨h, hk2⟩
      · exact absurd h hk
      · have : x = 13 := byte_eq (by show x.toNat = 13; omega)
        subst this
        refine af_intro Tryd.func41 rfl (by decide) Tryd.ntmps41 rfl ?_
        repeat' (first
        | (apply al_call1 rfl rfl rfl rfl (c := cp)
           case ha => exact os_
           case hM => exact pick_
           rintro _ _ ⟨rfl, rfl⟩)
          | (apply al_call1 rfl rfl rfl rfl (c := ct)
             case ha => exact os_
             case hM => exact pick_
             rintro _ _ ⟨rfl, rfl⟩)
          | (apply al_call1p rfl rfl rfl rfl (c := cq)
             case ha => exact os_
             case hM => exact pick_
             case h => exact fun _ _ h => h.elim
             rintro _ _ rfl)
          | (apply al_call1p rfl rfl rfl rfl (c := cc)
             case ha => exact os_
             case hM => exact pick_
             case hp =>
               intro ch M1 hk
               repeat' (first | refine th_p ?_ | refine ib_p ?_)
               exact rq_p hk
             rintro _ _ ⟨c, t, hct, rfl, rfl⟩)
          | (apply al_panic rfl rfl rfl; (case hx => exact oo_)) | refine th_p ?_ | refine ib_p ?_
          | (apply al_makeMap rfl rfl rfl rfl; intro bm)
          | (apply al_insert rfl rfl rfl un_ un_; (case hx => exact oo_); (case hy => exact oo_); (case hz => exact oo_); (case hk => exact (rfl : IntKind.u8 = IntKind.u8)); (case hU => exact upf_); (case hn => rfl))
        | refine s_y ?_
          | refine c_ ?_
          | (refine aw_if ?_ ?_ <;> intro hb <;> try (exfalso; first | assumption | omega | (simp only [or_self, and_self, not_true_eq_false, not_false_eq_true, or_false, false_or, and_false, false_and, true_and, and_true] at hb; first | done | omega)))
          | refine s_call ?_ (c := by first | exact cg | exact f_Shown _ | fail)
          | refine s_op ?_ (hy := by first | (apply ay_nilp rfl; exact oo_; done) | (apply ay_nilp rfl; exact oog_; done) | (apply ay_iface rfl un_; exact oo_; done) | (apply ay_lookup rfl un_ un_; (case hx => exact oo_); (case hy => exact oo_); (case hk => exact (rfl : IntKind.u8 = IntKind.u8)); (case hM => exact mem_); (case hn => rfl)) | fail)
          | refine s_yg ?_
          | refine s_callg ?_ (c := by intro hk hk2; first | exact cg | exact f_Shown _ | fail)
          | refine s_opg ?_ (hy := by intro hk hk2; first | (apply ay_nilp rfl; exact oo_; done) | (apply ay_nilp rfl; exact oog_; done) | (apply ay_iface rfl un_; exact oo_; done) | (apply ay_lookup rfl un_ un_; (case hx => exact oo_); (case hy => exact oo_); (case hk => exact (rfl : IntKind.u8 = IntKind.u8)); (case hM => exact mem_); (case hn => rfl)) | fail)
          | refine s_skip ?_
          | ((first | refine w_alloc ?_ | refine w_box ?_) <;> intro bb)
          | ((first | refine w_emp ?_ | refine w_make ?_ | refine w_app ?_) <;> intro u hu1 hu2)
          | refine w_stv ?_ | refine w_str ?_ | refine w_cpr ?_ | refine w_cps ?_
          | refine al_last (by kernel_rfl) ?_
        | fail)
        all_goals first | (exfalso; omega) | skip
        exact ⟨_, [rdO b s (0 + 1)], rl_, sl_, fin 9 rfl⟩
      · have : x = 10 := byte_eq (by show x.toNat = 10; omega)
        subst this
        refine af_intro Tryd.func41 rfl (by decide) Tryd.ntmps41 rfl ?_
        repeat' (first
        | (apply al_call1 rfl rfl rfl rfl (c := cp)
           case ha => exact os_
           case hM => exact pick_
           rintro _ _ ⟨rfl, rfl⟩)
          | (apply al_call1 rfl rfl rfl rfl (c := ct)
             case ha => exact os_
             case hM => exact pick_
             rintro _ _ ⟨rfl, rfl⟩)
          | (apply al_call1p rfl rfl rfl rfl (c := cq)
             case ha => exact os_
             case hM => exact pick_
             case h => exact fun _ _ h => h.elim
             rintro _ _ rfl)
          | (apply al_call1p rfl rfl rfl rfl (c := cc)
             case ha => exact os_
             case hM => exact pick_
             case hp =>
               intro ch M1 hk
               repeat' (first | refine th_p ?_ | refine ib_p ?_)
               exact rq_p hk
             rintro _ _ ⟨c, t, hct, rfl, rfl⟩)
          | (apply al_panic rfl rfl rfl; (case hx => exact oo_)) | refine th_p ?_ | refine ib_p ?_
          | (apply al_makeMap rfl rfl rfl rfl; intro bm)
          | (apply al_insert rfl rfl rfl un_ un_; (case hx => exact oo_); (case hy => exact oo_); (case hz => exact oo_); (case hk => exact (rfl : IntKind.u8 = IntKind.u8)); (case hU => exact upf_); (case hn => rfl))
        | refine s_y ?_
          | refine c_ ?_
          | (refine aw_if ?_ ?_ <;> intro hb <;> try (exfalso; first | assumption | omega | (simp only [or_self, and_self, not_true_eq_false, not_false_eq_true, or_false, false_or, and_false, false_and, true_and, and_true] at hb; first | done | omega)))
          | refine s_call ?_ (c := by first | exact cg | exact f_Shown _ | fail)
          | refine s_op ?_ (hy := by first | (apply ay_nilp rfl; exact oo_; done) | (apply ay_nilp rfl; exact oog_; done) | (apply ay_iface rfl un_; exact oo_; done) | (apply ay_lookup rfl un_ un_; (case hx => exact oo_); (case hy => exact oo_); (case hk => exact (rfl : IntKind.u8 = IntKind.u8)); (case hM => exact mem_); (case hn => rfl)) | fail)
          | refine s_yg ?_
          | refine s_callg ?_ (c := by intro hk hk2; first | exact cg | exact f_Shown _ | fail)
          | refine s_opg ?_ (hy := by intro hk hk2; first | (apply ay_nilp rfl; exact oo_; done) | (apply ay_nilp rfl; exact oog_; done) | (apply ay_iface rfl un_; exact oo_; done) | (apply ay_lookup rfl un_ un_; (case hx => exact oo_); (case hy => exact oo_); (case hk => exact (rfl : IntKind.u8 = IntKind.u8)); (case hM => exact mem_); (case hn => rfl)) | fail)
          | refine s_skip ?_
          | ((first | refine w_alloc ?_ | refine w_box ?_) <;> intro bb)
          | ((first | refine w_emp ?_ | refine w_make ?_ | refine w_app ?_) <;> intro u hu1 hu2)
          | refine w_stv ?_ | refine w_str ?_ | refine w_cpr ?_ | refine w_cps ?_
          | refine al_last (by kernel_rfl) ?_
        | fail)
        all_goals first | (exfalso; omega) | skip
        exact ⟨_, [rdO b s (0 + 1)], rl_, sl_, fin 10 rfl⟩
      · have : x = 8 := byte_eq (by show x.toNat = 8; omega)
        subst this
        refine af_intro Tryd.func41 rfl (by decide) Tryd.ntmps41 rfl ?_
        repeat' (first
        | (apply al_call1 rfl rfl rfl rfl (c := cp)
           case ha => exact os_
           case hM => exact pick_
           rintro _ _ ⟨rfl, rfl⟩)
          | (apply al_call1 rfl rfl rfl rfl (c := ct)
             case ha => exact os_
             case hM => exact pick_
             rintro _ _ ⟨rfl, rfl⟩)
          | (apply al_call1p rfl rfl rfl rfl (c := cq)
             case ha => exact os_
             case hM => exact pick_
             case h => exact fun _ _ h => h.elim
             rintro _ _ rfl)
          | (apply al_call1p rfl rfl rfl rfl (c := cc)
             case ha => exact os_
             case hM => exact pick_
             case hp =>
               intro ch M1 hk
               repeat' (first | refine th_p ?_ | refine ib_p ?_)
               exact rq_p hk
             rintro _ _ ⟨c, t, hct, rfl, rfl⟩)
          | (apply al_panic rfl rfl rfl; (case hx => exact oo_)) | refine th_p ?_ | refine ib_p ?_
          | (apply al_makeMap rfl rfl rfl rfl; intro bm)
          | (apply al_insert rfl rfl rfl un_ un_; (case hx => exact oo_); (case hy => exact oo_); (case hz => exact oo_); (case hk => exact (rfl : IntKind.u8 = IntKind.u8)); (case hU => exact upf_); (case hn => rfl))
        | refine s_y ?_
          | refine c_ ?_
          | (refine aw_if ?_ ?_ <;> intro hb <;> try (exfalso; first | assumption | omega | (simp only [or_self, and_self, not_true_eq_false, not_false_eq_true, or_false, false_or, and_false, false_and, true_and, and_true] at hb; first | done | omega)))
          | refine s_call ?_ (c := by first | exact cg | exact f_Shown _ | fail)
          | refine s_op ?_ (hy := by first | (apply ay_nilp rfl; exact oo_; done) | (apply ay_nilp rfl; exact oog_; done) | (apply ay_iface rfl un_; exact oo_; done) | (apply ay_lookup rfl un_ un_; (case hx => exact oo_); (case hy => exact oo_); (case hk => exact (rfl : IntKind.u8 = IntKind.u8)); (case hM => exact mem_); (case hn => rfl)) | fail)
          | refine s_yg ?_
          | refine s_callg ?_ (c := by intro hk hk2; first | exact cg | exact f_Shown _ | fail)
          | refine s_opg ?_ (hy := by intro hk hk2; first | (apply ay_nilp rfl; exact oo_; done) | (apply ay_nilp rfl; exact oog_; done) | (apply ay_iface rfl un_; exact oo_; done) | (apply ay_lookup rfl un_ un_; (case hx => exact oo_); (case hy => exact oo_); (case hk => exact (rfl : IntKind.u8 = IntKind.u8)); (case hM => exact mem_); (case hn => rfl)) | fail)
          | refine s_skip ?_
          | ((first | refine w_alloc ?_ | refine w_box ?_) <;> intro bb)
          | ((first | refine w_emp ?_ | refine w_make ?_ | refine w_app ?_) <;> intro u hu1 hu2)
          | refine w_stv ?_ | refine w_str ?_ | refine w_cpr ?_ | refine w_cps ?_
          | refine al_last (by kernel_rfl) ?_
        | fail)
        all_goals first | (exfalso; omega) | skip
        exact ⟨_, [rdO b s (0 + 1)], rl_, sl_, fin 11 rfl⟩
      · have : x = 7 := byte_eq (by show x.toNat = 7; omega)
        subst this
        refine af_intro Tryd.func41 rfl (by decide) Tryd.ntmps41 rfl ?_
        repeat' (first
        | (apply al_call1 rfl rfl rfl rfl (c := cp)
           case ha => exact os_
           case hM => exact pick_
           rintro _ _ ⟨rfl, rfl⟩)
          | (apply al_call1 rfl rfl rfl rfl (c := ct)
             case ha => exact os_
             case hM => exact pick_
             rintro _ _ ⟨rfl, rfl⟩)
          | (apply al_call1p rfl rfl rfl rfl (c := cq)
             case ha => exact os_
             case hM => exact pick_
             case h => exact fun _ _ h => h.elim
             rintro _ _ rfl)
          | (apply al_call1p rfl rfl rfl rfl (c := cc)
             case ha => exact os_
             case hM => exact pick_
             case hp =>
               intro ch M1 hk
               repeat' (first | refine th_p ?_ | refine ib_p ?_)
               exact rq_p hk
             rintro _ _ ⟨c, t, hct, rfl, rfl⟩)
          | (apply al_panic rfl rfl rfl; (case hx => exact oo_)) | refine th_p ?_ | refine ib_p ?_
          | (apply al_makeMap rfl rfl rfl rfl; intro bm)
          | (apply al_insert rfl rfl rfl un_ un_; (case hx => exact oo_); (case hy => exact oo_); (case hz => exact oo_); (case hk => exact (rfl : IntKind.u8 = IntKind.u8)); (case hU => exact upf_); (case hn => rfl))
        | refine s_y ?_
          | refine c_ ?_
          | (refine aw_if ?_ ?_ <;> intro hb <;> try (exfalso; first | assumption | omega | (simp only [or_self, and_self, not_true_eq_false, not_false_eq_true, or_false, false_or, and_false, false_and, true_and, and_true] at hb; first | done | omega)))
          | refine s_call ?_ (c := by first | exact cg | exact f_Shown _ | fail)
          | refine s_op ?_ (hy := by first | (apply ay_nilp rfl; exact oo_; done) | (apply ay_nilp rfl; exact oog_; done) | (apply ay_iface rfl un_; exact oo_; done) | (apply ay_lookup rfl un_ un_; (case hx => exact oo_); (case hy => exact oo_); (case hk => exact (rfl : IntKind.u8 = IntKind.u8)); (case hM => exact mem_); (case hn => rfl)) | fail)
          | refine s_yg ?_
          | refine s_callg ?_ (c := by intro hk hk2; first | exact cg | exact f_Shown _ | fail)
          | refine s_opg ?_ (hy := by intro hk hk2; first | (apply ay_nilp rfl; exact oo_; done) | (apply ay_nilp rfl; exact oog_; done) | (apply ay_iface rfl un_; exact oo_; done) | (apply ay_lookup rfl un_ un_; (case hx => exact oo_); (case hy => exact oo_); (case hk => exact (rfl : IntKind.u8 = IntKind.u8)); (case hM => exact mem_); (case hn => rfl)) | fail)
          | refine s_skip ?_
          | ((first | refine w_alloc ?_ | refine w_box ?_) <;> intro bb)
          | ((first | refine w_emp ?_ | refine w_make ?_ | refine w_app ?_) <;> intro u hu1 hu2)
          | refine w_stv ?_ | refine w_str ?_ | refine w_cpr ?_ | refine w_cps ?_
          | refine al_last (by kernel_rfl) ?_
        | fail)
        all_goals first | (exfalso; omega) | skip
        exact ⟨_, [rdO b s (0 + 1)], rl_, sl_, fin 12 rfl⟩
    · have hk0 : homeK x.toNat = 0 := by omega
      have hn : x.toNat ≠ 13 ∧ x.toNat ≠ 10 ∧ x.toNat ≠ 8 ∧ x.toNat ≠ 7 := by
        refine ⟨?_, ?_, ?_, ?_⟩ <;> (intro h; rw [h] at hk0; revert hk0; decide)
      by_cases h27 : x.toNat = 27
      · have e0 : x = 27 := byte_eq (by show x.toNat = 27; omega)
        have cg : True := trivial
        cases hl2 : l with
        | nil =>
          have e : cmdM s = nok 3 := by rw [hsl, e0, hl2]; rfl
          rw [e]
          have hlen1 : s.length = 0 + 1 := by rw [hlen, hl2]; rfl
          have cq : AF Tryd.prog T0 79 [ptA b] [rdO b s (0 + 1)] (fun _ _ => False) (fun c _ => c = errP 3) := by rw [← hlen1]; exact f_takeE b s (by omega)
          have ct : True := trivial
          have cc : True := trivial
          refine af_intro Tryd.func41 rfl (by decide) Tryd.ntmps41 rfl ?_
          repeat' (first
          | (apply al_call1 rfl rfl rfl rfl (c := cp)
             case ha => exact os_
             case hM => exact pick_
             rintro _ _ ⟨rfl, rfl⟩)
            | (apply al_call1 rfl rfl rfl rfl (c := ct)
               case ha => exact os_
               case hM => exact pick_
               rintro _ _ ⟨rfl, rfl⟩)
            | (apply al_call1p rfl rfl rfl rfl (c := cq)
               case ha => exact os_
               case hM => exact pick_
               case h => exact fun _ _ h => h.elim
               rintro _ _ rfl)
            | (apply al_call1p rfl rfl rfl rfl (c := cc)
               case ha => exact os_
               case hM => exact pick_
               case hp =>
                 intro ch M1 hk
                 repeat' (first | refine th_p ?_ | refine ib_p ?_)
                 exact rq_p hk
               rintro _ _ ⟨c, t, hct, rfl, rfl⟩)
            | (apply al_panic rfl rfl rfl; (case hx => exact oo_)) | refine th_p ?_ | refine ib_p ?_
            | (apply al_makeMap rfl rfl rfl rfl; intro bm)
            | (apply al_insert rfl rfl rfl un_ un_; (case hx => exact oo_); (case hy => exact oo_); (case hz => exact oo_); (case hk => exact (rfl : IntKind.u8 = IntKind.u8)); (case hU => exact upf_); (case hn => rfl))
          | refine s_y ?_
            | refine c_ ?_
            | (refine aw_if ?_ ?_ <;> intro hb <;> try (exfalso; first | assumption | omega | (simp only [or_self, and_self, not_true_eq_false, not_false_eq_true, or_false, false_or, and_false, false_and, true_and, and_true] at hb; first | done | omega)))
            | refine s_call ?_ (c := by first | exact cg | exact f_Shown _ | fail)
            | refine s_op ?_ (hy := by first | (apply ay_nilp rfl; exact oo_; done) | (apply ay_nilp rfl; exact oog_; done) | (apply ay_iface rfl un_; exact oo_; done) | (apply ay_lookup rfl un_ un_; (case hx => exact oo_); (case hy => exact oo_); (case hk => exact (rfl : IntKind.u8 = IntKind.u8)); (case hM => exact mem_); (case hn => rfl)) | fail)
            | refine s_yg ?_
            | refine s_callg ?_ (c := by intro hk hk2; first | exact cg | exact f_Shown _ | fail)
            | refine s_opg ?_ (hy := by intro hk hk2; first | (apply ay_nilp rfl; exact oo_; done) | (apply ay_nilp rfl; exact oog_; done) | (apply ay_iface rfl un_; exact oo_; done) | (apply ay_lookup rfl un_ un_; (case hx => exact oo_); (case hy => exact oo_); (case hk => exact (rfl : IntKind.u8 = IntKind.u8)); (case hM => exact mem_); (case hn => rfl)) | fail)
            | refine s_skip ?_
            | ((first | refine w_alloc ?_ | refine w_box ?_) <;> intro bb)
            | ((first | refine w_emp ?_ | refine w_make ?_ | refine w_app ?_) <;> intro u hu1 hu2)
            | refine w_stv ?_ | refine w_str ?_ | refine w_cpr ?_ | refine w_cps ?_
            | refine al_last (by kernel_rfl) ?_
          | fail)
          all_goals first | exact rq_p ⟨3, by decide, rfl, rfl⟩ | (exfalso; omega)
        | cons y l2 =>
          rw [hl2] at hl
          obtain ⟨hy, hl3⟩ := cons_at hl
          have hy2 := y.toNat_lt
          have ct := f_take (T0 := T0) b s (0 + 1) y (by omega) hy
          have cq : True := trivial
          by_cases h91 : y.toNat = 91
          · have e1 : y = 91 := byte_eq (by show y.toNat = 91; omega)
            have e : cmdM s = ctlM (s.drop (0 + 1 + 1)) := by rw [show s.drop (0 + 1 + 1) = l2 from hl3, hsl, e0, hl2, e1, cmd_esc]
            rw [e]
            have hyl := (List.getElem?_eq_some_iff.1 hy).1
            have cc := f_control (T0 := T0) b s (0 + 1) (by omega) (by omega) (by rw [← e1]; exact hy)
            refine af_intro Tryd.func41 rfl (by decide) Tryd.ntmps41 rfl ?_
            repeat' (first
            | (apply al_call1 rfl rfl rfl rfl (c := cp)
               case ha => exact os_
               case hM => exact pick_
               rintro _ _ ⟨rfl, rfl⟩)
              | (apply al_call1 rfl rfl rfl rfl (c := ct)
                 case ha => exact os_
                 case hM => exact pick_
                 rintro _ _ ⟨rfl, rfl⟩)
              | (apply al_call1p rfl rfl rfl rfl (c := cq)
                 case ha => exact os_
                 case hM => exact pick_
                 case h => exact fun _ _ h => h.elim
                 rintro _ _ rfl)
              | (apply al_call1p rfl rfl rfl rfl (c := cc)
                 case ha => exact os_
                 case hM => exact pick_
                 case hp =>
                   intro ch M1 hk
                   repeat' (first | refine th_p ?_ | refine ib_p ?_)
                   exact rq_p hk
                 rintro _ _ ⟨c, t, hct, rfl, rfl⟩)
              | (apply al_panic rfl rfl rfl; (case hx => exact oo_)) | refine th_p ?_ | refine ib_p ?_
              | (apply al_makeMap rfl rfl rfl rfl; intro bm)
              | (apply al_insert rfl rfl rfl un_ un_; (case hx => exact oo_); (case hy => exact oo_); (case hz => exact oo_); (case hk => exact (rfl : IntKind.u8 = IntKind.u8)); (case hU => exact upf_); (case hn => rfl))
            | refine s_y ?_
              | refine c_ ?_
              | (refine aw_if ?_ ?_ <;> intro hb <;> try (exfalso; first | assumption | omega | (simp only [or_self, and_self, not_true_eq_false, not_false_eq_true, or_false, false_or, and_false, false_and, true_and, and_true] at hb; first | done | omega)))
              | refine s_call ?_ (c := by first | exact cg | exact f_Shown _ | fail)
              | refine s_op ?_ (hy := by first | (apply ay_nilp rfl; exact oo_; done) | (apply ay_nilp rfl; exact oog_; done) | (apply ay_iface rfl un_; exact oo_; done) | (apply ay_lookup rfl un_ un_; (case hx => exact oo_); (case hy => exact oo_); (case hk => exact (rfl : IntKind.u8 = IntKind.u8)); (case hM => exact mem_); (case hn => rfl)) | fail)
              | refine s_yg ?_
              | refine s_callg ?_ (c := by intro hk hk2; first | exact cg | exact f_Shown _ | fail)
              | refine s_opg ?_ (hy := by intro hk hk2; first | (apply ay_nilp rfl; exact oo_; done) | (apply ay_nilp rfl; exact oog_; done) | (apply ay_iface rfl un_; exact oo_; done) | (apply ay_lookup rfl un_ un_; (case hx => exact oo_); (case hy => exact oo_); (case hk => exact (rfl : IntKind.u8 = IntKind.u8)); (case hM => exact mem_); (case hn => rfl)) | fail)
              | refine s_skip ?_
              | ((first | refine w_alloc ?_ | refine w_box ?_) <;> intro bb)
              | ((first | refine w_emp ?_ | refine w_make ?_ | refine w_app ?_) <;> intro u hu1 hu2)
              | refine w_stv ?_ | refine w_str ?_ | refine w_cpr ?_ | refine w_cps ?_
              | refine al_last (by kernel_rfl) ?_
            | fail)
            all_goals first | (exfalso; omega) | skip
            exact ⟨_, [rdO b s (s.length - t.length)], rl_, sl_, c, t, hct, rfl, rfl⟩
          · have e : cmdM s = nok 2 := by
              rw [hsl, e0, hl2, cmd_27]
              exact if_neg h91
            rw [e]
            have cc : True := trivial
            refine af_intro Tryd.func41 rfl (by decide) Tryd.ntmps41 rfl ?_
            repeat' (first
            | (apply al_call1 rfl rfl rfl rfl (c := cp)
               case ha => exact os_
               case hM => exact pick_
               rintro _ _ ⟨rfl, rfl⟩)
              | (apply al_call1 rfl rfl rfl rfl (c := ct)
                 case ha => exact os_
                 case hM => exact pick_
                 rintro _ _ ⟨rfl, rfl⟩)
              | (apply al_call1p rfl rfl rfl rfl (c := cq)
                 case ha => exact os_
                 case hM => exact pick_
                 case h => exact fun _ _ h => h.elim
                 rintro _ _ rfl)
              | (apply al_call1p rfl rfl rfl rfl (c := cc)
                 case ha => exact os_
                 case hM => exact pick_
                 case hp =>
                   intro ch M1 hk
                   repeat' (first | refine th_p ?_ | refine ib_p ?_)
                   exact rq_p hk
                 rintro _ _ ⟨c, t, hct, rfl, rfl⟩)
              | (apply al_panic rfl rfl rfl; (case hx => exact oo_)) | refine th_p ?_ | refine ib_p ?_
              | (apply al_makeMap rfl rfl rfl rfl; intro bm)
              | (apply al_insert rfl rfl rfl un_ un_; (case hx => exact oo_); (case hy => exact oo_); (case hz => exact oo_); (case hk => exact (rfl : IntKind.u8 = IntKind.u8)); (case hU => exact upf_); (case hn => rfl))
            | refine s_y ?_
              | refine c_ ?_
              | (refine aw_if ?_ ?_ <;> intro hb <;> try (exfalso; first | assumption | omega | (simp only [or_self, and_self, not_true_eq_false, not_false_eq_true, or_false, false_or, and_false, false_and, true_and, and_true] at hb; first | done | omega)))
              | refine s_call ?_ (c := by first | exact cg | exact f_Shown _ | fail)
              | refine s_op ?_ (hy := by first | (apply ay_nilp rfl; exact oo_; done) | (apply ay_nilp rfl; exact oog_; done) | (apply ay_iface rfl un_; exact oo_; done) | (apply ay_lookup rfl un_ un_; (case hx => exact oo_); (case hy => exact oo_); (case hk => exact (rfl : IntKind.u8 = IntKind.u8)); (case hM => exact mem_); (case hn => rfl)) | fail)
              | refine s_yg ?_
              | refine s_callg ?_ (c := by intro hk hk2; first | exact cg | exact f_Shown _ | fail)
              | refine s_opg ?_ (hy := by intro hk hk2; first | (apply ay_nilp rfl; exact oo_; done) | (apply ay_nilp rfl; exact oog_; done) | (apply ay_iface rfl un_; exact oo_; done) | (apply ay_lookup rfl un_ un_; (case hx => exact oo_); (case hy => exact oo_); (case hk => exact (rfl : IntKind.u8 = IntKind.u8)); (case hM => exact mem_); (case hn => rfl)) | fail)
              | refine s_skip ?_
              | ((first | refine w_alloc ?_ | refine w_box ?_) <;> intro bb)
              | ((first | refine w_emp ?_ | refine w_make ?_ | refine w_app ?_) <;> intro u hu1 hu2)
              | refine w_stv ?_ | refine w_str ?_ | refine w_cpr ?_ | refine w_cps ?_
              | refine al_last (by kernel_rfl) ?_
            | fail)
            all_goals first | exact rq_p ⟨2, by decide, rfl, rfl⟩ | (exfalso; omega)
      · have cq : True := trivial
        have ct : True := trivial
        have cc : True := trivial
        have cg0 := f_glyphNext (T0 := T0) s (by omega)
        have cg1 : List.take (s.length - 0) (List.drop 0 s) = s := by simp
        have e : cmdM s = if fullG s = false then nok 3 else if decG s = (65533, 1) ∨ shown ((decG s).1 : Nat) = false then nok 2 else (0, (1, 0, 0, ((decG s).1 : Nat)), s.drop (decG s).2) := by
          rw [hsl, cmdM_cons, if_neg hk, if_neg h27]
        rw [e]
        unfold nextG at cg0
        rw [if_neg h0] at cg0
        by_cases hf : fullG s = false
        · rw [if_pos hf] at cg0 ⊢
          have cg : AP Tryd.prog T0 81 [SA (List.take (s.length - 0) (List.drop 0 s))] (tupA [R 0, I 0, I 3]) := by rw [cg1]; exact cg0
          refine af_intro Tryd.func41 rfl (by decide) Tryd.ntmps41 rfl ?_
          repeat' (first
          | (apply al_call1 rfl rfl rfl rfl (c := cp)
             case ha => exact os_
             case hM => exact pick_
             rintro _ _ ⟨rfl, rfl⟩)
            | (apply al_call1 rfl rfl rfl rfl (c := ct)
               case ha => exact os_
               case hM => exact pick_
               rintro _ _ ⟨rfl, rfl⟩)
            | (apply al_call1p rfl rfl rfl rfl (c := cq)
               case ha => exact os_
               case hM => exact pick_
               case h => exact fun _ _ h => h.elim
               rintro _ _ rfl)
            | (apply al_call1p rfl rfl rfl rfl (c := cc)
               case ha => exact os_
               case hM => exact pick_
               case hp =>
                 intro ch M1 hk
                 repeat' (first | refine th_p ?_ | refine ib_p ?_)
                 exact rq_p hk
               rintro _ _ ⟨c, t, hct, rfl, rfl⟩)
            | (apply al_panic rfl rfl rfl; (case hx => exact oo_)) | refine th_p ?_ | refine ib_p ?_
            | (apply al_makeMap rfl rfl rfl rfl; intro bm)
            | (apply al_insert rfl rfl rfl un_ un_; (case hx => exact oo_); (case hy => exact oo_); (case hz => exact oo_); (case hk => exact (rfl : IntKind.u8 = IntKind.u8)); (case hU => exact upf_); (case hn => rfl))
          | refine s_y ?_
            | refine c_ ?_
            | (refine aw_if ?_ ?_ <;> intro hb <;> try (exfalso; first | assumption | omega | (simp only [or_self, and_self, not_true_eq_false, not_false_eq_true, or_false, false_or, and_false, false_and, true_and, and_true] at hb; first | done | omega)))
            | refine s_call ?_ (c := by first | exact cg | exact f_Shown _ | fail)
            | refine s_op ?_ (hy := by first | (apply ay_nilp rfl; exact oo_; done) | (apply ay_nilp rfl; exact oog_; done) | (apply ay_iface rfl un_; exact oo_; done) | (apply ay_lookup rfl un_ un_; (case hx => exact oo_); (case hy => exact oo_); (case hk => exact (rfl : IntKind.u8 = IntKind.u8)); (case hM => exact mem_); (case hn => rfl)) | fail)
            | refine s_yg ?_
            | refine s_callg ?_ (c := by intro hk hk2; first | exact cg | exact f_Shown _ | fail)
            | refine s_opg ?_ (hy := by intro hk hk2; first | (apply ay_nilp rfl; exact oo_; done) | (apply ay_nilp rfl; exact oog_; done) | (apply ay_iface rfl un_; exact oo_; done) | (apply ay_lookup rfl un_ un_; (case hx => exact oo_); (case hy => exact oo_); (case hk => exact (rfl : IntKind.u8 = IntKind.u8)); (case hM => exact mem_); (case hn => rfl)) | fail)
            | refine s_skip ?_
            | ((first | refine w_alloc ?_ | refine w_box ?_) <;> intro bb)
            | ((first | refine w_emp ?_ | refine w_make ?_ | refine w_app ?_) <;> intro u hu1 hu2)
            | refine w_stv ?_ | refine w_str ?_ | refine w_cpr ?_ | refine w_cps ?_
            | refine al_last (by kernel_rfl) ?_
          | fail)
          all_goals first | exact rq_p ⟨3, by decide, rfl, rfl⟩ | (exfalso; omega)
        · rw [if_neg hf] at cg0 ⊢
          have hds := dec_sound h0
          obtain ⟨r, k, hrk⟩ : ∃ r k, decG s = (r, k) := ⟨_, _, rfl⟩
          rw [hrk] at cg0 hds ⊢
          simp only at cg0 hds ⊢
          have cg : AP Tryd.prog T0 81 [SA (List.take (s.length - 0) (List.drop 0 s))] (tupA [R r, I k, I 0]) := by rw [cg1]; exact cg0
          have hk1 : k ≤ s.length := by
            rcases hds with h | h
            · simp at h; omega
            · exact h.2.1
          by_cases hb1 : (r, k) = (65533, 1) ∨ shown (r : Int) = false
          · rw [if_pos hb1]
            refine af_intro Tryd.func41 rfl (by decide) Tryd.ntmps41 rfl ?_
            repeat' (first
            | (apply al_call1 rfl rfl rfl rfl (c := cp)
               case ha => exact os_
               case hM => exact pick_
               rintro _ _ ⟨rfl, rfl⟩)
              | (apply al_call1 rfl rfl rfl rfl (c := ct)
                 case ha => exact os_
                 case hM => exact pick_
                 rintro _ _ ⟨rfl, rfl⟩)
              | (apply al_call1p rfl rfl rfl rfl (c := cq)
                 case ha => exact os_
                 case hM => exact pick_
                 case h => exact fun _ _ h => h.elim
                 rintro _ _ rfl)
              | (apply al_call1p rfl rfl rfl rfl (c := cc)
                 case ha => exact os_
                 case hM => exact pick_
                 case hp =>
                   intro ch M1 hk
                   repeat' (first | refine th_p ?_ | refine ib_p ?_)
                   exact rq_p hk
                 rintro _ _ ⟨c, t, hct, rfl, rfl⟩)
              | (apply al_panic rfl rfl rfl; (case hx => exact oo_)) | refine th_p ?_ | refine ib_p ?_
              | (apply al_makeMap rfl rfl rfl rfl; intro bm)
              | (apply al_insert rfl rfl rfl un_ un_; (case hx => exact oo_); (case hy => exact oo_); (case hz => exact oo_); (case hk => exact (rfl : IntKind.u8 = IntKind.u8)); (case hU => exact upf_); (case hn => rfl))
            | refine s_y ?_
              | refine c_ ?_
              | (refine aw_if ?_ ?_ <;> intro hb <;> try (exfalso; first | assumption | omega | (simp only [or_self, and_self, not_true_eq_false, not_false_eq_true, or_false, false_or, and_false, false_and, true_and, and_true] at hb; first | done | omega)))
              | refine s_call ?_ (c := by first | exact cg | exact f_Shown _ | fail)
              | refine s_op ?_ (hy := by first | (apply ay_nilp rfl; exact oo_; done) | (apply ay_nilp rfl; exact oog_; done) | (apply ay_iface rfl un_; exact oo_; done) | (apply ay_lookup rfl un_ un_; (case hx => exact oo_); (case hy => exact oo_); (case hk => exact (rfl : IntKind.u8 = IntKind.u8)); (case hM => exact mem_); (case hn => rfl)) | fail)
              | refine s_yg ?_
              | refine s_callg ?_ (c := by intro hk hk2; first | exact cg | exact f_Shown _ | fail)
              | refine s_opg ?_ (hy := by intro hk hk2; first | (apply ay_nilp rfl; exact oo_; done) | (apply ay_nilp rfl; exact oog_; done) | (apply ay_iface rfl un_; exact oo_; done) | (apply ay_lookup rfl un_ un_; (case hx => exact oo_); (case hy => exact oo_); (case hk => exact (rfl : IntKind.u8 = IntKind.u8)); (case hM => exact mem_); (case hn => rfl)) | fail)
              | refine s_skip ?_
              | ((first | refine w_alloc ?_ | refine w_box ?_) <;> intro bb)
              | ((first | refine w_emp ?_ | refine w_make ?_ | refine w_app ?_) <;> intro u hu1 hu2)
              | refine w_stv ?_ | refine w_str ?_ | refine w_cpr ?_ | refine w_cps ?_
              | refine al_last (by kernel_rfl) ?_
            | fail)
            all_goals first
            | exact rq_p ⟨2, by decide, rfl, rfl⟩
            | (exfalso; omega)
            | (exfalso; rcases hb1 with h | h
               · simp only [Prod.mk.injEq] at h; omega
               · rename_i h2; first | (rw [h] at h2; cases h2) | (rw [h] at hb; cases hb))
          · rw [if_neg hb1]
            have hsh : shown (r : Int) = true := by
              cases h : shown (r : Int) with
              | true => rfl
              | false => exact absurd (.inr h) hb1
            have hrk2 : ¬ (r = 65533 ∧ k = 1) := fun h => hb1 (.inl (by rw [h.1, h.2]))
            refine af_intro Tryd.func41 rfl (by decide) Tryd.ntmps41 rfl ?_
            repeat' (first
            | (apply al_call1 rfl rfl rfl rfl (c := cp)
               case ha => exact os_
               case hM => exact pick_
               rintro _ _ ⟨rfl, rfl⟩)
              | (apply al_call1 rfl rfl rfl rfl (c := ct)
                 case ha => exact os_
                 case hM => exact pick_
                 rintro _ _ ⟨rfl, rfl⟩)
              | (apply al_call1p rfl rfl rfl rfl (c := cq)
                 case ha => exact os_
                 case hM => exact pick_
                 case h => exact fun _ _ h => h.elim
                 rintro _ _ rfl)
              | (apply al_call1p rfl rfl rfl rfl (c := cc)
                 case ha => exact os_
                 case hM => exact pick_
                 case hp =>
                   intro ch M1 hk
                   repeat' (first | refine th_p ?_ | refine ib_p ?_)
                   exact rq_p hk
                 rintro _ _ ⟨c, t, hct, rfl, rfl⟩)
              | (apply al_panic rfl rfl rfl; (case hx => exact oo_)) | refine th_p ?_ | refine ib_p ?_
              | (apply al_makeMap rfl rfl rfl rfl; intro bm)
              | (apply al_insert rfl rfl rfl un_ un_; (case hx => exact oo_); (case hy => exact oo_); (case hz => exact oo_); (case hk => exact (rfl : IntKind.u8 = IntKind.u8)); (case hU => exact upf_); (case hn => rfl))
            | refine s_y ?_
              | refine c_ ?_
              | (refine aw_if ?_ ?_ <;> intro hb <;> try (exfalso; first | assumption | omega | (simp only [or_self, and_self, not_true_eq_false, not_false_eq_true, or_false, false_or, and_false, false_and, true_and, and_true] at hb; first | done | omega)))
              | refine s_call ?_ (c := by first | exact cg | exact f_Shown _ | fail)
              | refine s_op ?_ (hy := by first | (apply ay_nilp rfl; exact oo_; done) | (apply ay_nilp rfl; exact oog_; done) | (apply ay_iface rfl un_; exact oo_; done) | (apply ay_lookup rfl un_ un_; (case hx => exact oo_); (case hy => exact oo_); (case hk => exact (rfl : IntKind.u8 = IntKind.u8)); (case hM => exact mem_); (case hn => rfl)) | fail)
              | refine s_yg ?_
              | refine s_callg ?_ (c := by intro hk hk2; first | exact cg | exact f_Shown _ | fail)
              | refine s_opg ?_ (hy := by intro hk hk2; first | (apply ay_nilp rfl; exact oo_; done) | (apply ay_nilp rfl; exact oog_; done) | (apply ay_iface rfl un_; exact oo_; done) | (apply ay_lookup rfl un_ un_; (case hx => exact oo_); (case hy => exact oo_); (case hk => exact (rfl : IntKind.u8 = IntKind.u8)); (case hM => exact mem_); (case hn => rfl)) | fail)
              | refine s_skip ?_
              | ((first | refine w_alloc ?_ | refine w_box ?_) <;> intro bb)
              | ((first | refine w_emp ?_ | refine w_make ?_ | refine w_app ?_) <;> intro u hu1 hu2)
              | refine w_stv ?_ | refine w_str ?_ | refine w_cpr ?_ | refine w_cps ?_
              | refine al_last (by kernel_rfl) ?_
            | fail)
            all_goals first | (exfalso; omega) | (exfalso; rw [hsh] at hb; cases hb; done) | skip
            refine ⟨_, [rdO b s (0 + k)], rl_, sl_, _, _, rfl, rfl, ?_⟩
            rw [List.length_drop, show s.length - (s.length - k) = 0 + k by omega]
end Go.Proofs.YtplabpjkkcillaaDoor
