/- Layers 1 and 5 (signs, vt): bytes of signs and of numbers, which commands are right. No condition. -/
import Derived.Test.YtplabpjkkcillaaDoorV1
namespace Go.Proofs.YtplabpjkkcillaaDoor
set_option linter.unusedSimpArgs false
set_option linter.unusedVariables false
set_option linter.unusedSectionVars false
set_option maxHeartbeats 4000000
open Go Go.RowKit
variable {T0 : Gh}
set_option maxRecDepth 100000
theorem el_u8 : El Tryd.prog u8T 5 0 1 UB := ⟨⟨.int .u8 0, by kernel_rfl, rfl⟩, by decide, fun x v hv => by simp [u8T] at hv; subst hv; rfl, .inr ⟨agg_no (by kernel_rfl), rfl, fun x v h => by simp [u8T] at h; rw [← h]⟩⟩
instance cElU : ElC 5 u8T 0 1 UB := ⟨el_u8⟩
instance cUnU : UnC 72 (.slice 5) := ⟨Tryd.underlying72⟩
section
variable {T0 : Gh} {N : Fz} {Q : Post} {fr : Fr} {M M' : List Own} {ops : Array Oper} {o : Oper} {rest : List Oper} {x0 : Nat}
theorem ub_of {n : Int} (h0 : 0 ≤ n) (h1 : n < 256) : (vA (.int .u8 n) : AV) = UB (UInt8.ofNat n.toNat) := by
  have : ((UInt8.ofNat n.toNat).toNat : Int) = n := by simp; omega
  rw [UB, this]
/-- some bytes are made a list -/
theorem bs_u1 {t : TypeId} {x : Operand} {a : Int} (ho : o.op = .buildSlice t 1 #[(0, x)]) (hu : Tryd.prog.underlying t = some (.slice 5)) (hx : Opd T0 fr x (vA (.int .u8 a))) (h0 : 0 ≤ a ∧ a < 256) : AY Tryd.prog T0 ops o fr M (slA u8T [UInt8.ofNat a.toNat]) := by
  rw [ub_of h0.1 h0.2] at hx
  exact AY.sub (ay_buildSlice (T := u8T) [_] ho hu el_u8 rfl (by decide) ⟨_, pk hx (ca_v rfl) rfl (.here sc_0) pa_nil, rfl⟩) sub_slc
theorem bs_u2 {t : TypeId} {x y : Operand} {a b : Int} (ho : o.op = .buildSlice t 2 #[(0, x), (1, y)]) (hu : Tryd.prog.underlying t = some (.slice 5)) (hx : Opd T0 fr x (vA (.int .u8 a))) (hy : Opd T0 fr y (vA (.int .u8 b))) (h0 : (0 ≤ a ∧ a < 256) ∧ 0 ≤ b ∧ b < 256) : AY Tryd.prog T0 ops o fr M (slA u8T [UInt8.ofNat a.toNat, UInt8.ofNat b.toNat]) := by
  rw [ub_of h0.1.1 h0.1.2] at hx
  rw [ub_of h0.2.1 h0.2.2] at hy
  exact AY.sub (ay_buildSlice (T := u8T) [_, _] ho hu el_u8 rfl (by decide) ⟨_, pk hx (ca_v rfl) rfl (.here sc_0) (pk hy (ca_v rfl) rfl (.next (.here sc_0)) pa_nil), rfl⟩) sub_slc
theorem bs_u3 {t : TypeId} {x y z : Operand} {a b c : Int} (ho : o.op = .buildSlice t 3 #[(0, x), (1, y), (2, z)]) (hu : Tryd.prog.underlying t = some (.slice 5)) (hx : Opd T0 fr x (vA (.int .u8 a))) (hy : Opd T0 fr y (vA (.int .u8 b))) (hz : Opd T0 fr z (vA (.int .u8 c))) (h0 : (0 ≤ a ∧ a < 256) ∧ (0 ≤ b ∧ b < 256) ∧ 0 ≤ c ∧ c < 256) : AY Tryd.prog T0 ops o fr M (slA u8T [UInt8.ofNat a.toNat, UInt8.ofNat b.toNat, UInt8.ofNat c.toNat]) := by
  rw [ub_of h0.1.1 h0.1.2] at hx
  rw [ub_of h0.2.1.1 h0.2.1.2] at hy
  rw [ub_of h0.2.2.1 h0.2.2.2] at hz
  exact AY.sub (ay_buildSlice (T := u8T) [_, _, _] ho hu el_u8 rfl (by decide) ⟨_, pk hx (ca_v rfl) rfl (.here sc_0) (pk hy (ca_v rfl) rfl (.next (.here sc_0)) (pk hz (ca_v rfl) rfl (.next (.next (.here sc_0))) pa_nil)), rfl⟩) sub_slc
theorem bs_u4 {t : TypeId} {x y z v : Operand} {a b c d : Int} (ho : o.op = .buildSlice t 4 #[(0, x), (1, y), (2, z), (3, v)]) (hu : Tryd.prog.underlying t = some (.slice 5)) (hx : Opd T0 fr x (vA (.int .u8 a))) (hy : Opd T0 fr y (vA (.int .u8 b))) (hz : Opd T0 fr z (vA (.int .u8 c))) (hv : Opd T0 fr v (vA (.int .u8 d))) (h0 : (0 ≤ a ∧ a < 256) ∧ (0 ≤ b ∧ b < 256) ∧ (0 ≤ c ∧ c < 256) ∧ 0 ≤ d ∧ d < 256) : AY Tryd.prog T0 ops o fr M (slA u8T [UInt8.ofNat a.toNat, UInt8.ofNat b.toNat, UInt8.ofNat c.toNat, UInt8.ofNat d.toNat]) := by
  rw [ub_of h0.1.1 h0.1.2] at hx
  rw [ub_of h0.2.1.1 h0.2.1.2] at hy
  rw [ub_of h0.2.2.1.1 h0.2.2.1.2] at hz
  rw [ub_of h0.2.2.2.1 h0.2.2.2.2] at hv
  exact AY.sub (ay_buildSlice (T := u8T) [_, _, _, _] ho hu el_u8 rfl (by decide) ⟨_, pk hx (ca_v rfl) rfl (.here sc_0) (pk hy (ca_v rfl) rfl (.next (.here sc_0)) (pk hz (ca_v rfl) rfl (.next (.next (.here sc_0))) (pk hv (ca_v rfl) rfl (.next (.next (.next (.here sc_0)))) pa_nil))), rfl⟩) sub_slc
end
attribute [local irreducible] thenA inBlockA AW AL AO QY varO rowO rsA Opd OpdN vA gvA tupA aggA slA slcA ipA rpA EqK LnK IxK LdK FaK FdK
def str2 (x : List UInt8 × Int) : AV := tupA [SA x.1, I x.2]
def putG (r : Int) : List UInt8 × Int := if isG r = true then (encB r, 0) else ([], 1)
theorem f_glyphPut (r : Int) : AP Tryd.prog T0 45 [R r] (str2 (putG r)) := by
  refine af_intro Tryd.func45 rfl (by decide) Tryd.ntmps45 rfl ?_
  repeat' (first
  | fail
  | refine s_y ?_
    | refine c_ ?_
    | (refine aw_if ?_ ?_ <;> intro hb <;> try (exfalso; first | assumption | omega | (simp only [or_self, and_self, not_true_eq_false, not_false_eq_true, or_false, false_or, and_false, false_and, true_and, and_true] at hb; first | done | omega)))
    | refine s_call ?_ (c := by first | exact f_glyphIs _ | exact c1 | exact f_ref01Is _ | fail)
    | refine s_op ?_ (hy := by first | (apply bs_u1 rfl un_; exact oo_; omega) | (apply bs_u2 rfl un_; exact oo_; exact oo_; omega) | (apply bs_u3 rfl un_; exact oo_; exact oo_; exact oo_; omega) | (apply bs_u4 rfl un_; exact oo_; exact oo_; exact oo_; exact oo_; omega) | fail)
    | refine s_yg ?_
    | refine s_callg ?_ (c := by intro hk hk2; first | exact f_glyphIs _ | exact c1 | exact f_ref01Is _ | fail)
    | refine s_opg ?_ (hy := by intro hk hk2; first | (apply bs_u1 rfl un_; exact oo_; omega) | (apply bs_u2 rfl un_; exact oo_; exact oo_; omega) | (apply bs_u3 rfl un_; exact oo_; exact oo_; exact oo_; omega) | (apply bs_u4 rfl un_; exact oo_; exact oo_; exact oo_; exact oo_; omega) | fail)
    | refine s_skip ?_
    | ((first | refine w_alloc ?_ | refine w_box ?_) <;> intro bb)
    | ((first | refine w_emp ?_ | refine w_make ?_ | refine w_app ?_) <;> intro u hu1 hu2)
    | refine w_stv ?_ | refine w_str ?_ | refine w_cpr ?_ | refine w_cps ?_
    | refine al_last (by kernel_rfl) ?_
  | fail)
  · exact ⟨_, [], rs_, List.nil_sublist _, Sub.eq (by rw [putG, if_neg (by rw [hb]; decide)]; rfl), rfl⟩
  · exact ⟨_, [], rs_, List.nil_sublist _, Sub.eq (by rw [putG, if_pos hb]; rfl), rfl⟩
theorem f_ref01Put (r : Int) : AP Tryd.prog T0 105 [R r] (str2 (putG r)) := by
  by_cases h : isG r = true
  · have h2 : 0 ≤ r ∧ r ≤ 1114111 := by simp [isG] at h; omega
    obtain ⟨n, rfl⟩ := Int.eq_ofNat_of_zero_le h2.1
    refine af_intro Tryd.func105 rfl (by decide) Tryd.ntmps105 rfl ?_
    repeat' (first
    | fail
    | refine s_y ?_
      | refine c_ ?_
      | (refine aw_if ?_ ?_ <;> intro hb <;> try (exfalso; first | assumption | omega | (simp only [or_self, and_self, not_true_eq_false, not_false_eq_true, or_false, false_or, and_false, false_and, true_and, and_true] at hb; first | done | omega)))
      | refine s_call ?_ (c := by first | exact f_glyphIs _ | exact c1 | exact f_ref01Is _ | fail)
      | refine s_op ?_ (hy := by first | (apply bs_u1 rfl un_; exact oo_; omega) | (apply bs_u2 rfl un_; exact oo_; exact oo_; omega) | (apply bs_u3 rfl un_; exact oo_; exact oo_; exact oo_; omega) | (apply bs_u4 rfl un_; exact oo_; exact oo_; exact oo_; exact oo_; omega) | fail)
      | refine s_yg ?_
      | refine s_callg ?_ (c := by intro hk hk2; first | exact f_glyphIs _ | exact c1 | exact f_ref01Is _ | fail)
      | refine s_opg ?_ (hy := by intro hk hk2; first | (apply bs_u1 rfl un_; exact oo_; omega) | (apply bs_u2 rfl un_; exact oo_; exact oo_; omega) | (apply bs_u3 rfl un_; exact oo_; exact oo_; exact oo_; omega) | (apply bs_u4 rfl un_; exact oo_; exact oo_; exact oo_; exact oo_; omega) | fail)
      | refine s_skip ?_
      | ((first | refine w_alloc ?_ | refine w_box ?_) <;> intro bb)
      | ((first | refine w_emp ?_ | refine w_make ?_ | refine w_app ?_) <;> intro u hu1 hu2)
      | refine w_stv ?_ | refine w_str ?_ | refine w_cpr ?_ | refine w_cps ?_
      | refine al_last (by kernel_rfl) ?_
    | fail)
    all_goals first | (exfalso; rw [h] at hb; cases hb) | skip
    all_goals refine ⟨_, [], rs_, List.nil_sublist _, Sub.eq ?_, rfl⟩
    all_goals simp only [putG, if_pos h, str2, encB_eq h, encC, Int.toNat_natCast]
    all_goals (repeat (first | rw [if_pos (by omega)] | rw [if_neg (by omega)]))
  · have h' : isG r = false := by simpa using h
    have c1 : AP Tryd.prog T0 114 [R r] (B false) := h' ▸ f_ref01Is r
    refine af_intro Tryd.func105 rfl (by decide) Tryd.ntmps105 rfl ?_
    repeat' (first
    | fail
    | refine s_y ?_
      | refine c_ ?_
      | (refine aw_if ?_ ?_ <;> intro hb <;> try (exfalso; first | assumption | omega | (simp only [or_self, and_self, not_true_eq_false, not_false_eq_true, or_false, false_or, and_false, false_and, true_and, and_true] at hb; first | done | omega)))
      | refine s_call ?_ (c := by first | exact f_glyphIs _ | exact c1 | exact f_ref01Is _ | fail)
      | refine s_op ?_ (hy := by first | (apply bs_u1 rfl un_; exact oo_; omega) | (apply bs_u2 rfl un_; exact oo_; exact oo_; omega) | (apply bs_u3 rfl un_; exact oo_; exact oo_; exact oo_; omega) | (apply bs_u4 rfl un_; exact oo_; exact oo_; exact oo_; exact oo_; omega) | fail)
      | refine s_yg ?_
      | refine s_callg ?_ (c := by intro hk hk2; first | exact f_glyphIs _ | exact c1 | exact f_ref01Is _ | fail)
      | refine s_opg ?_ (hy := by intro hk hk2; first | (apply bs_u1 rfl un_; exact oo_; omega) | (apply bs_u2 rfl un_; exact oo_; exact oo_; omega) | (apply bs_u3 rfl un_; exact oo_; exact oo_; exact oo_; omega) | (apply bs_u4 rfl un_; exact oo_; exact oo_; exact oo_; exact oo_; omega) | fail)
      | refine s_skip ?_
      | ((first | refine w_alloc ?_ | refine w_box ?_) <;> intro bb)
      | ((first | refine w_emp ?_ | refine w_make ?_ | refine w_app ?_) <;> intro u hu1 hu2)
      | refine w_stv ?_ | refine w_str ?_ | refine w_cpr ?_ | refine w_cps ?_
      | refine al_last (by kernel_rfl) ?_
    | fail)
    exact ⟨_, [], rs_, List.nil_sublist _, Sub.eq (by rw [putG, if_neg h]; rfl), rfl⟩
theorem f_ref05Is (c : Cmd) : AP Tryd.prog T0 63 [cmdA c] (B (isCmd c)) := by
  obtain ⟨k, a, b, r⟩ := c
  show AP Tryd.prog T0 _ [aggA [I k, I a, I b, R r]] _
  refine af_intro Tryd.func63 rfl (by decide) Tryd.ntmps63 rfl ?_
  repeat' (first
  | fail
  | refine s_y ?_
    | refine c_ ?_
    | (refine aw_if ?_ ?_ <;> intro hb <;> try (exfalso; first | assumption | omega | (simp only [or_self, and_self, not_true_eq_false, not_false_eq_true, or_false, false_or, and_false, false_and, true_and, and_true] at hb; first | done | omega)))
    | refine s_call ?_ (c := by first | exact f_Shown _ | exact f_ref02Shown _ | fail)
    | refine s_op ?_ (hy := by first | (apply bs_u1 rfl un_; exact oo_; omega) | (apply bs_u2 rfl un_; exact oo_; exact oo_; omega) | (apply bs_u3 rfl un_; exact oo_; exact oo_; exact oo_; omega) | (apply bs_u4 rfl un_; exact oo_; exact oo_; exact oo_; exact oo_; omega) | fail)
    | refine s_yg ?_
    | refine s_callg ?_ (c := by intro hk hk2; first | exact f_Shown _ | exact f_ref02Shown _ | fail)
    | refine s_opg ?_ (hy := by intro hk hk2; first | (apply bs_u1 rfl un_; exact oo_; omega) | (apply bs_u2 rfl un_; exact oo_; exact oo_; omega) | (apply bs_u3 rfl un_; exact oo_; exact oo_; exact oo_; omega) | (apply bs_u4 rfl un_; exact oo_; exact oo_; exact oo_; exact oo_; omega) | fail)
    | refine s_skip ?_
    | ((first | refine w_alloc ?_ | refine w_box ?_) <;> intro bb)
    | ((first | refine w_emp ?_ | refine w_make ?_ | refine w_app ?_) <;> intro u hu1 hu2)
    | refine w_stv ?_ | refine w_str ?_ | refine w_cpr ?_ | refine w_cps ?_
    | refine al_last (by kernel_rfl) ?_
  | fail)
  all_goals refine ⟨_, [], rs_, List.nil_sublist _, Sub.eq (congrArg B ?_), rfl⟩
  all_goals simp only [isCmd]
  all_goals (cases hs : shown r <;> simp [*] <;> (try rw [if_neg (by omega)]) <;> (try (rw [Bool.eq_iff_iff]; simp <;> omega)))
theorem f_vtIs (c : Cmd) : AP Tryd.prog T0 44 [cmdA c] (B (isCmd c)) := by
  obtain ⟨k, a, b, r⟩ := c
  show AP Tryd.prog T0 _ [aggA [I k, I a, I b, R r]] _
  refine af_intro Tryd.func44 rfl (by decide) Tryd.ntmps44 rfl ?_
  repeat' (first
  | fail
  | (apply aw_regionN; (case hn => rfl); (case hm => kernel_rfl))
    | refine an_end ?_ (by rfl)
    | (apply an_all; (case hL => rfl); (case hne => rfl))
    | exact ai_nil
    | apply ai_cons
    | (apply at_i; (case ho => rfl))
    | (apply j_first; exact ext1_)
    | (apply j_next; (case h => exact ext_); (case hk => exact wk_); (case hc => rfl))
  | refine s_y ?_
    | refine c_ ?_
    | (refine aw_if ?_ ?_ <;> intro hb <;> try (exfalso; first | assumption | omega | (simp only [or_self, and_self, not_true_eq_false, not_false_eq_true, or_false, false_or, and_false, false_and, true_and, and_true] at hb; first | done | omega)))
    | refine s_call ?_ (c := by first | exact f_Shown _ | exact f_ref02Shown _ | fail)
    | refine s_op ?_ (hy := by first | (apply bs_u1 rfl un_; exact oo_; omega) | (apply bs_u2 rfl un_; exact oo_; exact oo_; omega) | (apply bs_u3 rfl un_; exact oo_; exact oo_; exact oo_; omega) | (apply bs_u4 rfl un_; exact oo_; exact oo_; exact oo_; exact oo_; omega) | fail)
    | refine s_yg ?_
    | refine s_callg ?_ (c := by intro hk hk2; first | exact f_Shown _ | exact f_ref02Shown _ | fail)
    | refine s_opg ?_ (hy := by intro hk hk2; first | (apply bs_u1 rfl un_; exact oo_; omega) | (apply bs_u2 rfl un_; exact oo_; exact oo_; omega) | (apply bs_u3 rfl un_; exact oo_; exact oo_; exact oo_; omega) | (apply bs_u4 rfl un_; exact oo_; exact oo_; exact oo_; exact oo_; omega) | fail)
    | refine s_skip ?_
    | ((first | refine w_alloc ?_ | refine w_box ?_) <;> intro bb)
    | ((first | refine w_emp ?_ | refine w_make ?_ | refine w_app ?_) <;> intro u hu1 hu2)
    | refine w_stv ?_ | refine w_str ?_ | refine w_cpr ?_ | refine w_cps ?_
    | refine al_last (by kernel_rfl) ?_
  | fail)
  all_goals refine ⟨_, [], rs_, List.nil_sublist _, Sub.eq (congrArg B ?_), rfl⟩
  all_goals simp only [isCmd]
  all_goals (cases hs : shown r <;> simp [*] <;> (try rw [if_neg (by omega)]) <;> (try (rw [Bool.eq_iff_iff]; simp <;> omega)))
theorem f_small (n : Nat) (h : n < 100) : AP Tryd.prog T0 119 [I n] (SA (digB n)) := by
  refine af_intro Tryd.func119 rfl (by decide) Tryd.ntmps119 rfl ?_
  repeat' (first
  | fail
  | refine s_y ?_
    | refine c_ ?_
    | (refine aw_if ?_ ?_ <;> intro hb <;> try (exfalso; first | assumption | omega | (simp only [or_self, and_self, not_true_eq_false, not_false_eq_true, or_false, false_or, and_false, false_and, true_and, and_true] at hb; first | done | omega)))
    | refine s_call ?_ (c := by first | fail | fail)
    | refine s_op ?_ (hy := by first | (apply ay_cut_str rfl un_; exact oo_; exact lo_; exact hi_; exact le_; (show _ ≤ 200; omega)) | fail)
    | refine s_yg ?_
    | refine s_callg ?_ (c := by intro hk hk2; first | fail | fail)
    | refine s_opg ?_ (hy := by intro hk hk2; first | (apply ay_cut_str rfl un_; exact oo_; exact lo_; exact hi_; exact le_; (show _ ≤ 200; omega)) | fail)
    | refine s_skip ?_
    | ((first | refine w_alloc ?_ | refine w_box ?_) <;> intro bb)
    | ((first | refine w_emp ?_ | refine w_make ?_ | refine w_app ?_) <;> intro u hu1 hu2)
    | refine w_stv ?_ | refine w_str ?_ | refine w_cpr ?_ | refine w_cps ?_
    | refine al_last (by kernel_rfl) ?_
  | fail)
  · refine ⟨_, [], rs_, List.nil_sublist _, Sub.eq (congrArg (fun l : List UInt8 => SA l) ?_), rfl⟩
    have hb2 : n < 10 := by omega
    clear hb h
    revert hb2; revert n; decide +kernel
  · refine ⟨_, [], rs_, List.nil_sublist _, Sub.eq (congrArg (fun l : List UInt8 => SA l) ?_), rfl⟩
    have hb2 : ¬ n < 10 := by omega
    clear hb
    revert hb2; revert h; revert n; decide +kernel
theorem f_FormatInt (n : Nat) (h : n < 100) : AP Tryd.prog T0 110 [I n, I 10] (SA (digB n)) := by
  have c1 := f_small (T0 := T0) n h
  refine af_intro Tryd.func110 rfl (by decide) Tryd.ntmps110 rfl ?_
  repeat' (first
  | fail
  | refine s_y ?_
    | refine c_ ?_
    | (refine aw_if ?_ ?_ <;> intro hb <;> try (exfalso; first | assumption | omega | (simp only [or_self, and_self, not_true_eq_false, not_false_eq_true, or_false, false_or, and_false, false_and, true_and, and_true] at hb; first | done | omega)))
    | refine s_call ?_ (c := by first | exact c1 | fail)
    | refine s_op ?_ (hy := by first | fail | fail)
    | refine s_yg ?_
    | refine s_callg ?_ (c := by intro hk hk2; first | exact c1 | fail)
    | refine s_opg ?_ (hy := by intro hk hk2; first | fail | fail)
    | refine s_skip ?_
    | ((first | refine w_alloc ?_ | refine w_box ?_) <;> intro bb)
    | ((first | refine w_emp ?_ | refine w_make ?_ | refine w_app ?_) <;> intro u hu1 hu2)
    | refine w_stv ?_ | refine w_str ?_ | refine w_cpr ?_ | refine w_cps ?_
    | refine al_last (by kernel_rfl) ?_
  | fail)
  exact ⟨_, [], rs_, List.nil_sublist _, Sub.refl _, rfl⟩
theorem f_Itoa1 (n : Nat) (h : n < 100) : AP Tryd.prog T0 86 [I n] (SA (digB n)) := by
  have c1 := f_FormatInt (T0 := T0) n h
  refine af_intro Tryd.func86 rfl (by decide) Tryd.ntmps86 rfl ?_
  repeat' (first
  | fail
  | refine s_y ?_
    | refine c_ ?_
    | (refine aw_if ?_ ?_ <;> intro hb <;> try (exfalso; first | assumption | omega | (simp only [or_self, and_self, not_true_eq_false, not_false_eq_true, or_false, false_or, and_false, false_and, true_and, and_true] at hb; first | done | omega)))
    | refine s_call ?_ (c := by first | exact c1 | fail)
    | refine s_op ?_ (hy := by first | fail | fail)
    | refine s_yg ?_
    | refine s_callg ?_ (c := by intro hk hk2; first | exact c1 | fail)
    | refine s_opg ?_ (hy := by intro hk hk2; first | fail | fail)
    | refine s_skip ?_
    | ((first | refine w_alloc ?_ | refine w_box ?_) <;> intro bb)
    | ((first | refine w_emp ?_ | refine w_make ?_ | refine w_app ?_) <;> intro u hu1 hu2)
    | refine w_stv ?_ | refine w_str ?_ | refine w_cpr ?_ | refine w_cps ?_
    | refine al_last (by kernel_rfl) ?_
  | fail)
  exact ⟨_, [], rs_, List.nil_sublist _, Sub.refl _, rfl⟩
theorem f_Itoa (n : Nat) (h : n < 100) : AP Tryd.prog T0 46 [I n] (SA (digB n)) := by
  have c1 := f_Itoa1 (T0 := T0) n h
  refine af_intro Tryd.func46 rfl (by decide) Tryd.ntmps46 rfl ?_
  repeat' (first
  | fail
  | refine s_y ?_
    | refine c_ ?_
    | (refine aw_if ?_ ?_ <;> intro hb <;> try (exfalso; first | assumption | omega | (simp only [or_self, and_self, not_true_eq_false, not_false_eq_true, or_false, false_or, and_false, false_and, true_and, and_true] at hb; first | done | omega)))
    | refine s_call ?_ (c := by first | exact c1 | fail)
    | refine s_op ?_ (hy := by first | fail | fail)
    | refine s_yg ?_
    | refine s_callg ?_ (c := by intro hk hk2; first | exact c1 | fail)
    | refine s_opg ?_ (hy := by intro hk hk2; first | fail | fail)
    | refine s_skip ?_
    | ((first | refine w_alloc ?_ | refine w_box ?_) <;> intro bb)
    | ((first | refine w_emp ?_ | refine w_make ?_ | refine w_app ?_) <;> intro u hu1 hu2)
    | refine w_stv ?_ | refine w_str ?_ | refine w_cpr ?_ | refine w_cps ?_
    | refine al_last (by kernel_rfl) ?_
  | fail)
  exact ⟨_, [], rs_, List.nil_sublist _, Sub.refl _, rfl⟩
theorem f_digits (n : Nat) (h : n < 100) : AP Tryd.prog T0 106 [I n] (SA (digB n)) := by
  have c1 : True := trivial
  refine af_intro Tryd.func106 rfl (by decide) Tryd.ntmps106 rfl ?_
  repeat' (first
  | fail
  | refine s_y ?_
    | refine c_ ?_
    | (refine aw_if ?_ ?_ <;> intro hb <;> try (exfalso; first | assumption | omega | (simp only [or_self, and_self, not_true_eq_false, not_false_eq_true, or_false, false_or, and_false, false_and, true_and, and_true] at hb; first | done | omega)))
    | refine s_call ?_ (c := by first | exact c1 | fail)
    | refine s_op ?_ (hy := by first | (apply bs_u1 rfl un_; exact oo_; omega) | (apply bs_u2 rfl un_; exact oo_; exact oo_; omega) | fail)
    | refine s_yg ?_
    | refine s_callg ?_ (c := by intro hk hk2; first | exact c1 | fail)
    | refine s_opg ?_ (hy := by intro hk hk2; first | (apply bs_u1 rfl un_; exact oo_; omega) | (apply bs_u2 rfl un_; exact oo_; exact oo_; omega) | fail)
    | refine s_skip ?_
    | ((first | refine w_alloc ?_ | refine w_box ?_) <;> intro bb)
    | ((first | refine w_emp ?_ | refine w_make ?_ | refine w_app ?_) <;> intro u hu1 hu2)
    | refine w_stv ?_ | refine w_str ?_ | refine w_cpr ?_ | refine w_cps ?_
    | refine al_last (by kernel_rfl) ?_
  | fail)
  all_goals refine ⟨_, [], rs_, List.nil_sublist _, Sub.eq ?_, rfl⟩
  all_goals simp only [digB, Int.toNat_natCast]
  all_goals (repeat (first | rw [if_pos (by omega)] | rw [if_neg (by omega)]))
end Go.Proofs.YtplabpjkkcillaaDoor
