/- Layer 5 (vt): rows of one command, and when two rows of commands are the same. No condition. -/
import Derived.Test.YtplabpjkkcillaaDoorV4
import Derived.Test.YtplabpjkkcillaaDoorAX
namespace Go.Proofs.YtplabpjkkcillaaDoor
set_option linter.unusedSimpArgs false
set_option linter.unusedVariables false
set_option linter.unusedSectionVars false
set_option maxHeartbeats 4000000
open Go Go.RowKit
variable {T0 : Gh}
set_option maxRecDepth 100000
section
variable {T0 : Gh} {N : Fz} {Q : Post} {fr : Fr} {M M' : List Own} {ops : Array Oper} {o : Oper} {rest : List Oper} {x0 : Nat}
theorem bs_cmdA {t : TypeId} {x : Operand} {c : Cmd} (ho : o.op = .buildSlice t 1 #[(0, x)]) (hu : Tryd.prog.underlying t = some (.slice 23)) (hx : Opd T0 fr x (cmdA c)) : AY Tryd.prog T0 ops o fr M (slA cmdT [c]) := by
  obtain ⟨k, a, b, r⟩ := c
  exact AY.sub (ay_buildSlice (T := cmdT) [(k, a, b, r)] ho hu el_cmd rfl (by decide) ⟨_, pk hx ca_agg rfl (.here (.here (.here (.here sc_0)))) pa_nil, rfl⟩) sub_slc
end
attribute [local irreducible] thenA inBlockA AW AL AO QY varO rowO rsA Opd OpdN vA gvA tupA aggA slA slcA ipA rpA EqK LnK IxK LdK FaK FdK
theorem eq_take_succ {l m : List Cmd} {k : Nat} (h1 : k < l.length) (h2 : k < m.length) : l.take (k + 1) = m.take (k + 1) ↔ l.take k = m.take k ∧ l[k] = m[k] := by
  rw [List.take_succ_eq_append_getElem h1, List.take_succ_eq_append_getElem h2]
  constructor
  · intro h
    have := List.append_inj h (by simp; omega)
    exact ⟨this.1, by simpa using this.2⟩
  · rintro ⟨a, b⟩; rw [a, b]
theorem f_ref05Same (l m : List Cmd) (hl : l.length ≤ 90000) (hm : m.length ≤ 90000) : AP Tryd.prog T0 21 [slA cmdT l, slA cmdT m] (B (decide (l = m))) := by
  refine af_intro Tryd.func21 rfl (by decide) Tryd.ntmps21 rfl ?_
  repeat' (first
  | fail
  | refine s_y ?_
    | refine c_ ?_
    | (refine aw_if ?_ ?_ <;> intro hb <;> try (exfalso; first | assumption | omega | (simp only [or_self, and_self, not_true_eq_false, not_false_eq_true, or_false, false_or, and_false, false_and, true_and, and_true] at hb; first | done | omega)))
    | refine s_call ?_ (c := by first | fail | fail)
    | refine s_op ?_ (hy := by first | fail | fail)
    | refine s_yg ?_
    | refine s_callg ?_ (c := by intro hk hk2; first | fail | fail)
    | refine s_opg ?_ (hy := by intro hk hk2; first | fail | fail)
    | refine s_skip ?_
    | ((first | refine w_alloc ?_ | refine w_box ?_) <;> intro bb)
    | ((first | refine w_emp ?_ | refine w_make ?_ | refine w_app ?_) <;> intro u hu1 hu2)
    | refine w_stv ?_ | refine w_str ?_ | refine w_cpr ?_ | refine w_cps ?_
    | refine al_last (by kernel_rfl) ?_
  | fail)
  · refine ⟨_, [], rs_, List.nil_sublist _, Sub.eq (congrArg B (decide_eq_false ?_).symm), rfl⟩
    rintro rfl; omega
  have hlm : l.length = m.length := by omega
  refine aw_lf (fun k : Nat => [(5, I k)]) (fun k => k ≤ l.length ∧ l.take k = m.take k) (fun k => l.length - k) 0 ⟨Nat.zero_le _, rfl⟩ ?_
  rintro k ⟨i1, i2⟩
  by_cases hlt : k < l.length
  · have hlt2 : k < m.length := by omega
    have he := eq_take_succ hlt hlt2
    repeat' (first
    | fail
    | refine s_y ?_
      | refine c_ ?_
      | (refine aw_if ?_ ?_ <;> intro hb <;> try (exfalso; first | assumption | omega | (simp only [or_self, and_self, not_true_eq_false, not_false_eq_true, or_false, false_or, and_false, false_and, true_and, and_true] at hb; first | done | omega)))
      | refine s_call ?_ (c := by first | fail | fail)
      | refine s_op ?_ (hy := by first | fail | fail)
      | refine s_yg ?_
      | refine s_callg ?_ (c := by intro hk hk2; first | fail | fail)
      | refine s_opg ?_ (hy := by intro hk hk2; first | fail | fail)
      | refine s_skip ?_
      | ((first | refine w_alloc ?_ | refine w_box ?_) <;> intro bb)
      | ((first | refine w_emp ?_ | refine w_make ?_ | refine w_app ?_) <;> intro u hu1 hu2)
      | refine w_stv ?_ | refine w_str ?_ | refine w_cpr ?_ | refine w_cps ?_
      | refine al_last (by kernel_rfl) ?_
    | fail)
    · refine ⟨_, [], rs_, List.nil_sublist _, Sub.eq (congrArg B (decide_eq_false ?_).symm), rfl⟩
      rintro rfl; exact hb rfl
    · exact ⟨k + 1, ⟨by omega, he.2 ⟨i2, hb⟩⟩, by omega, wx_, sl_⟩
  · rw [List.take_of_length_le (by omega), List.take_of_length_le (by omega)] at i2
    repeat' (first
    | fail
    | refine s_y ?_
      | refine c_ ?_
      | (refine aw_if ?_ ?_ <;> intro hb <;> try (exfalso; first | assumption | omega | (simp only [or_self, and_self, not_true_eq_false, not_false_eq_true, or_false, false_or, and_false, false_and, true_and, and_true] at hb; first | done | omega)))
      | refine s_call ?_ (c := by first | fail | fail)
      | refine s_op ?_ (hy := by first | fail | fail)
      | refine s_yg ?_
      | refine s_callg ?_ (c := by intro hk hk2; first | fail | fail)
      | refine s_opg ?_ (hy := by intro hk hk2; first | fail | fail)
      | refine s_skip ?_
      | ((first | refine w_alloc ?_ | refine w_box ?_) <;> intro bb)
      | ((first | refine w_emp ?_ | refine w_make ?_ | refine w_app ?_) <;> intro u hu1 hu2)
      | refine w_stv ?_ | refine w_str ?_ | refine w_cpr ?_ | refine w_cps ?_
      | refine al_last (by kernel_rfl) ?_
    | fail)
    exact ⟨_, [], rs_, List.nil_sublist _, Sub.eq (congrArg B (decide_eq_true i2).symm), rfl⟩
end Go.Proofs.YtplabpjkkcillaaDoor
