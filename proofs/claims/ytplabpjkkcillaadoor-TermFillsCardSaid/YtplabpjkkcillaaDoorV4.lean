/- Layer 5 (vt): costs and waits; the example; the law of Put. No condition. -/
import Derived.Test.YtplabpjkkcillaaDoorV3
namespace Go.Proofs.YtplabpjkkcillaaDoor
set_option linter.unusedSimpArgs false
set_option linter.unusedVariables false
set_option linter.unusedSectionVars false
set_option maxHeartbeats 4000000
open Go Go.RowKit
variable {T0 : Gh}
set_option maxRecDepth 100000
def lenC (c : Cmd) : Nat := (putR' c).1.length
def costM (l : List Cmd) : Nat := (l.map lenC).sum
def padC (c : Cmd) : Nat := if isCmd c = true then (if c.1 = 7 then 1 else if c.1 = 8 then 2 else 0) else 0
def padsM (l : List Cmd) : Nat := (l.map padC).sum
theorem lenC_le (c : Cmd) : lenC c ≤ 8 := by
  unfold lenC putR'
  split
  · rename_i h; exact (bytesB_len h).2
  · exact Nat.zero_le _
theorem padC_le (c : Cmd) : padC c ≤ 2 := by unfold padC; (repeat' split) <;> omega
theorem costM_le (l : List Cmd) : costM l ≤ 8 * l.length := by
  induction l with
  | nil => simp [costM]
  | cons c l ih => have := lenC_le c; simp only [costM, List.map_cons, List.sum_cons, List.length_cons] at ih ⊢; omega
theorem padsM_le (l : List Cmd) : padsM l ≤ 2 * l.length := by
  induction l with
  | nil => simp [padsM]
  | cons c l ih => have := padC_le c; simp only [padsM, List.map_cons, List.sum_cons, List.length_cons] at ih ⊢; omega
theorem costM_snoc (l : List Cmd) (k : Nat) (h : k < l.length) : costM (l.take (k + 1)) = costM (l.take k) + lenC l[k] := by
  rw [costM, costM, List.take_succ_eq_append_getElem h, List.map_append, List.sum_append]; simp
theorem padsM_snoc (l : List Cmd) (k : Nat) (h : k < l.length) : padsM (l.take (k + 1)) = padsM (l.take k) + padC l[k] := by
  rw [padsM, padsM, List.take_succ_eq_append_getElem h, List.map_append, List.sum_append]; simp
attribute [local irreducible] thenA inBlockA AW AL AO QY varO rowO rsA Opd OpdN vA gvA tupA aggA slA slcA ipA rpA EqK LnK IxK LdK FaK FdK
theorem f_vtCost (l : List Cmd) (hl : l.length ≤ 100000) : AP Tryd.prog T0 23 [slA cmdT l] (I (costM l)) := by
  refine af_intro Tryd.func23 rfl (by decide) Tryd.ntmps23 rfl ?_
  repeat' (first
  | fail
  | refine s_y ?_
    | refine c_ ?_
    | (refine aw_if ?_ ?_ <;> intro hb <;> try (exfalso; first | assumption | omega | (simp only [or_self, and_self, not_true_eq_false, not_false_eq_true, or_false, false_or, and_false, false_and, true_and, and_true] at hb; first | done | omega)))
    | refine s_call ?_ (c := by first | exact f_vtPut _ | exact f_ref05Put _ | exact f_vtIs _ | exact f_ref05Is _ | fail)
    | refine s_op ?_ (hy := by first | fail | fail)
    | refine s_yg ?_
    | refine s_callg ?_ (c := by intro hk hk2; first | exact f_vtPut _ | exact f_ref05Put _ | exact f_vtIs _ | exact f_ref05Is _ | fail)
    | refine s_opg ?_ (hy := by intro hk hk2; first | fail | fail)
    | refine s_skip ?_
    | ((first | refine w_alloc ?_ | refine w_box ?_) <;> intro bb)
    | ((first | refine w_emp ?_ | refine w_make ?_ | refine w_app ?_) <;> intro u hu1 hu2)
    | refine w_stv ?_ | refine w_str ?_ | refine w_cpr ?_ | refine w_cps ?_
    | refine al_last (by kernel_rfl) ?_
  | fail)
  refine aw_lf (fun k : Nat => [(3, I (costM (l.take k))), (10, I k)]) (fun k => k ≤ l.length) (fun k => l.length - k) 0 (Nat.zero_le _) ?_
  rintro k i1
  have hle := costM_le (l.take k)
  rw [List.length_take] at hle
  by_cases hlt : k < l.length
  · have hn := costM_snoc l k hlt
    have h8 : (putR' l[k]).1.length ≤ 8 := lenC_le l[k]
    repeat' (first
    | fail
    | refine s_y ?_
      | refine c_ ?_
      | (refine aw_if ?_ ?_ <;> intro hb <;> try (exfalso; first | assumption | omega | (simp only [or_self, and_self, not_true_eq_false, not_false_eq_true, or_false, false_or, and_false, false_and, true_and, and_true] at hb; first | done | omega)))
      | refine s_call ?_ (c := by first | exact f_vtPut _ | exact f_ref05Put _ | exact f_vtIs _ | exact f_ref05Is _ | fail)
      | refine s_op ?_ (hy := by first | fail | fail)
      | refine s_yg ?_
      | refine s_callg ?_ (c := by intro hk hk2; first | exact f_vtPut _ | exact f_ref05Put _ | exact f_vtIs _ | exact f_ref05Is _ | fail)
      | refine s_opg ?_ (hy := by intro hk hk2; first | fail | fail)
      | refine s_skip ?_
      | ((first | refine w_alloc ?_ | refine w_box ?_) <;> intro bb)
      | ((first | refine w_emp ?_ | refine w_make ?_ | refine w_app ?_) <;> intro u hu1 hu2)
      | refine w_stv ?_ | refine w_str ?_ | refine w_cpr ?_ | refine w_cps ?_
      | refine al_last (by kernel_rfl) ?_
    | fail)
    exact ⟨k + 1, by omega, by omega, by rw [hn]; exact wx_, sl_⟩
  · repeat' (first
    | fail
    | refine s_y ?_
      | refine c_ ?_
      | (refine aw_if ?_ ?_ <;> intro hb <;> try (exfalso; first | assumption | omega | (simp only [or_self, and_self, not_true_eq_false, not_false_eq_true, or_false, false_or, and_false, false_and, true_and, and_true] at hb; first | done | omega)))
      | refine s_call ?_ (c := by first | exact f_vtPut _ | exact f_ref05Put _ | exact f_vtIs _ | exact f_ref05Is _ | fail)
      | refine s_op ?_ (hy := by first | fail | fail)
      | refine s_yg ?_
      | refine s_callg ?_ (c := by intro hk hk2; first | exact f_vtPut _ | exact f_ref05Put _ | exact f_vtIs _ | exact f_ref05Is _ | fail)
      | refine s_opg ?_ (hy := by intro hk hk2; first | fail | fail)
      | refine s_skip ?_
      | ((first | refine w_alloc ?_ | refine w_box ?_) <;> intro bb)
      | ((first | refine w_emp ?_ | refine w_make ?_ | refine w_app ?_) <;> intro u hu1 hu2)
      | refine w_stv ?_ | refine w_str ?_ | refine w_cpr ?_ | refine w_cps ?_
      | refine al_last (by kernel_rfl) ?_
    | fail)
    exact ⟨_, [], rs_, List.nil_sublist _, Sub.eq (by rw [List.take_of_length_le (by omega)]), rfl⟩
end Go.Proofs.YtplabpjkkcillaaDoor
