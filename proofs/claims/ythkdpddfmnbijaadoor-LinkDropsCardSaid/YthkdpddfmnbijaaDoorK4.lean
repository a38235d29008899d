/- Layer 9 (link): is a link right? Are two rows of commands, or two links the same? No condition. -/
import Derived.Test.YthkdpddfmnbijaaDoorK2
namespace Go.Proofs.YthkdpddfmnbijaaDoor
set_option linter.unusedSimpArgs false
set_option linter.unusedVariables false
set_option maxHeartbeats 4000000
open Go Go.RowKit
set_option maxRecDepth 100000
attribute [local irreducible] thenA inBlockA AW AL AO QY varO rowO rsA Opd OpdN vA gvA tupA aggA slA slcA ipA rpA EqK LnK IxK LdK FaK FdK
theorem f_linkIs (room : Int) (l : List Cmd) (sent pad : Int) (off : Bool) (hl : l.length ≤ 90000) : AP Tryd.prog tab0 31 [linkA room l sent pad off] (B (okL room l sent pad)) := by
  by_cases hr : 8 ≤ room ∧ room ≤ 48
  · have c1 : AP Tryd.prog tab0 27 [I room] (tupA [linkA room [] 0 0 false, I 0]) := (f_linkNew room).to (by rw [newL, if_pos hr])
    have b1 := costM_le l
    refine af_intro Tryd.func31 rfl (by decide) Tryd.ntmps31 rfl ?_
    repeat' (first
    | fail
    | refine s_y ?_
      | refine c_ ?_
      | (refine aw_if ?_ ?_ <;> intro hb <;> try (exfalso; first | assumption | omega | (simp only [or_self, and_self, not_true_eq_false, not_false_eq_true, or_false, false_or, and_false, false_and] at hb; done)))
      | refine s_call ?_ (c := by first | exact c1 | exact f_vtIs _ | exact f_ref05Is _ | exact f_vtCost _ gb_ | exact f_ref05Cost _ gb_ | fail)
      | refine s_op ?_ (hy := by first | (apply bs_cmdA rfl un_; exact oo_; done) | fail)
      | refine s_yg ?_
      | refine s_callg ?_ (c := by intro hk hk2; first | exact c1 | exact f_vtIs _ | exact f_ref05Is _ | exact f_vtCost _ gb_ | exact f_ref05Cost _ gb_ | fail)
      | refine s_opg ?_ (hy := by intro hk hk2; first | (apply bs_cmdA rfl un_; exact oo_; done) | fail)
      | refine s_skip ?_
      | ((first | refine w_alloc ?_ | refine w_box ?_) <;> intro bb)
      | ((first | refine w_emp ?_ | refine w_make ?_ | refine w_app ?_) <;> intro u hu1 hu2)
      | refine w_stv ?_ | refine w_str ?_ | refine w_cpr ?_ | refine w_cps ?_
      | refine al_last (by kernel_rfl) ?_
    | fail)
    · exact ⟨_, [], rs_, List.nil_sublist _, Sub.eq (congrArg B (okL_rng (by omega)).symm), rfl⟩
    refine aw_lf (fun k : Nat => [(33, I k)]) (fun k => k ≤ l.length ∧ (l.take k).all isCmd = true) (fun k => l.length - k) 0 ⟨Nat.zero_le _, rfl⟩ ?_
    rintro k ⟨i1, i2⟩
    by_cases hlt : k < l.length
    · have hn := all_snoc isCmd l k hlt
      repeat' (first
      | fail
      | refine s_y ?_
        | refine c_ ?_
        | (refine aw_if ?_ ?_ <;> intro hb <;> try (exfalso; first | assumption | omega | (simp only [or_self, and_self, not_true_eq_false, not_false_eq_true, or_false, false_or, and_false, false_and] at hb; done)))
        | refine s_call ?_ (c := by first | exact c1 | exact f_vtIs _ | exact f_ref05Is _ | exact f_vtCost _ gb_ | exact f_ref05Cost _ gb_ | fail)
        | refine s_op ?_ (hy := by first | (apply bs_cmdA rfl un_; exact oo_; done) | fail)
        | refine s_yg ?_
        | refine s_callg ?_ (c := by intro hk hk2; first | exact c1 | exact f_vtIs _ | exact f_ref05Is _ | exact f_vtCost _ gb_ | exact f_ref05Cost _ gb_ | fail)
        | refine s_opg ?_ (hy := by intro hk hk2; first | (apply bs_cmdA rfl un_; exact oo_; done) | fail)
        | refine s_skip ?_
        | ((first | refine w_alloc ?_ | refine w_box ?_) <;> intro bb)
        | ((first | refine w_emp ?_ | refine w_make ?_ | refine w_app ?_) <;> intro u hu1 hu2)
        | refine w_stv ?_ | refine w_str ?_ | refine w_cpr ?_ | refine w_cps ?_
        | refine al_last (by kernel_rfl) ?_
      | fail)
      · exact ⟨_, [], rs_, List.nil_sublist _, Sub.eq (congrArg B (okL_all (all_at hlt hb)).symm), rfl⟩
      · exact ⟨k + 1, ⟨by omega, by rw [hn, i2, hb]; rfl⟩, by omega, wx_, sl_⟩
    · rw [List.take_of_length_le (by omega)] at i2
      have b2 := fun h : 0 < l.length => costM_le [l[0]]
      rcases Nat.eq_zero_or_pos l.length with h0 | h0
      · repeat' (first
        | fail
        | refine s_y ?_
          | refine c_ ?_
          | (refine aw_if ?_ ?_ <;> intro hb <;> try (exfalso; first | assumption | omega | (simp only [or_self, and_self, not_true_eq_false, not_false_eq_true, or_false, false_or, and_false, false_and] at hb; done)))
          | refine s_call ?_ (c := by first | exact c1 | exact f_vtIs _ | exact f_ref05Is _ | exact f_vtCost _ gb_ | exact f_ref05Cost _ gb_ | fail)
          | refine s_op ?_ (hy := by first | (apply bs_cmdA rfl un_; exact oo_; done) | fail)
          | refine s_yg ?_
          | refine s_callg ?_ (c := by intro hk hk2; first | exact c1 | exact f_vtIs _ | exact f_ref05Is _ | exact f_vtCost _ gb_ | exact f_ref05Cost _ gb_ | fail)
          | refine s_opg ?_ (hy := by intro hk hk2; first | (apply bs_cmdA rfl un_; exact oo_; done) | fail)
          | refine s_skip ?_
          | ((first | refine w_alloc ?_ | refine w_box ?_) <;> intro bb)
          | ((first | refine w_emp ?_ | refine w_make ?_ | refine w_app ?_) <;> intro u hu1 hu2)
          | refine w_stv ?_ | refine w_str ?_ | refine w_cpr ?_ | refine w_cps ?_
          | refine al_last (by kernel_rfl) ?_
        | fail)
        refine ⟨_, [], rs_, List.nil_sublist _, Sub.eq (congrArg B ?_), rfl⟩
        obtain rfl : l = [] := List.eq_nil_of_length_eq_zero (by omega)
        rw [Bool.eq_iff_iff, okL_nil, decide_eq_true_eq]; omega
      · have b3 := b2 h0
        simp only [List.length_cons, List.length_nil] at b3
        repeat' (first
        | fail
        | refine s_y ?_
          | refine c_ ?_
          | (refine aw_if ?_ ?_ <;> intro hb <;> try (exfalso; first | assumption | omega | (simp only [or_self, and_self, not_true_eq_false, not_false_eq_true, or_false, false_or, and_false, false_and] at hb; done)))
          | refine s_call ?_ (c := by first | exact c1 | exact f_vtIs _ | exact f_ref05Is _ | exact f_vtCost _ gb_ | exact f_ref05Cost _ gb_ | fail)
          | refine s_op ?_ (hy := by first | (apply bs_cmdA rfl un_; exact oo_; done) | fail)
          | refine s_yg ?_
          | refine s_callg ?_ (c := by intro hk hk2; first | exact c1 | exact f_vtIs _ | exact f_ref05Is _ | exact f_vtCost _ gb_ | exact f_ref05Cost _ gb_ | fail)
          | refine s_opg ?_ (hy := by intro hk hk2; first | (apply bs_cmdA rfl un_; exact oo_; done) | fail)
          | refine s_skip ?_
          | ((first | refine w_alloc ?_ | refine w_box ?_) <;> intro bb)
          | ((first | refine w_emp ?_ | refine w_make ?_ | refine w_app ?_) <;> intro u hu1 hu2)
          | refine w_stv ?_ | refine w_str ?_ | refine w_cpr ?_ | refine w_cps ?_
          | refine al_last (by kernel_rfl) ?_
        | fail)
        refine ⟨_, [], rs_, List.nil_sublist _, Sub.eq (congrArg B ?_), rfl⟩
        cases l with
        | nil => simp at h0
        | cons c l =>
          rw [Bool.eq_iff_iff, okL_cons, i2]
          have e : (costM [(c :: l)[0]]) = lenC c := costM_one _
          simp only [Bool.and_eq_true, decide_eq_true_eq, e, true_and]
          omega
  · have c1 : AP Tryd.prog tab0 27 [I room] (tupA [linkA 0 [] 0 0 false, I 4]) := (f_linkNew room).to (by rw [newL, if_neg hr])
    refine af_intro Tryd.func31 rfl (by decide) Tryd.ntmps31 rfl ?_
    repeat' (first
    | fail
    | refine s_y ?_
      | refine c_ ?_
      | (refine aw_if ?_ ?_ <;> intro hb <;> try (exfalso; first | assumption | omega | (simp only [or_self, and_self, not_true_eq_false, not_false_eq_true, or_false, false_or, and_false, false_and] at hb; done)))
      | refine s_call ?_ (c := by first | exact c1 | exact f_vtIs _ | exact f_ref05Is _ | exact f_vtCost _ gb_ | exact f_ref05Cost _ gb_ | fail)
      | refine s_op ?_ (hy := by first | (apply bs_cmdA rfl un_; exact oo_; done) | fail)
      | refine s_yg ?_
      | refine s_callg ?_ (c := by intro hk hk2; first | exact c1 | exact f_vtIs _ | exact f_ref05Is _ | exact f_vtCost _ gb_ | exact f_ref05Cost _ gb_ | fail)
      | refine s_opg ?_ (hy := by intro hk hk2; first | (apply bs_cmdA rfl un_; exact oo_; done) | fail)
      | refine s_skip ?_
      | ((first | refine w_alloc ?_ | refine w_box ?_) <;> intro bb)
      | ((first | refine w_emp ?_ | refine w_make ?_ | refine w_app ?_) <;> intro u hu1 hu2)
      | refine w_stv ?_ | refine w_str ?_ | refine w_cpr ?_ | refine w_cps ?_
      | refine al_last (by kernel_rfl) ?_
    | fail)
    exact ⟨_, [], rs_, List.nil_sublist _, Sub.eq (congrArg B (okL_rng (by omega)).symm), rfl⟩
theorem f_ref09Is (room : Int) (l : List Cmd) (sent pad : Int) (off : Bool) (hl : l.length ≤ 90000) : AP Tryd.prog tab0 32 [linkA room l sent pad off] (B (okL room l sent pad)) := by
  have c1 : True := trivial
  have b1 := costM_le l
  refine af_intro Tryd.func32 rfl (by decide) Tryd.ntmps32 rfl ?_
  repeat' (first
  | fail
  | refine s_y ?_
    | refine c_ ?_
    | (refine aw_if ?_ ?_ <;> intro hb <;> try (exfalso; first | assumption | omega | (simp only [or_self, and_self, not_true_eq_false, not_false_eq_true, or_false, false_or, and_false, false_and] at hb; done)))
    | refine s_call ?_ (c := by first | exact c1 | exact f_vtIs _ | exact f_ref05Is _ | exact f_vtCost _ gb_ | exact f_ref05Cost _ gb_ | fail)
    | refine s_op ?_ (hy := by first | (apply bs_cmdA rfl un_; exact oo_; done) | fail)
    | refine s_yg ?_
    | refine s_callg ?_ (c := by intro hk hk2; first | exact c1 | exact f_vtIs _ | exact f_ref05Is _ | exact f_vtCost _ gb_ | exact f_ref05Cost _ gb_ | fail)
    | refine s_opg ?_ (hy := by intro hk hk2; first | (apply bs_cmdA rfl un_; exact oo_; done) | fail)
    | refine s_skip ?_
    | ((first | refine w_alloc ?_ | refine w_box ?_) <;> intro bb)
    | ((first | refine w_emp ?_ | refine w_make ?_ | refine w_app ?_) <;> intro u hu1 hu2)
    | refine w_stv ?_ | refine w_str ?_ | refine w_cpr ?_ | refine w_cps ?_
    | refine al_last (by kernel_rfl) ?_
  | fail)
  · exact ⟨_, [], rs_, List.nil_sublist _, Sub.eq (congrArg B (okL_rng (by omega)).symm), rfl⟩
  · refine ⟨_, [], rs_, List.nil_sublist _, Sub.eq (congrArg B ?_), rfl⟩
    obtain rfl : l = [] := List.eq_nil_of_length_eq_zero (by omega)
    rw [Bool.eq_iff_iff, okL_nil, decide_eq_true_eq]; omega
  refine aw_lf (fun k : Nat => [(3, I k)]) (fun k => k ≤ l.length ∧ (l.take k).all isCmd = true) (fun k => l.length - k) 0 ⟨Nat.zero_le _, rfl⟩ ?_
  rintro k ⟨i1, i2⟩
  by_cases hlt : k < l.length
  · have hn := all_snoc isCmd l k hlt
    repeat' (first
    | fail
    | refine s_y ?_
      | refine c_ ?_
      | (refine aw_if ?_ ?_ <;> intro hb <;> try (exfalso; first | assumption | omega | (simp only [or_self, and_self, not_true_eq_false, not_false_eq_true, or_false, false_or, and_false, false_and] at hb; done)))
      | refine s_call ?_ (c := by first | exact c1 | exact f_vtIs _ | exact f_ref05Is _ | exact f_vtCost _ gb_ | exact f_ref05Cost _ gb_ | fail)
      | refine s_op ?_ (hy := by first | (apply bs_cmdA rfl un_; exact oo_; done) | fail)
      | refine s_yg ?_
      | refine s_callg ?_ (c := by intro hk hk2; first | exact c1 | exact f_vtIs _ | exact f_ref05Is _ | exact f_vtCost _ gb_ | exact f_ref05Cost _ gb_ | fail)
      | refine s_opg ?_ (hy := by intro hk hk2; first | (apply bs_cmdA rfl un_; exact oo_; done) | fail)
      | refine s_skip ?_
      | ((first | refine w_alloc ?_ | refine w_box ?_) <;> intro bb)
      | ((first | refine w_emp ?_ | refine w_make ?_ | refine w_app ?_) <;> intro u hu1 hu2)
      | refine w_stv ?_ | refine w_str ?_ | refine w_cpr ?_ | refine w_cps ?_
      | refine al_last (by kernel_rfl) ?_
    | fail)
    · exact ⟨_, [], rs_, List.nil_sublist _, Sub.eq (congrArg B (okL_all (all_at hlt hb)).symm), rfl⟩
    · exact ⟨k + 1, ⟨by omega, by rw [hn, i2, hb]; rfl⟩, by omega, wx_, sl_⟩
  · rw [List.take_of_length_le (by omega)] at i2
    have b2 := costM_le (List.take (1 - 0) (List.drop 0 l))
    have b3 : (List.take (1 - 0) (List.drop 0 l)).length ≤ 1 := by simp; omega
    repeat' (first
    | fail
    | refine s_y ?_
      | refine c_ ?_
      | (refine aw_if ?_ ?_ <;> intro hb <;> try (exfalso; first | assumption | omega | (simp only [or_self, and_self, not_true_eq_false, not_false_eq_true, or_false, false_or, and_false, false_and] at hb; done)))
      | refine s_call ?_ (c := by first | exact c1 | exact f_vtIs _ | exact f_ref05Is _ | exact f_vtCost _ gb_ | exact f_ref05Cost _ gb_ | fail)
      | refine s_op ?_ (hy := by first | (apply bs_cmdA rfl un_; exact oo_; done) | fail)
      | refine s_yg ?_
      | refine s_callg ?_ (c := by intro hk hk2; first | exact c1 | exact f_vtIs _ | exact f_ref05Is _ | exact f_vtCost _ gb_ | exact f_ref05Cost _ gb_ | fail)
      | refine s_opg ?_ (hy := by intro hk hk2; first | (apply bs_cmdA rfl un_; exact oo_; done) | fail)
      | refine s_skip ?_
      | ((first | refine w_alloc ?_ | refine w_box ?_) <;> intro bb)
      | ((first | refine w_emp ?_ | refine w_make ?_ | refine w_app ?_) <;> intro u hu1 hu2)
      | refine w_stv ?_ | refine w_str ?_ | refine w_cpr ?_ | refine w_cps ?_
      | refine al_last (by kernel_rfl) ?_
    | fail)
    refine ⟨_, [], rs_, List.nil_sublist _, Sub.eq (congrArg B ?_), rfl⟩
    cases l with
    | nil => simp at *
    | cons c l =>
      rw [Bool.eq_iff_iff, okL_cons, i2]
      have e : costM (List.take (1 - 0) (List.drop 0 (c :: l))) = lenC c := costM_one _
      simp only [Bool.and_eq_true, decide_eq_true_eq, e, true_and]
      omega
theorem eq_take_succ {l m : List Cmd} {k : Nat} (h1 : k < l.length) (h2 : k < m.length) : l.take (k + 1) = m.take (k + 1) ↔ l.take k = m.take k ∧ l[k] = m[k] := by
  rw [List.take_succ_eq_append_getElem h1, List.take_succ_eq_append_getElem h2]
  constructor
  · intro h
    have := List.append_inj h (by simp; omega)
    exact ⟨this.1, by simpa using this.2⟩
  · rintro ⟨a, b⟩; rw [a, b]
theorem f_ref05Same (l m : List Cmd) (hl : l.length ≤ 90000) (hm : m.length ≤ 90000) : AP Tryd.prog tab0 39 [slA cmdT l, slA cmdT m] (B (decide (l = m))) := by
  refine af_intro Tryd.func39 rfl (by decide) Tryd.ntmps39 rfl ?_
  repeat' (first
  | fail
  | refine s_y ?_
    | refine c_ ?_
    | (refine aw_if ?_ ?_ <;> intro hb <;> try (exfalso; first | assumption | omega | (simp only [or_self, and_self, not_true_eq_false, not_false_eq_true, or_false, false_or, and_false, false_and] at hb; done)))
    | refine s_call ?_ (c := by first | fail | fail)
    | refine s_op ?_ (hy := by first | fail | fail)
    | refine s_yg ?_
    | refine s_callg ?_ (c := by intro hk hk2; first | fail | fail)
    | refine s_opg ?_ (hy := by intro hk hk2; first | fail | fail)
    | refine s_skip ?_
    | ((first | refine w_alloc ?_ | refine w_box ?_) <;> intro bb)
    | ((first | refine w_emp ?_ | refine w_make ?_ | refine w_app ?_) <;> intro u hu1 hu2)
    | refine w_stv ?_ | refine w_str ?_ | refine w_cpr ?_ | refine w_cps ?_
    | refine al_last (by kernel_rfl) ?_
  | fail)
  · refine ⟨_, [], rs_, List.nil_sublist _, Sub.eq (congrArg B (decide_eq_false ?_).symm), rfl⟩
    rintro rfl; omega
  have hlm : l.length = m.length := by omega
  refine aw_lf (fun k : Nat => [(5, I k)]) (fun k => k ≤ l.length ∧ l.take k = m.take k) (fun k => l.length - k) 0 ⟨Nat.zero_le _, rfl⟩ ?_
  rintro k ⟨i1, i2⟩
  by_cases hlt : k < l.length
  · have hlt2 : k < m.length := by omega
    have he := eq_take_succ hlt hlt2
    repeat' (first
    | fail
    | refine s_y ?_
      | refine c_ ?_
      | (refine aw_if ?_ ?_ <;> intro hb <;> try (exfalso; first | assumption | omega | (simp only [or_self, and_self, not_true_eq_false, not_false_eq_true, or_false, false_or, and_false, false_and] at hb; done)))
      | refine s_call ?_ (c := by first | fail | fail)
      | refine s_op ?_ (hy := by first | fail | fail)
      | refine s_yg ?_
      | refine s_callg ?_ (c := by intro hk hk2; first | fail | fail)
      | refine s_opg ?_ (hy := by intro hk hk2; first | fail | fail)
      | refine s_skip ?_
      | ((first | refine w_alloc ?_ | refine w_box ?_) <;> intro bb)
      | ((first | refine w_emp ?_ | refine w_make ?_ | refine w_app ?_) <;> intro u hu1 hu2)
      | refine w_stv ?_ | refine w_str ?_ | refine w_cpr ?_ | refine w_cps ?_
      | refine al_last (by kernel_rfl) ?_
    | fail)
    · refine ⟨_, [], rs_, List.nil_sublist _, Sub.eq (congrArg B (decide_eq_false ?_).symm), rfl⟩
      rintro rfl; exact hb rfl
    · exact ⟨k + 1, ⟨by omega, he.2 ⟨i2, hb⟩⟩, by omega, wx_, sl_⟩
  · rw [List.take_of_length_le (by omega), List.take_of_length_le (by omega)] at i2
    repeat' (first
    | fail
    | refine s_y ?_
      | refine c_ ?_
      | (refine aw_if ?_ ?_ <;> intro hb <;> try (exfalso; first | assumption | omega | (simp only [or_self, and_self, not_true_eq_false, not_false_eq_true, or_false, false_or, and_false, false_and] at hb; done)))
      | refine s_call ?_ (c := by first | fail | fail)
      | refine s_op ?_ (hy := by first | fail | fail)
      | refine s_yg ?_
      | refine s_callg ?_ (c := by intro hk hk2; first | fail | fail)
      | refine s_opg ?_ (hy := by intro hk hk2; first | fail | fail)
      | refine s_skip ?_
      | ((first | refine w_alloc ?_ | refine w_box ?_) <;> intro bb)
      | ((first | refine w_emp ?_ | refine w_make ?_ | refine w_app ?_) <;> intro u hu1 hu2)
      | refine w_stv ?_ | refine w_str ?_ | refine w_cpr ?_ | refine w_cps ?_
      | refine al_last (by kernel_rfl) ?_
    | fail)
    exact ⟨_, [], rs_, List.nil_sublist _, Sub.eq (congrArg B (decide_eq_true i2).symm), rfl⟩
theorem f_ref09Same (r r' : Int) (l l' : List Cmd) (s s' p p' : Int) (o o' : Bool) (hl : l.length ≤ 90000) (hl' : l'.length ≤ 90000) : AP Tryd.prog tab0 30 [linkA r l s p o, linkA r' l' s' p' o'] (B (decide ((r, l, s, p, o) = (r', l', s', p', o')))) := by
  refine af_intro Tryd.func30 rfl (by decide) Tryd.ntmps30 rfl ?_
  repeat' (first
  | fail
  | refine s_y ?_
    | refine c_ ?_
    | (refine aw_if ?_ ?_ <;> intro hb <;> try (exfalso; first | assumption | omega | (simp only [or_self, and_self, not_true_eq_false, not_false_eq_true, or_false, false_or, and_false, false_and] at hb; done)))
    | refine s_call ?_ (c := by first | exact f_ref05Same _ _ (by omega) (by omega) | fail)
    | refine s_op ?_ (hy := by first | fail | fail)
    | refine s_yg ?_
    | refine s_callg ?_ (c := by intro hk hk2; first | exact f_ref05Same _ _ (by omega) (by omega) | fail)
    | refine s_opg ?_ (hy := by intro hk hk2; first | fail | fail)
    | refine s_skip ?_
    | ((first | refine w_alloc ?_ | refine w_box ?_) <;> intro bb)
    | ((first | refine w_emp ?_ | refine w_make ?_ | refine w_app ?_) <;> intro u hu1 hu2)
    | refine w_stv ?_ | refine w_str ?_ | refine w_cpr ?_ | refine w_cps ?_
    | refine al_last (by kernel_rfl) ?_
  | fail)
  refine ⟨_, [], rs_, List.nil_sublist _, Sub.eq (congrArg B ?_), rfl⟩
  rw [Bool.eq_iff_iff]; simp only [Bool.and_eq_true, decide_eq_true_eq, Prod.mk.injEq, beq_iff_eq]
  constructor <;> (intro h; simp_all)
theorem f_ref09own (room : Int) (l : List Cmd) (sent pad : Int) (off : Bool) (hl : l.length ≤ 90000) : AF Tryd.prog tab0 52 [linkA room l sent pad off] [] (fun A M' => ∃ u, A = aggA [I room, vA u, I sent, I pad, B off] ∧ M' = [rowO cmdT 23 u l]) := by
  refine af_intro Tryd.func52 rfl (by decide) Tryd.ntmps52 rfl ?_
  repeat' (first
  | fail
  | refine s_y ?_
    | refine c_ ?_
    | (refine aw_if ?_ ?_ <;> intro hb <;> try (exfalso; first | assumption | omega | (simp only [or_self, and_self, not_true_eq_false, not_false_eq_true, or_false, false_or, and_false, false_and] at hb; done)))
    | refine s_call ?_ (c := by first | fail | fail)
    | refine s_op ?_ (hy := by first | fail | fail)
    | refine s_yg ?_
    | refine s_callg ?_ (c := by intro hk hk2; first | fail | fail)
    | refine s_opg ?_ (hy := by intro hk hk2; first | fail | fail)
    | refine s_skip ?_
    | ((first | refine w_alloc ?_ | refine w_box ?_) <;> intro bb)
    | ((first | refine w_emp ?_ | refine w_make ?_ | refine w_app ?_) <;> intro u hu1 hu2)
    | refine w_stv ?_ | refine w_str ?_ | refine w_cpr ?_ | refine w_cps ?_
    | refine al_last (by kernel_rfl) ?_
  | fail)
  exact ⟨_, [rowO cmdT 23 _ ([] ++ l)], rs_, sl_, _, rfl, by rw [List.nil_append]⟩
end Go.Proofs.YthkdpddfmnbijaaDoor
