/- Layer 9 (link): a tick, a hold, and what is dropped. No condition. -/
import Derived.Test.YthkdpddfmnbijaaDoorK5
namespace Go.Proofs.YthkdpddfmnbijaaDoor
set_option linter.unusedSimpArgs false
set_option linter.unusedVariables false
set_option maxHeartbeats 4000000
open Go Go.RowKit
set_option maxRecDepth 100000
def tickP (room : Int) (l : List Cmd) (sent pad : Int) : Int := if okL room l sent pad = true then max 0 (pad - 1) else pad
def holdP (room : Int) (l : List Cmd) (sent pad : Int) (off b : Bool) : Bool := if okL room l sent pad = true then b else off
def dropN (sent : Int) : Nat := if 0 < sent then 1 else 0
def dropK (room : Int) (l : List Cmd) (sent pad : Int) : List Cmd := if okL room l sent pad = true then l.take (dropN sent) else l
def goneK (room : Int) (l : List Cmd) (sent pad : Int) : List Cmd := if okL room l sent pad = true then l.drop (dropN sent) else []
attribute [local irreducible] thenA inBlockA AW AL AO QY varO rowO rsA Opd OpdN vA gvA tupA aggA slA slcA ipA rpA EqK LnK IxK LdK FaK FdK
theorem f_linkTick (room : Int) (l : List Cmd) (sent pad : Int) (off : Bool) (hl : l.length ≤ 90000) : AP Tryd.prog tab0 40 [linkA room l sent pad off] (linkA room l sent (tickP room l sent pad) off) := by
  have c1 := f_linkIs room l sent pad off hl
  by_cases hk : okL room l sent pad = true
  · rw [hk] at c1
    obtain ⟨hr, _⟩ := okL_facts hk
    rw [tickP, if_pos hk]
    refine af_intro Tryd.func40 rfl (by decide) Tryd.ntmps40 rfl ?_
    repeat' (first
    | fail
    | refine s_y ?_
      | refine c_ ?_
      | (refine aw_if ?_ ?_ <;> intro hb <;> try (exfalso; first | assumption | omega | (simp only [or_self, and_self, not_true_eq_false, not_false_eq_true, or_false, false_or, and_false, false_and] at hb; done)))
      | refine s_call ?_ (c := by first | exact c1 | fail)
      | refine s_op ?_ (hy := by first | (apply ay_maxi rfl; exact oo_; exact oo_; done) | (apply ay_slice3 rfl un_ el_; exact oo_; exact lo_; exact on_; exact on_; exact le_; exact le_; done) | fail)
      | refine s_yg ?_
      | refine s_callg ?_ (c := by intro hk hk2; first | exact c1 | fail)
      | refine s_opg ?_ (hy := by intro hk hk2; first | (apply ay_maxi rfl; exact oo_; exact oo_; done) | (apply ay_slice3 rfl un_ el_; exact oo_; exact lo_; exact on_; exact on_; exact le_; exact le_; done) | fail)
      | refine s_skip ?_
      | ((first | refine w_alloc ?_ | refine w_box ?_) <;> intro bb)
      | ((first | refine w_emp ?_ | refine w_make ?_ | refine w_app ?_) <;> intro u hu1 hu2)
      | refine w_stv ?_ | refine w_str ?_ | refine w_cpr ?_ | refine w_cps ?_
      | refine al_last (by kernel_rfl) ?_
    | fail)
    exact ⟨_, [], rl_, List.nil_sublist _, Sub.refl _, rfl⟩
  · have hk2 : okL room l sent pad = false := by simpa using hk
    rw [hk2] at c1
    rw [tickP, if_neg hk]
    refine af_intro Tryd.func40 rfl (by decide) Tryd.ntmps40 rfl ?_
    repeat' (first
    | fail
    | refine s_y ?_
      | refine c_ ?_
      | (refine aw_if ?_ ?_ <;> intro hb <;> try (exfalso; first | assumption | omega | (simp only [or_self, and_self, not_true_eq_false, not_false_eq_true, or_false, false_or, and_false, false_and] at hb; done)))
      | refine s_call ?_ (c := by first | exact c1 | fail)
      | refine s_op ?_ (hy := by first | (apply ay_maxi rfl; exact oo_; exact oo_; done) | (apply ay_slice3 rfl un_ el_; exact oo_; exact lo_; exact on_; exact on_; exact le_; exact le_; done) | fail)
      | refine s_yg ?_
      | refine s_callg ?_ (c := by intro hk hk2; first | exact c1 | fail)
      | refine s_opg ?_ (hy := by intro hk hk2; first | (apply ay_maxi rfl; exact oo_; exact oo_; done) | (apply ay_slice3 rfl un_ el_; exact oo_; exact lo_; exact on_; exact on_; exact le_; exact le_; done) | fail)
      | refine s_skip ?_
      | ((first | refine w_alloc ?_ | refine w_box ?_) <;> intro bb)
      | ((first | refine w_emp ?_ | refine w_make ?_ | refine w_app ?_) <;> intro u hu1 hu2)
      | refine w_stv ?_ | refine w_str ?_ | refine w_cpr ?_ | refine w_cps ?_
      | refine al_last (by kernel_rfl) ?_
    | fail)
    exact ⟨_, [], rl_, List.nil_sublist _, Sub.refl _, rfl⟩
theorem f_ref09Tick (room : Int) (l : List Cmd) (sent pad : Int) (off : Bool) (hl : l.length ≤ 90000) : AP Tryd.prog tab0 41 [linkA room l sent pad off] (linkA room l sent (tickP room l sent pad) off) := by
  have c1 := f_ref09Is room l sent pad off hl
  by_cases hk : okL room l sent pad = true
  · rw [hk] at c1
    obtain ⟨hr, _⟩ := okL_facts hk
    rw [tickP, if_pos hk]
    refine af_intro Tryd.func41 rfl (by decide) Tryd.ntmps41 rfl ?_
    repeat' (first
    | fail
    | refine s_y ?_
      | refine c_ ?_
      | (refine aw_if ?_ ?_ <;> intro hb <;> try (exfalso; first | assumption | omega | (simp only [or_self, and_self, not_true_eq_false, not_false_eq_true, or_false, false_or, and_false, false_and] at hb; done)))
      | refine s_call ?_ (c := by first | exact c1 | fail)
      | refine s_op ?_ (hy := by first | (apply ay_maxi rfl; exact oo_; exact oo_; done) | (apply ay_slice3 rfl un_ el_; exact oo_; exact lo_; exact on_; exact on_; exact le_; exact le_; done) | fail)
      | refine s_yg ?_
      | refine s_callg ?_ (c := by intro hk hk2; first | exact c1 | fail)
      | refine s_opg ?_ (hy := by intro hk hk2; first | (apply ay_maxi rfl; exact oo_; exact oo_; done) | (apply ay_slice3 rfl un_ el_; exact oo_; exact lo_; exact on_; exact on_; exact le_; exact le_; done) | fail)
      | refine s_skip ?_
      | ((first | refine w_alloc ?_ | refine w_box ?_) <;> intro bb)
      | ((first | refine w_emp ?_ | refine w_make ?_ | refine w_app ?_) <;> intro u hu1 hu2)
      | refine w_stv ?_ | refine w_str ?_ | refine w_cpr ?_ | refine w_cps ?_
      | refine al_last (by kernel_rfl) ?_
    | fail)
    · exact ⟨_, [], rl_, List.nil_sublist _, Sub.eq (by rw [show max 0 (pad - 1) = pad - 1 by omega]), rfl⟩
    · exact ⟨_, [], rl_, List.nil_sublist _, Sub.eq (by rw [show max 0 (pad - 1) = pad by omega]), rfl⟩
  · have hk2 : okL room l sent pad = false := by simpa using hk
    rw [hk2] at c1
    rw [tickP, if_neg hk]
    refine af_intro Tryd.func41 rfl (by decide) Tryd.ntmps41 rfl ?_
    repeat' (first
    | fail
    | refine s_y ?_
      | refine c_ ?_
      | (refine aw_if ?_ ?_ <;> intro hb <;> try (exfalso; first | assumption | omega | (simp only [or_self, and_self, not_true_eq_false, not_false_eq_true, or_false, false_or, and_false, false_and] at hb; done)))
      | refine s_call ?_ (c := by first | exact c1 | fail)
      | refine s_op ?_ (hy := by first | (apply ay_maxi rfl; exact oo_; exact oo_; done) | (apply ay_slice3 rfl un_ el_; exact oo_; exact lo_; exact on_; exact on_; exact le_; exact le_; done) | fail)
      | refine s_yg ?_
      | refine s_callg ?_ (c := by intro hk hk2; first | exact c1 | fail)
      | refine s_opg ?_ (hy := by intro hk hk2; first | (apply ay_maxi rfl; exact oo_; exact oo_; done) | (apply ay_slice3 rfl un_ el_; exact oo_; exact lo_; exact on_; exact on_; exact le_; exact le_; done) | fail)
      | refine s_skip ?_
      | ((first | refine w_alloc ?_ | refine w_box ?_) <;> intro bb)
      | ((first | refine w_emp ?_ | refine w_make ?_ | refine w_app ?_) <;> intro u hu1 hu2)
      | refine w_stv ?_ | refine w_str ?_ | refine w_cpr ?_ | refine w_cps ?_
      | refine al_last (by kernel_rfl) ?_
    | fail)
    exact ⟨_, [], rl_, List.nil_sublist _, Sub.refl _, rfl⟩
theorem f_linkHold (room : Int) (l : List Cmd) (sent pad : Int) (off b : Bool) (hl : l.length ≤ 90000) : AP Tryd.prog tab0 42 [linkA room l sent pad off, B b] (linkA room l sent pad (holdP room l sent pad off b)) := by
  have c1 := f_linkIs room l sent pad off hl
  refine af_intro Tryd.func42 rfl (by decide) Tryd.ntmps42 rfl ?_
  repeat' (first
  | fail
  | refine s_y ?_
    | refine c_ ?_
    | (refine aw_if ?_ ?_ <;> intro hb <;> try (exfalso; first | assumption | omega | (simp only [or_self, and_self, not_true_eq_false, not_false_eq_true, or_false, false_or, and_false, false_and] at hb; done)))
    | refine s_call ?_ (c := by first | exact c1 | fail)
    | refine s_op ?_ (hy := by first | (apply ay_maxi rfl; exact oo_; exact oo_; done) | (apply ay_slice3 rfl un_ el_; exact oo_; exact lo_; exact on_; exact on_; exact le_; exact le_; done) | fail)
    | refine s_yg ?_
    | refine s_callg ?_ (c := by intro hk hk2; first | exact c1 | fail)
    | refine s_opg ?_ (hy := by intro hk hk2; first | (apply ay_maxi rfl; exact oo_; exact oo_; done) | (apply ay_slice3 rfl un_ el_; exact oo_; exact lo_; exact on_; exact on_; exact le_; exact le_; done) | fail)
    | refine s_skip ?_
    | ((first | refine w_alloc ?_ | refine w_box ?_) <;> intro bb)
    | ((first | refine w_emp ?_ | refine w_make ?_ | refine w_app ?_) <;> intro u hu1 hu2)
    | refine w_stv ?_ | refine w_str ?_ | refine w_cpr ?_ | refine w_cps ?_
    | refine al_last (by kernel_rfl) ?_
  | fail)
  · exact ⟨_, [], rl_, List.nil_sublist _, Sub.eq (by rw [holdP, if_pos hb]), rfl⟩
  · exact ⟨_, [], rl_, List.nil_sublist _, Sub.eq (by rw [holdP, if_neg (by rw [hb]; decide)]), rfl⟩
theorem f_ref09Hold (room : Int) (l : List Cmd) (sent pad : Int) (off b : Bool) (hl : l.length ≤ 90000) : AP Tryd.prog tab0 43 [linkA room l sent pad off, B b] (linkA room l sent pad (holdP room l sent pad off b)) := by
  have c1 := f_ref09Is room l sent pad off hl
  refine af_intro Tryd.func43 rfl (by decide) Tryd.ntmps43 rfl ?_
  repeat' (first
  | fail
  | refine s_y ?_
    | refine c_ ?_
    | (refine aw_if ?_ ?_ <;> intro hb <;> try (exfalso; first | assumption | omega | (simp only [or_self, and_self, not_true_eq_false, not_false_eq_true, or_false, false_or, and_false, false_and] at hb; done)))
    | refine s_call ?_ (c := by first | exact c1 | fail)
    | refine s_op ?_ (hy := by first | (apply ay_maxi rfl; exact oo_; exact oo_; done) | (apply ay_slice3 rfl un_ el_; exact oo_; exact lo_; exact on_; exact on_; exact le_; exact le_; done) | fail)
    | refine s_yg ?_
    | refine s_callg ?_ (c := by intro hk hk2; first | exact c1 | fail)
    | refine s_opg ?_ (hy := by intro hk hk2; first | (apply ay_maxi rfl; exact oo_; exact oo_; done) | (apply ay_slice3 rfl un_ el_; exact oo_; exact lo_; exact on_; exact on_; exact le_; exact le_; done) | fail)
    | refine s_skip ?_
    | ((first | refine w_alloc ?_ | refine w_box ?_) <;> intro bb)
    | ((first | refine w_emp ?_ | refine w_make ?_ | refine w_app ?_) <;> intro u hu1 hu2)
    | refine w_stv ?_ | refine w_str ?_ | refine w_cpr ?_ | refine w_cps ?_
    | refine al_last (by kernel_rfl) ?_
  | fail)
  · exact ⟨_, [], rl_, List.nil_sublist _, Sub.eq (by rw [holdP, if_pos hb]), rfl⟩
  · exact ⟨_, [], rl_, List.nil_sublist _, Sub.eq (by rw [holdP, if_neg (by rw [hb]; decide)]), rfl⟩
theorem dropN_le {room sent pad : Int} {l : List Cmd} (h : okL room l sent pad = true) : dropN sent ≤ l.length := by
  unfold dropN
  cases l with
  | nil => have := okL_nil.1 h; split <;> simp; omega
  | cons c l => split <;> simp
theorem sub_drop {room : Int} {l m : List Cmd} {sent pad : Int} {off : Bool} : Sub (tupA [linkA room l sent pad off, vA (.slice none 0 0)]) (tupA [linkA room l sent pad off, slA cmdT []]) := sub_tup (subl1 (Sub.refl _) (subl1 sub_nilC subl0))
theorem f_linkDrop (room : Int) (l : List Cmd) (sent pad : Int) (off : Bool) (hl : l.length ≤ 90000) : AP Tryd.prog tab0 37 [linkA room l sent pad off] (tupA [linkA room (dropK room l sent pad) sent pad off, slA cmdT (goneK room l sent pad)]) := by
  have c1 := f_linkIs room l sent pad off hl
  by_cases hk : okL room l sent pad = true
  · rw [hk] at c1
    obtain ⟨hr, _⟩ := okL_facts hk
    have hd := dropN_le hk
    rw [dropK, goneK, if_pos hk, if_pos hk]
    obtain ⟨n, rfl⟩ := Int.eq_ofNat_of_zero_le hr.2.2.2.2
    have hn : dropN (n : Int) = min n 1 := by unfold dropN; split <;> omega
    refine af_intro Tryd.func37 rfl (by decide) Tryd.ntmps37 rfl ?_
    repeat' (first
    | fail
    | refine s_y ?_
      | refine c_ ?_
      | (refine aw_if ?_ ?_ <;> intro hb <;> try (exfalso; first | assumption | omega | (simp only [or_self, and_self, not_true_eq_false, not_false_eq_true, or_false, false_or, and_false, false_and] at hb; done)))
      | refine s_call ?_ (c := by first | exact c1 | fail)
      | refine s_op ?_ (hy := by first | (apply ay_maxi rfl; exact oo_; exact oo_; done) | (apply ay_slice3 rfl un_ el_; exact oo_; exact lo_; exact on_; exact on_; exact le_; exact le_; done) | fail)
      | refine s_yg ?_
      | refine s_callg ?_ (c := by intro hk hk2; first | exact c1 | fail)
      | refine s_opg ?_ (hy := by intro hk hk2; first | (apply ay_maxi rfl; exact oo_; exact oo_; done) | (apply ay_slice3 rfl un_ el_; exact oo_; exact lo_; exact on_; exact on_; exact le_; exact le_; done) | fail)
      | refine s_skip ?_
      | ((first | refine w_alloc ?_ | refine w_box ?_) <;> intro bb)
      | ((first | refine w_emp ?_ | refine w_make ?_ | refine w_app ?_) <;> intro u hu1 hu2)
      | refine w_stv ?_ | refine w_str ?_ | refine w_cpr ?_ | refine w_cps ?_
      | refine al_last (by kernel_rfl) ?_
    | fail)
    refine ⟨_, [], rl_, List.nil_sublist _, ?_, rfl⟩
    rw [hn]
    refine sub_tup (subl1 (sub_agg (subl1 (Sub.refl _) (subl1 ?_ (subl1 (Sub.refl _) (subl1 (Sub.refl _) (subl1 (Sub.refl _) subl0)))))) (subl1 ?_ subl0))
    · refine Sub.trans sub_slc (Sub.eq ?_); simp
    · exact Sub.eq (by rw [drop_take])
  · have hk2 : okL room l sent pad = false := by simpa using hk
    rw [hk2] at c1
    rw [dropK, goneK, if_neg hk, if_neg hk]
    refine af_intro Tryd.func37 rfl (by decide) Tryd.ntmps37 rfl ?_
    repeat' (first
    | fail
    | refine s_y ?_
      | refine c_ ?_
      | (refine aw_if ?_ ?_ <;> intro hb <;> try (exfalso; first | assumption | omega | (simp only [or_self, and_self, not_true_eq_false, not_false_eq_true, or_false, false_or, and_false, false_and] at hb; done)))
      | refine s_call ?_ (c := by first | exact c1 | fail)
      | refine s_op ?_ (hy := by first | (apply ay_maxi rfl; exact oo_; exact oo_; done) | (apply ay_slice3 rfl un_ el_; exact oo_; exact lo_; exact on_; exact on_; exact le_; exact le_; done) | fail)
      | refine s_yg ?_
      | refine s_callg ?_ (c := by intro hk hk2; first | exact c1 | fail)
      | refine s_opg ?_ (hy := by intro hk hk2; first | (apply ay_maxi rfl; exact oo_; exact oo_; done) | (apply ay_slice3 rfl un_ el_; exact oo_; exact lo_; exact on_; exact on_; exact le_; exact le_; done) | fail)
      | refine s_skip ?_
      | ((first | refine w_alloc ?_ | refine w_box ?_) <;> intro bb)
      | ((first | refine w_emp ?_ | refine w_make ?_ | refine w_app ?_) <;> intro u hu1 hu2)
      | refine w_stv ?_ | refine w_str ?_ | refine w_cpr ?_ | refine w_cps ?_
      | refine al_last (by kernel_rfl) ?_
    | fail)
    exact ⟨_, [], rl_, List.nil_sublist _, sub_drop (m := []), rfl⟩
theorem f_ref09Drop (room : Int) (l : List Cmd) (sent pad : Int) (off : Bool) (hl : l.length ≤ 90000) : AP Tryd.prog tab0 38 [linkA room l sent pad off] (tupA [linkA room (dropK room l sent pad) sent pad off, slA cmdT (goneK room l sent pad)]) := by
  have c1 := f_ref09Is room l sent pad off hl
  by_cases hk : okL room l sent pad = true
  · rw [hk] at c1
    obtain ⟨hr, _⟩ := okL_facts hk
    have hd := dropN_le hk
    rw [dropK, goneK, if_pos hk, if_pos hk]
    obtain ⟨n, rfl⟩ := Int.eq_ofNat_of_zero_le hr.2.2.2.2
    have hn : dropN (n : Int) = min n 1 := by unfold dropN; split <;> omega
    rw [hn] at hd ⊢
    refine af_intro Tryd.func38 rfl (by decide) Tryd.ntmps38 rfl ?_
    repeat' (first
    | fail
    | refine s_y ?_
      | refine c_ ?_
      | (refine aw_if ?_ ?_ <;> intro hb <;> try (exfalso; first | assumption | omega | (simp only [or_self, and_self, not_true_eq_false, not_false_eq_true, or_false, false_or, and_false, false_and] at hb; done)))
      | refine s_call ?_ (c := by first | exact c1 | fail)
      | refine s_op ?_ (hy := by first | (apply ay_maxi rfl; exact oo_; exact oo_; done) | (apply ay_slice3 rfl un_ el_; exact oo_; exact lo_; exact on_; exact on_; exact le_; exact le_; done) | fail)
      | refine s_yg ?_
      | refine s_callg ?_ (c := by intro hk hk2; first | exact c1 | fail)
      | refine s_opg ?_ (hy := by intro hk hk2; first | (apply ay_maxi rfl; exact oo_; exact oo_; done) | (apply ay_slice3 rfl un_ el_; exact oo_; exact lo_; exact on_; exact on_; exact le_; exact le_; done) | fail)
      | refine s_skip ?_
      | ((first | refine w_alloc ?_ | refine w_box ?_) <;> intro bb)
      | ((first | refine w_emp ?_ | refine w_make ?_ | refine w_app ?_) <;> intro u hu1 hu2)
      | refine w_stv ?_ | refine w_str ?_ | refine w_cpr ?_ | refine w_cps ?_
      | refine al_last (by kernel_rfl) ?_
    | fail)
    · refine ⟨_, [], rl_, List.nil_sublist _, Sub.eq ?_, rfl⟩
      rw [show min n 1 = 1 by omega, drop_take]; simp
    · refine ⟨_, [], rl_, List.nil_sublist _, Sub.eq ?_, rfl⟩
      rw [show min n 1 = 0 by omega, drop_take]; simp
  · have hk2 : okL room l sent pad = false := by simpa using hk
    rw [hk2] at c1
    rw [dropK, goneK, if_neg hk, if_neg hk]
    refine af_intro Tryd.func38 rfl (by decide) Tryd.ntmps38 rfl ?_
    repeat' (first
    | fail
    | refine s_y ?_
      | refine c_ ?_
      | (refine aw_if ?_ ?_ <;> intro hb <;> try (exfalso; first | assumption | omega | (simp only [or_self, and_self, not_true_eq_false, not_false_eq_true, or_false, false_or, and_false, false_and] at hb; done)))
      | refine s_call ?_ (c := by first | exact c1 | fail)
      | refine s_op ?_ (hy := by first | (apply ay_maxi rfl; exact oo_; exact oo_; done) | (apply ay_slice3 rfl un_ el_; exact oo_; exact lo_; exact on_; exact on_; exact le_; exact le_; done) | fail)
      | refine s_yg ?_
      | refine s_callg ?_ (c := by intro hk hk2; first | exact c1 | fail)
      | refine s_opg ?_ (hy := by intro hk hk2; first | (apply ay_maxi rfl; exact oo_; exact oo_; done) | (apply ay_slice3 rfl un_ el_; exact oo_; exact lo_; exact on_; exact on_; exact le_; exact le_; done) | fail)
      | refine s_skip ?_
      | ((first | refine w_alloc ?_ | refine w_box ?_) <;> intro bb)
      | ((first | refine w_emp ?_ | refine w_make ?_ | refine w_app ?_) <;> intro u hu1 hu2)
      | refine w_stv ?_ | refine w_str ?_ | refine w_cpr ?_ | refine w_cps ?_
      | refine al_last (by kernel_rfl) ?_
    | fail)
    exact ⟨_, [], rl_, List.nil_sublist _, sub_drop (m := []), rfl⟩
end Go.Proofs.YthkdpddfmnbijaaDoor
