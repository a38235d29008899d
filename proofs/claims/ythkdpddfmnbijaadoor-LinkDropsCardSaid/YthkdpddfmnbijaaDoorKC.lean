/- Layer 9 (link): the laws of parts and of what is dropped. No condition. -/
import Derived.Test.YthkdpddfmnbijaaDoorKB
namespace Go.Proofs.YthkdpddfmnbijaaDoor
set_option linter.unusedSimpArgs false
set_option linter.unusedVariables false
set_option maxHeartbeats 4000000
open Go Go.RowKit
set_option maxRecDepth 100000
attribute [local irreducible] thenA inBlockA AW AL AO QY varO rowO rsA Opd OpdN vA gvA tupA aggA slA slcA ipA rpA EqK LnK IxK LdK FaK FdK
theorem l_LinkParts (room : Int) (l : List Cmd) (sent pad : Int) (off : Bool) (m n : Int) : AP Tryd.prog tab0 13 [linkA room l sent pad off, I m, I n] (B true) := by
  have c4 : True := trivial
  by_cases hl : l.length ≤ 200 ∧ 0 ≤ m ∧ 0 ≤ n ∧ m ≤ 1000 ∧ n ≤ 1000
  · obtain ⟨hl, m1, n1, m2, n2⟩ := hl
    have key : ∃ s t u l1 l2 s1 s2 p1 p2, sendL room l sent pad off m = tupA [SA s, linkA room l1 s1 p1 off] ∧ l1.length ≤ l.length ∧ sendL room l1 s1 p1 off n = tupA [SA t, linkA room l2 s2 p2 off] ∧ l2.length ≤ l.length ∧ sendL room l sent pad off (m + n) = tupA [SA u, linkA room l2 s2 p2 off] ∧ s ++ t = u ∧ s.length ≤ 8 * l.length ∧ t.length ≤ 8 * l.length := by
      by_cases hk : okL room l sent pad = true ∧ off = false
      · obtain ⟨hk, rfl⟩ := hk
        have hs := okS_of hk
        obtain ⟨f1, f2, f3, f4⟩ := okL_facts hk
        obtain ⟨o1, l1, s1, p1, q1, q2, q3, _, q4, _⟩ := send_ex room l sent pad false m
        have q5 := q1
        rw [sendL, if_pos ⟨hk, rfl⟩] at q5
        have h2 := send_two l sent.toNat pad m n hs m1 n1
        obtain ⟨a1, a2, a3, a4, a5, a6, k, a7, a8⟩ := send_all l sent.toNat pad m hs (by omega) (by omega)
        have b1 := costM_le l
        have hle := send_le (p := pad) (g := m) hs (by omega) (by omega)
        generalize hT : sendM l sent.toNat pad m = T at *
        have e3 := congrArg List.length a3
        rw [List.length_append, List.length_drop, List.length_drop, bytesM_len, bytesM_len] at e3
        have hcost : T.2.2.1 ≤ costM T.2.1 := by
          cases hc : T.2.1 with
          | nil => have := a1.2.1 hc; omega
          | cons c r => have := a1.2.2 c r hc; rw [costM_cons]; omega
        have hok : okL room T.2.1 T.2.2.1 T.2.2.2 = true := okL_of a1 (by omega) (by omega)
        have hle2 := send_le (p := T.2.2.2) (g := n) a1 a2.1 a2.2
        obtain ⟨_, _, _, _, _, _, k2, a72, a82⟩ := send_all T.2.1 T.2.2.1 T.2.2.2 n a1 a2.1 a2.2
        have hl1 : T.2.1.length ≤ l.length := by rw [a7, List.length_drop]; omega
        have b2 := costM_le T.2.1
        refine ⟨T.1, (sendM T.2.1 T.2.2.1 T.2.2.2 n).1, (sendM l sent.toNat pad (m + n)).1, T.2.1, (sendM T.2.1 T.2.2.1 T.2.2.2 n).2.1, T.2.2.1, (sendM T.2.1 T.2.2.1 T.2.2.2 n).2.2.1, T.2.2.2, (sendM T.2.1 T.2.2.1 T.2.2.2 n).2.2.2, send_yes hk hT, hl1, send_yes hok rfl, ?_, ?_, ?_, by omega, by omega⟩
        · rw [a72, List.length_drop]; omega
        · refine send_yes hk ?_
          rw [← h2]
        · rw [← h2]
      · have e : ∀ g, sendL room l sent pad off g = tupA [SA [], linkA room l sent pad off] := fun g => by rw [sendL, if_neg hk]
        exact ⟨_, _, _, _, _, _, _, _, _, e m, Nat.le_refl _, e n, Nat.le_refl _, e (m + n), rfl, by simp, by simp⟩
    obtain ⟨s, t, u, l1, l2, s1, s2, p1, p2, q1, q2, q3, q4, q5, q6, q7, q8⟩ := key
    have c1 : AP Tryd.prog tab0 35 [linkA room l sent pad off, I m] (tupA [SA s, linkA room l1 s1 p1 off]) := (f_linkSend room l sent pad off m (by omega) (by omega)).to q1
    have c2 : AP Tryd.prog tab0 35 [linkA room l1 s1 p1 off, I n] (tupA [SA t, linkA room l2 s2 p2 off]) := (f_linkSend room l1 s1 p1 off n (by omega) (by omega)).to q3
    have c3 : AP Tryd.prog tab0 35 [linkA room l sent pad off, I (m + n)] (tupA [SA u, linkA room l2 s2 p2 off]) := (f_linkSend room l sent pad off (m + n) (by omega) (by omega)).to q5
    obtain ⟨m, rfl⟩ := Int.eq_ofNat_of_zero_le m1
    obtain ⟨n, rfl⟩ := Int.eq_ofNat_of_zero_le n1
    have c3' : AP Tryd.prog tab0 35 [linkA room l sent pad off, I ((m + n : Nat) : Int)] (tupA [SA u, linkA room l2 s2 p2 off]) := c3
    refine af_intro Tryd.func13 rfl (by decide) Tryd.ntmps13 rfl ?_
    repeat' (first
    | fail
    | refine s_y ?_
      | refine c_ ?_
      | (refine aw_if ?_ ?_ <;> intro hb <;> try (exfalso; first | assumption | omega | (simp only [or_self, and_self, not_true_eq_false, not_false_eq_true, or_false, false_or, and_false, false_and, true_and, and_true] at hb; first | done | omega)))
      | refine s_call ?_ (c := by first | exact f_linkBig _ _ _ _ _ | exact f_linked | exact c1 | exact c2 | exact c3 | exact c3' | exact f_ref09Same _ _ _ _ _ _ _ _ _ _ (by omega) (by omega) | fail)
      | refine s_op ?_ (hy := by first | fail | fail)
      | refine s_yg ?_
      | refine s_callg ?_ (c := by intro hk hk2; first | exact f_linkBig _ _ _ _ _ | exact f_linked | exact c1 | exact c2 | exact c3 | exact c3' | exact f_ref09Same _ _ _ _ _ _ _ _ _ _ (by omega) (by omega) | fail)
      | refine s_opg ?_ (hy := by intro hk hk2; first | fail | fail)
      | refine s_skip ?_
      | ((first | refine w_alloc ?_ | refine w_box ?_) <;> intro bb)
      | ((first | refine w_emp ?_ | refine w_make ?_ | refine w_app ?_) <;> intro u hu1 hu2)
      | refine w_stv ?_ | refine w_str ?_ | refine w_cpr ?_ | refine w_cps ?_
      | refine al_last (by kernel_rfl) ?_
    | fail)
    exact ⟨_, [], rl_, List.nil_sublist _, Sub.eq (congrArg B (by rw [q6]; simp)), rfl⟩
  · have c1 : True := trivial
    have c2 : True := trivial
    have c3 : True := trivial
    have c3' : True := trivial
    refine af_intro Tryd.func13 rfl (by decide) Tryd.ntmps13 rfl ?_
    repeat' (first
    | fail
    | refine s_y ?_
      | refine c_ ?_
      | (refine aw_if ?_ ?_ <;> intro hb <;> try (exfalso; first | assumption | omega | (simp only [or_self, and_self, not_true_eq_false, not_false_eq_true, or_false, false_or, and_false, false_and, true_and, and_true] at hb; first | done | omega)))
      | refine s_call ?_ (c := by first | exact f_linkBig _ _ _ _ _ | exact f_linked | exact c1 | exact c2 | exact c3 | exact c3' | exact f_ref09Same _ _ _ _ _ _ _ _ _ _ (by omega) (by omega) | fail)
      | refine s_op ?_ (hy := by first | fail | fail)
      | refine s_yg ?_
      | refine s_callg ?_ (c := by intro hk hk2; first | exact f_linkBig _ _ _ _ _ | exact f_linked | exact c1 | exact c2 | exact c3 | exact c3' | exact f_ref09Same _ _ _ _ _ _ _ _ _ _ (by omega) (by omega) | fail)
      | refine s_opg ?_ (hy := by intro hk hk2; first | fail | fail)
      | refine s_skip ?_
      | ((first | refine w_alloc ?_ | refine w_box ?_) <;> intro bb)
      | ((first | refine w_emp ?_ | refine w_make ?_ | refine w_app ?_) <;> intro u hu1 hu2)
      | refine w_stv ?_ | refine w_str ?_ | refine w_cpr ?_ | refine w_cps ?_
      | refine al_last (by kernel_rfl) ?_
    | fail)
    all_goals first | exact ⟨_, [], rl_, List.nil_sublist _, Sub.refl _, rfl⟩ | (exfalso; omega)
theorem l_LinkDrops (room : Int) (l : List Cmd) (sent pad : Int) (off : Bool) : AP Tryd.prog tab0 14 [linkA room l sent pad off] (B true) := by
  have c3 : True := trivial
  have c4 : True := trivial
  by_cases hl : l.length ≤ 200 ∧ okL room l sent pad = true
  · obtain ⟨hl, hk⟩ := hl
    have h7 := dropK_len room l sent pad
    have h9 := goneK_len room l sent pad
    obtain ⟨g1, g2, g3, g4, g5, g6, g7⟩ := drop_facts hk
    have r1 := restL_le room (dropK room l sent pad) sent pad
    have r2 := costM_le (goneK room l sent pad)
    rw [← bytesM_len] at r2
    have c1 : AP Tryd.prog tab0 37 [linkA room l sent pad off] (tupA [linkA room (dropK room l sent pad) sent pad off, slA cmdT (goneK room l sent pad)]) := f_linkDrop _ _ _ _ _ (by omega)
    have c2 : AP Tryd.prog tab0 37 [linkA room (dropK room l sent pad) sent pad off] (tupA [linkA room (dropK room l sent pad) sent pad off, slA cmdT []]) := (f_linkDrop _ _ _ _ _ (by omega)).to (by rw [g4, g5])
    have c3 := f_linkIs room l sent pad off (by omega)
    rw [hk] at c3
    have h0 : ([] : List Cmd).length = 0 := rfl
    generalize dropK room l sent pad = a at *
    generalize goneK room l sent pad = z at *
    refine af_intro Tryd.func14 rfl (by decide) Tryd.ntmps14 rfl ?_
    repeat' (first
    | fail
    | refine s_y ?_
      | refine c_ ?_
      | (refine aw_if ?_ ?_ <;> intro hb <;> try (exfalso; first | assumption | omega | (simp only [or_self, and_self, not_true_eq_false, not_false_eq_true, or_false, false_or, and_false, false_and, true_and, and_true] at hb; first | done | omega)))
      | refine s_call ?_ (c := by first | exact f_linkBig _ _ _ _ _ | exact f_linked | exact c1 | exact c2 | exact c3 | exact c4 | exact f_ref09Same _ _ _ _ _ _ _ _ _ _ (by omega) (by omega) | exact f_linkIs _ _ _ _ _ (by omega) | exact f_linkRest _ _ _ _ _ (by omega) | exact f_ref05Bytes _ (by omega) | exact f_vtCost _ (by omega) | exact f_vtIs _ | fail)
      | refine s_op ?_ (hy := by first | fail | fail)
      | refine s_yg ?_
      | refine s_callg ?_ (c := by intro hk hk2; first | exact f_linkBig _ _ _ _ _ | exact f_linked | exact c1 | exact c2 | exact c3 | exact c4 | exact f_ref09Same _ _ _ _ _ _ _ _ _ _ (by omega) (by omega) | exact f_linkIs _ _ _ _ _ (by omega) | exact f_linkRest _ _ _ _ _ (by omega) | exact f_ref05Bytes _ (by omega) | exact f_vtCost _ (by omega) | exact f_vtIs _ | fail)
      | refine s_opg ?_ (hy := by intro hk hk2; first | fail | fail)
      | refine s_skip ?_
      | ((first | refine w_alloc ?_ | refine w_box ?_) <;> intro bb)
      | ((first | refine w_emp ?_ | refine w_make ?_ | refine w_app ?_) <;> intro u hu1 hu2)
      | refine w_stv ?_ | refine w_str ?_ | refine w_cpr ?_ | refine w_cps ?_
      | refine al_last (by kernel_rfl) ?_
    | fail)
    refine aw_lf (fun k : Nat => [(5, I k)]) (fun k => k ≤ z.length) (fun k => z.length - k) 0 (Nat.zero_le _) ?_
    intro k i1
    by_cases hlt : k < z.length
    · have hz : isCmd z[k] = true := by rw [List.all_eq_true] at g7; exact g7 _ (List.getElem_mem hlt)
      repeat' (first
      | fail
      | refine s_y ?_
        | refine c_ ?_
        | (refine aw_if ?_ ?_ <;> intro hb <;> try (exfalso; first | assumption | omega | (simp only [or_self, and_self, not_true_eq_false, not_false_eq_true, or_false, false_or, and_false, false_and, true_and, and_true] at hb; first | done | omega)))
        | refine s_call ?_ (c := by first | exact f_linkBig _ _ _ _ _ | exact f_linked | exact c1 | exact c2 | exact c3 | exact c4 | exact f_ref09Same _ _ _ _ _ _ _ _ _ _ (by omega) (by omega) | exact f_linkIs _ _ _ _ _ (by omega) | exact f_linkRest _ _ _ _ _ (by omega) | exact f_ref05Bytes _ (by omega) | exact f_vtCost _ (by omega) | exact f_vtIs _ | fail)
        | refine s_op ?_ (hy := by first | fail | fail)
        | refine s_yg ?_
        | refine s_callg ?_ (c := by intro hk hk2; first | exact f_linkBig _ _ _ _ _ | exact f_linked | exact c1 | exact c2 | exact c3 | exact c4 | exact f_ref09Same _ _ _ _ _ _ _ _ _ _ (by omega) (by omega) | exact f_linkIs _ _ _ _ _ (by omega) | exact f_linkRest _ _ _ _ _ (by omega) | exact f_ref05Bytes _ (by omega) | exact f_vtCost _ (by omega) | exact f_vtIs _ | fail)
        | refine s_opg ?_ (hy := by intro hk hk2; first | fail | fail)
        | refine s_skip ?_
        | ((first | refine w_alloc ?_ | refine w_box ?_) <;> intro bb)
        | ((first | refine w_emp ?_ | refine w_make ?_ | refine w_app ?_) <;> intro u hu1 hu2)
        | refine w_stv ?_ | refine w_str ?_ | refine w_cpr ?_ | refine w_cps ?_
        | refine al_last (by kernel_rfl) ?_
      | fail)
      · rw [hz] at hb; cases hb
      · exact ⟨k + 1, by omega, by omega, wx_, sl_⟩
    · repeat' (first
      | fail
      | refine s_y ?_
        | refine c_ ?_
        | (refine aw_if ?_ ?_ <;> intro hb <;> try (exfalso; first | assumption | omega | (simp only [or_self, and_self, not_true_eq_false, not_false_eq_true, or_false, false_or, and_false, false_and, true_and, and_true] at hb; first | done | omega)))
        | refine s_call ?_ (c := by first | exact f_linkBig _ _ _ _ _ | exact f_linked | exact c1 | exact c2 | exact c3 | exact c4 | exact f_ref09Same _ _ _ _ _ _ _ _ _ _ (by omega) (by omega) | exact f_linkIs _ _ _ _ _ (by omega) | exact f_linkRest _ _ _ _ _ (by omega) | exact f_ref05Bytes _ (by omega) | exact f_vtCost _ (by omega) | exact f_vtIs _ | fail)
        | refine s_op ?_ (hy := by first | fail | fail)
        | refine s_yg ?_
        | refine s_callg ?_ (c := by intro hk hk2; first | exact f_linkBig _ _ _ _ _ | exact f_linked | exact c1 | exact c2 | exact c3 | exact c4 | exact f_ref09Same _ _ _ _ _ _ _ _ _ _ (by omega) (by omega) | exact f_linkIs _ _ _ _ _ (by omega) | exact f_linkRest _ _ _ _ _ (by omega) | exact f_ref05Bytes _ (by omega) | exact f_vtCost _ (by omega) | exact f_vtIs _ | fail)
        | refine s_opg ?_ (hy := by intro hk hk2; first | fail | fail)
        | refine s_skip ?_
        | ((first | refine w_alloc ?_ | refine w_box ?_) <;> intro bb)
        | ((first | refine w_emp ?_ | refine w_make ?_ | refine w_app ?_) <;> intro u hu1 hu2)
        | refine w_stv ?_ | refine w_str ?_ | refine w_cpr ?_ | refine w_cps ?_
        | refine al_last (by kernel_rfl) ?_
      | fail)
      refine ⟨_, [], rl_, List.nil_sublist _, Sub.eq (congrArg B ?_), rfl⟩
      rw [g2]
      rcases g6 with g6 | g6
      · simp [g6]; omega
      · simp [g6]; omega
  · have c1 : True := trivial
    have c2 : True := trivial
    by_cases hl2 : l.length ≤ 200
    · have hk2 : okL room l sent pad = false := by
        cases hk : okL room l sent pad
        · rfl
        · exact absurd ⟨hl2, hk⟩ hl
      have c1 := f_linkIs room l sent pad off (by omega)
      rw [hk2] at c1
      refine af_intro Tryd.func14 rfl (by decide) Tryd.ntmps14 rfl ?_
      repeat' (first
      | fail
      | refine s_y ?_
        | refine c_ ?_
        | (refine aw_if ?_ ?_ <;> intro hb <;> try (exfalso; first | assumption | omega | (simp only [or_self, and_self, not_true_eq_false, not_false_eq_true, or_false, false_or, and_false, false_and, true_and, and_true] at hb; first | done | omega)))
        | refine s_call ?_ (c := by first | exact f_linkBig _ _ _ _ _ | exact f_linked | exact c1 | exact c2 | exact c3 | exact c4 | exact f_ref09Same _ _ _ _ _ _ _ _ _ _ (by omega) (by omega) | exact f_linkIs _ _ _ _ _ (by omega) | exact f_linkRest _ _ _ _ _ (by omega) | exact f_ref05Bytes _ (by omega) | exact f_vtCost _ (by omega) | exact f_vtIs _ | fail)
        | refine s_op ?_ (hy := by first | fail | fail)
        | refine s_yg ?_
        | refine s_callg ?_ (c := by intro hk hk2; first | exact f_linkBig _ _ _ _ _ | exact f_linked | exact c1 | exact c2 | exact c3 | exact c4 | exact f_ref09Same _ _ _ _ _ _ _ _ _ _ (by omega) (by omega) | exact f_linkIs _ _ _ _ _ (by omega) | exact f_linkRest _ _ _ _ _ (by omega) | exact f_ref05Bytes _ (by omega) | exact f_vtCost _ (by omega) | exact f_vtIs _ | fail)
        | refine s_opg ?_ (hy := by intro hk hk2; first | fail | fail)
        | refine s_skip ?_
        | ((first | refine w_alloc ?_ | refine w_box ?_) <;> intro bb)
        | ((first | refine w_emp ?_ | refine w_make ?_ | refine w_app ?_) <;> intro u hu1 hu2)
        | refine w_stv ?_ | refine w_str ?_ | refine w_cpr ?_ | refine w_cps ?_
        | refine al_last (by kernel_rfl) ?_
      | fail)
      all_goals first | exact ⟨_, [], rl_, List.nil_sublist _, Sub.refl _, rfl⟩ | (exfalso; simp at hb; done)
    · refine af_intro Tryd.func14 rfl (by decide) Tryd.ntmps14 rfl ?_
      repeat' (first
      | fail
      | refine s_y ?_
        | refine c_ ?_
        | (refine aw_if ?_ ?_ <;> intro hb <;> try (exfalso; first | assumption | omega | (simp only [or_self, and_self, not_true_eq_false, not_false_eq_true, or_false, false_or, and_false, false_and, true_and, and_true] at hb; first | done | omega)))
        | refine s_call ?_ (c := by first | exact f_linkBig _ _ _ _ _ | exact f_linked | exact c1 | exact c2 | exact c3 | exact c4 | exact f_ref09Same _ _ _ _ _ _ _ _ _ _ (by omega) (by omega) | exact f_linkIs _ _ _ _ _ (by omega) | exact f_linkRest _ _ _ _ _ (by omega) | exact f_ref05Bytes _ (by omega) | exact f_vtCost _ (by omega) | exact f_vtIs _ | fail)
        | refine s_op ?_ (hy := by first | fail | fail)
        | refine s_yg ?_
        | refine s_callg ?_ (c := by intro hk hk2; first | exact f_linkBig _ _ _ _ _ | exact f_linked | exact c1 | exact c2 | exact c3 | exact c4 | exact f_ref09Same _ _ _ _ _ _ _ _ _ _ (by omega) (by omega) | exact f_linkIs _ _ _ _ _ (by omega) | exact f_linkRest _ _ _ _ _ (by omega) | exact f_ref05Bytes _ (by omega) | exact f_vtCost _ (by omega) | exact f_vtIs _ | fail)
        | refine s_opg ?_ (hy := by intro hk hk2; first | fail | fail)
        | refine s_skip ?_
        | ((first | refine w_alloc ?_ | refine w_box ?_) <;> intro bb)
        | ((first | refine w_emp ?_ | refine w_make ?_ | refine w_app ?_) <;> intro u hu1 hu2)
        | refine w_stv ?_ | refine w_str ?_ | refine w_cpr ?_ | refine w_cps ?_
        | refine al_last (by kernel_rfl) ?_
      | fail)
      all_goals exact ⟨_, [], rl_, List.nil_sublist _, Sub.refl _, rfl⟩
end Go.Proofs.YthkdpddfmnbijaaDoor
