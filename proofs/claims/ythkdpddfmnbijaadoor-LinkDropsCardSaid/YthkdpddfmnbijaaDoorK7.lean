/- Layer 9 (link): what a link sends, by the reference. No condition. -/
import Derived.Test.YthkdpddfmnbijaaDoorK6
namespace Go.Proofs.YthkdpddfmnbijaaDoor
set_option linter.unusedSimpArgs false
set_option linter.unusedVariables false
set_option maxHeartbeats 4000000
open Go Go.RowKit
set_option maxRecDepth 100000
attribute [local irreducible] thenA inBlockA AW AL AO QY varO rowO rsA Opd OpdN vA gvA tupA aggA slA slcA ipA rpA EqK LnK IxK LdK FaK FdK
theorem f_ref09Send (room : Int) (l : List Cmd) (sent pad : Int) (off : Bool) (g : Int) (hl : l.length ≤ 90000) (hg : g ≤ 9223372036854775807) : AP Tryd.prog tab0 36 [linkA room l sent pad off, I g] (sendL room l sent pad off g) := by
  have c1 := f_ref09Is room l sent pad off hl
  have c2 : True := trivial
  have c3 : True := trivial
  by_cases hk : okL room l sent pad = true ∧ off = false
  · rw [sendL, if_pos hk]
    obtain ⟨hk, rfl⟩ := hk
    have hs := okS_of hk
    rw [hk] at c1
    obtain ⟨hr, ha, h1, h2⟩ := okL_facts hk
    obtain ⟨n, rfl⟩ := Int.eq_ofNat_of_zero_le hr.2.2.2.2
    simp only [Int.toNat_natCast] at hs ⊢
    have hT := send_le (g := g) hs hr.2.2.1 hr.2.2.2.1
    have b1 := costM_le l
    have i0 := SendI.start (g := g) hs hr.2.2.1 hr.2.2.2.1
    generalize sendM l n pad g = T at *
    refine af_intro Tryd.func36 rfl (by decide) Tryd.ntmps36 rfl ?_
    repeat' (first
    | fail
    | refine s_y ?_
      | refine c_ ?_
      | (refine aw_if ?_ ?_ <;> intro hb <;> try (exfalso; first | assumption | omega | (simp only [or_self, and_self, not_true_eq_false, not_false_eq_true, or_false, false_or, and_false, false_and] at hb; done)))
      | refine s_call ?_ (c := by first | exact c1 | exact c2 | exact c3 | fail)
      | refine s_op ?_ (hy := by first | fail | fail)
      | refine s_yg ?_
      | refine s_callg ?_ (c := by intro hk hk2; first | exact c1 | exact c2 | exact c3 | fail)
      | refine s_opg ?_ (hy := by intro hk hk2; first | fail | fail)
      | refine s_skip ?_
      | ((first | refine w_alloc ?_ | refine w_box ?_) <;> intro bb)
      | ((first | refine w_emp ?_ | refine w_make ?_ | refine w_app ?_) <;> intro u hu1 hu2)
      | refine w_stv ?_ | refine w_str ?_ | refine w_cpr ?_ | refine w_cps ?_
      | refine al_last (by kernel_rfl) ?_
    | fail)
    refine aw_lv (σ := List UInt8 × List Cmd × Nat × Int × Int) (fun x => [(6, SA x.1), (1, I x.2.2.2.2)]) (fun x => [I room, slA cmdT x.2.1, I x.2.2.1, I x.2.2.2.1, B false]) (fun x => x.2.2.2.2 ≤ 9223372036854775807 ∧ SendI T l.length x.1 x.2.1 x.2.2.1 x.2.2.2.1 x.2.2.2.2) (fun x => x.2.1.length * 10 + (10 - x.2.2.1)) ([], l, n, pad, g) ⟨hg, i0⟩ rfl ?_
    rintro ⟨out, l', s, p, g'⟩ ⟨hg', i1⟩
    simp only at hg' i1 ⊢
    have hlen := i1.len
    have hout : out.length ≤ T.1.length := by rw [← i1.out, List.length_append]; omega
    clear hk c1 i0 hs
    cases l' with
    | nil =>
      have e := i1.stop (.inl rfl)
      have h0 : ([] : List Cmd).length = 0 := rfl
      subst e
      repeat' (first
      | fail
      | refine s_y ?_
        | refine c_ ?_
        | (refine aw_if ?_ ?_ <;> intro hb <;> try (exfalso; first | assumption | omega | (simp only [or_self, and_self, not_true_eq_false, not_false_eq_true, or_false, false_or, and_false, false_and] at hb; done)))
        | refine s_call ?_ (c := by first | exact c1 | exact c2 | exact c3 | fail)
        | refine s_op ?_ (hy := by first | fail | fail)
        | refine s_yg ?_
        | refine s_callg ?_ (c := by intro hk hk2; first | exact c1 | exact c2 | exact c3 | fail)
        | refine s_opg ?_ (hy := by intro hk hk2; first | fail | fail)
        | refine s_skip ?_
        | ((first | refine w_alloc ?_ | refine w_box ?_) <;> intro bb)
        | ((first | refine w_emp ?_ | refine w_make ?_ | refine w_app ?_) <;> intro u hu1 hu2)
        | refine w_stv ?_ | refine w_str ?_ | refine w_cpr ?_ | refine w_cps ?_
        | refine al_last (by kernel_rfl) ?_
      | fail)
      exact ⟨_, [], rl_, List.nil_sublist _, Sub.eq (by rfl), rfl⟩
    | cons c l' =>
      have hlt := i1.ok.2.2 c l' rfl
      simp only [List.length_cons] at hlen
      have h9 : (c :: l').length = l'.length + 1 := rfl
      by_cases hp : p = 0
      · subst hp
        have c2 : AP Tryd.prog tab0 44 [slA cmdT (List.take (1 - 0) (List.drop 0 (c :: l')))] (SA (putR' c).1) := (f_ref05Bytes [c] (by simp)).to (by rw [bytesM_one])
        have c3 : AP Tryd.prog tab0 23 [slA cmdT (List.take (1 - 0) (List.drop 0 (c :: l')))] (I (padC c)) := (f_ref05Pads [c] (by simp)).to (by rw [padsM_one])
        have hX : (putR' c).1.length = lenC c := rfl
        have hle := lenC_le c
        have hL : (((putR' c).1.drop s).take (s + 1 - s)).length = 1 := by rw [List.length_take, List.length_drop]; omega
        have e1 : ((putR' c).1.drop s).take (s + 1 - s) = ((putR' c).1.drop s).take 1 := by rw [Nat.add_sub_cancel_left]
        by_cases hg0 : g' ≤ 0
        · have e := i1.stop (.inr (.inr hg0))
          subst e
          repeat' (first
          | fail
          | refine s_y ?_
            | refine c_ ?_
            | (refine aw_if ?_ ?_ <;> intro hb <;> try (exfalso; first | assumption | omega | (simp only [or_self, and_self, not_true_eq_false, not_false_eq_true, or_false, false_or, and_false, false_and] at hb; done)))
            | refine s_call ?_ (c := by first | exact c1 | exact c2 | exact c3 | fail)
            | refine s_op ?_ (hy := by first | fail | fail)
            | refine s_yg ?_
            | refine s_callg ?_ (c := by intro hk hk2; first | exact c1 | exact c2 | exact c3 | fail)
            | refine s_opg ?_ (hy := by intro hk hk2; first | fail | fail)
            | refine s_skip ?_
            | ((first | refine w_alloc ?_ | refine w_box ?_) <;> intro bb)
            | ((first | refine w_emp ?_ | refine w_make ?_ | refine w_app ?_) <;> intro u hu1 hu2)
            | refine w_stv ?_ | refine w_str ?_ | refine w_cpr ?_ | refine w_cps ?_
            | refine al_last (by kernel_rfl) ?_
          | fail)
          exact ⟨_, [], rl_, List.nil_sublist _, Sub.eq (by rfl), rfl⟩
        · obtain ⟨m, rfl⟩ := Int.eq_ofNat_of_zero_le (show 0 ≤ g' by omega)
          have i2 := i1.byte (by omega)
          rw [show (m : Int) - 1 = ((m - 1 : Nat) : Int) by omega] at i2
          repeat' (first
          | fail
          | refine s_y ?_
            | refine c_ ?_
            | (refine aw_if ?_ ?_ <;> intro hb <;> try (exfalso; first | assumption | omega | (simp only [or_self, and_self, not_true_eq_false, not_false_eq_true, or_false, false_or, and_false, false_and] at hb; done)))
            | refine s_call ?_ (c := by first | exact c1 | exact c2 | exact c3 | fail)
            | refine s_op ?_ (hy := by first | fail | fail)
            | refine s_yg ?_
            | refine s_callg ?_ (c := by intro hk hk2; first | exact c1 | exact c2 | exact c3 | fail)
            | refine s_opg ?_ (hy := by intro hk hk2; first | fail | fail)
            | refine s_skip ?_
            | ((first | refine w_alloc ?_ | refine w_box ?_) <;> intro bb)
            | ((first | refine w_emp ?_ | refine w_make ?_ | refine w_app ?_) <;> intro u hu1 hu2)
            | refine w_stv ?_ | refine w_str ?_ | refine w_cpr ?_ | refine w_cps ?_
            | refine al_last (by kernel_rfl) ?_
          | fail)
          · have e2 : List.take ((c :: l').length - 1) (List.drop 1 (c :: l')) = l' := by simp
            refine ⟨(out ++ ((putR' c).1.drop s).take 1, l', 0, padC c, ((m - 1 : Nat) : Int)), ⟨by show ((m - 1 : Nat) : Int) ≤ _; omega, i2.1 (by omega)⟩, by simp; omega, ?_, ?_⟩
            · rw [e1]; dsimp only; exact wx_
            · rw [e2]; exact sl_
          · refine ⟨(out ++ ((putR' c).1.drop s).take 1, c :: l', s + 1, 0, ((m - 1 : Nat) : Int)), ⟨by show ((m - 1 : Nat) : Int) ≤ _; omega, i2.2 (by omega)⟩, by simp; omega, ?_, ?_⟩
            · rw [e1]; dsimp only; exact wx_
            · exact sl_
      · have e := i1.stop (.inr (.inl hp))
        subst e
        repeat' (first
        | fail
        | refine s_y ?_
          | refine c_ ?_
          | (refine aw_if ?_ ?_ <;> intro hb <;> try (exfalso; first | assumption | omega | (simp only [or_self, and_self, not_true_eq_false, not_false_eq_true, or_false, false_or, and_false, false_and] at hb; done)))
          | refine s_call ?_ (c := by first | exact c1 | exact c2 | exact c3 | fail)
          | refine s_op ?_ (hy := by first | fail | fail)
          | refine s_yg ?_
          | refine s_callg ?_ (c := by intro hk hk2; first | exact c1 | exact c2 | exact c3 | fail)
          | refine s_opg ?_ (hy := by intro hk hk2; first | fail | fail)
          | refine s_skip ?_
          | ((first | refine w_alloc ?_ | refine w_box ?_) <;> intro bb)
          | ((first | refine w_emp ?_ | refine w_make ?_ | refine w_app ?_) <;> intro u hu1 hu2)
          | refine w_stv ?_ | refine w_str ?_ | refine w_cpr ?_ | refine w_cps ?_
          | refine al_last (by kernel_rfl) ?_
        | fail)
        exact ⟨_, [], rl_, List.nil_sublist _, Sub.eq (by rfl), rfl⟩
  · rw [sendL, if_neg hk]
    by_cases hk1 : okL room l sent pad = true
    · have hoff : off = true := by
        cases off
        · exact absurd ⟨hk1, rfl⟩ hk
        · rfl
      subst hoff
      rw [hk1] at c1
      refine af_intro Tryd.func36 rfl (by decide) Tryd.ntmps36 rfl ?_
      repeat' (first
      | fail
      | refine s_y ?_
        | refine c_ ?_
        | (refine aw_if ?_ ?_ <;> intro hb <;> try (exfalso; first | assumption | omega | (simp only [or_self, and_self, not_true_eq_false, not_false_eq_true, or_false, false_or, and_false, false_and] at hb; done)))
        | refine s_call ?_ (c := by first | exact c1 | exact c2 | exact c3 | fail)
        | refine s_op ?_ (hy := by first | fail | fail)
        | refine s_yg ?_
        | refine s_callg ?_ (c := by intro hk hk2; first | exact c1 | exact c2 | exact c3 | fail)
        | refine s_opg ?_ (hy := by intro hk hk2; first | fail | fail)
        | refine s_skip ?_
        | ((first | refine w_alloc ?_ | refine w_box ?_) <;> intro bb)
        | ((first | refine w_emp ?_ | refine w_make ?_ | refine w_app ?_) <;> intro u hu1 hu2)
        | refine w_stv ?_ | refine w_str ?_ | refine w_cpr ?_ | refine w_cps ?_
        | refine al_last (by kernel_rfl) ?_
      | fail)
      exact ⟨_, [], rl_, List.nil_sublist _, Sub.refl _, rfl⟩
    · have hk2 : okL room l sent pad = false := by simpa using hk1
      rw [hk2] at c1
      refine af_intro Tryd.func36 rfl (by decide) Tryd.ntmps36 rfl ?_
      repeat' (first
      | fail
      | refine s_y ?_
        | refine c_ ?_
        | (refine aw_if ?_ ?_ <;> intro hb <;> try (exfalso; first | assumption | omega | (simp only [or_self, and_self, not_true_eq_false, not_false_eq_true, or_false, false_or, and_false, false_and] at hb; done)))
        | refine s_call ?_ (c := by first | exact c1 | exact c2 | exact c3 | fail)
        | refine s_op ?_ (hy := by first | fail | fail)
        | refine s_yg ?_
        | refine s_callg ?_ (c := by intro hk hk2; first | exact c1 | exact c2 | exact c3 | fail)
        | refine s_opg ?_ (hy := by intro hk hk2; first | fail | fail)
        | refine s_skip ?_
        | ((first | refine w_alloc ?_ | refine w_box ?_) <;> intro bb)
        | ((first | refine w_emp ?_ | refine w_make ?_ | refine w_app ?_) <;> intro u hu1 hu2)
        | refine w_stv ?_ | refine w_str ?_ | refine w_cpr ?_ | refine w_cps ?_
        | refine al_last (by kernel_rfl) ?_
      | fail)
      exact ⟨_, [], rl_, List.nil_sublist _, Sub.refl _, rfl⟩
end Go.Proofs.YthkdpddfmnbijaaDoor
