/- Layer 9 (link): what comes of a link, told plainly; the laws of offers, of what is sent, and of turns. No condition. -/
import Derived.Test.YthkdpddfmnbijaaDoorK9
namespace Go.Proofs.YthkdpddfmnbijaaDoor
set_option linter.unusedSimpArgs false
set_option linter.unusedVariables false
set_option maxHeartbeats 4000000
open Go Go.RowKit
set_option maxRecDepth 100000
theorem new_ex (room : Int) : ∃ r e, newL room = tupA [linkA r [] 0 0 false, I e] := by
  unfold newL; split <;> exact ⟨_, _, rfl⟩
theorem offer_ex (room : Int) (l : List Cmd) (sent pad : Int) (off : Bool) (c : Cmd) : ∃ r' l' s' p' o' e, offerL room l sent pad off c = tupA [linkA r' l' s' p' o', I e] ∧ l'.length ≤ l.length + 1
    ∧ (e = 0 → okL r' l' s' p' = true ∧ restL r' l' s' p' = restL room l sent pad ++ bytesM [c]) := by
  unfold offerL
  by_cases h : okL room l sent pad = true ∧ isCmd c = true
  · rw [if_pos h]
    by_cases hf : room < costM l - sent + lenC c
    · rw [if_pos hf]; exact ⟨_, _, _, _, _, _, rfl, by simp, fun e => by cases e⟩
    · rw [if_neg hf]
      obtain ⟨h1, h2⟩ := h
      obtain ⟨f1, f2, f3, f4⟩ := okL_facts h1
      have e1 : costM (l ++ [c]) = costM l + lenC c := by rw [costM_app, costM_one]
      have hok : okL room (l ++ [c]) sent pad = true := by
        cases l with
        | nil =>
          have := (okL_nil.1 h1).2
          subst this
          exact okL_cons.2 ⟨f1, by simp [h2], by have := lenC_pos h2; omega, by rw [List.nil_append] at e1; omega⟩
        | cons d l =>
          have := okL_cons.1 h1
          exact (show okL room (d :: (l ++ [c])) sent pad = true from okL_cons.2 ⟨f1, by rw [← List.cons_append, List.all_append, this.2.1]; simp [h2], this.2.2.1, by rw [← List.cons_append]; omega⟩)
      refine ⟨_, _, _, _, _, _, rfl, by simp, fun _ => ⟨hok, ?_⟩⟩
      rw [restL, if_pos hok, restL, if_pos h1, bytesM_app, List.drop_append_of_le_length (by rw [bytesM_len]; omega)]
  · rw [if_neg h]; exact ⟨_, _, _, _, _, _, rfl, by simp, fun e => by cases e⟩
theorem send_ex (room : Int) (l : List Cmd) (sent pad : Int) (off : Bool) (g : Int) : ∃ out l' s' p', sendL room l sent pad off g = tupA [SA out, linkA room l' s' p' off] ∧ l'.length ≤ l.length ∧ out.length ≤ 8 * l.length
    ∧ out ++ restL room l' s' p' = restL room l sent pad ∧ okL room l' s' p' = okL room l sent pad ∧ (out ≠ [] → okL room l sent pad = true ∧ off = false ∧ pad = 0 ∧ (out.length : Int) ≤ g)
    ∧ ((out.length : Int) < g → off = false → pad = 0 → p' = 0 → restL room l' s' p' = []) := by
  unfold sendL
  by_cases h : okL room l sent pad = true ∧ off = false
  · rw [if_pos h]
    obtain ⟨h1, rfl⟩ := h
    obtain ⟨f1, f2, f3, f4⟩ := okL_facts h1
    have hs := okS_of h1
    obtain ⟨a1, a2, a3, a4, a5, a6, k, a7, a8⟩ := send_all l sent.toNat pad g hs (by omega) (by omega)
    have hle := send_le (p := pad) (g := g) hs (by omega) (by omega)
    have b1 := costM_le l
    generalize sendM l sent.toNat pad g = T at *
    have e3 := congrArg List.length a3
    rw [List.length_append, List.length_drop, List.length_drop, bytesM_len, bytesM_len] at e3
    have hcost : T.2.2.1 ≤ costM T.2.1 := by
      cases hc : T.2.1 with
      | nil => have := a1.2.1 hc; omega
      | cons c r => have := a1.2.2 c r hc; rw [costM_cons]; omega
    have hok : okL room T.2.1 T.2.2.1 T.2.2.2 = true := okL_of a1 (by omega) (by omega)
    refine ⟨_, _, _, _, rfl, by rw [a7, List.length_drop]; omega, by omega, ?_, by rw [hok, h1], fun e => ?_, fun q1 _ q3 q4 => ?_⟩
    · rw [restL, if_pos hok, restL, if_pos h1]; simpa using a3
    · have := a5 e
      have hp : 0 < T.1.length := List.length_pos_iff.2 e
      exact ⟨h1, rfl, this, by omega⟩
    · rw [restL, if_pos hok, a6 q1 q3 q4]; simp [bytesM]
  · rw [if_neg h]
    refine ⟨_, _, _, _, rfl, Nat.le_refl _, by simp, by simp, rfl, fun e => absurd rfl e, fun q1 q2 q3 _ => ?_⟩
    rw [restL, if_neg (fun e => h ⟨e, q2⟩)]
theorem dropK_len (room : Int) (l : List Cmd) (sent pad : Int) : (dropK room l sent pad).length ≤ l.length := by
  unfold dropK; split
  · rw [List.length_take]; omega
  · exact Nat.le_refl _
theorem goneK_len (room : Int) (l : List Cmd) (sent pad : Int) : (goneK room l sent pad).length ≤ l.length := by
  unfold goneK; split
  · rw [List.length_drop]; omega
  · simp
attribute [local irreducible] thenA inBlockA AW AL AO QY varO rowO rsA Opd OpdN vA gvA tupA aggA slA slcA ipA rpA EqK LnK IxK LdK FaK FdK
theorem l_LinkOffers (room : Int) (l : List Cmd) (sent pad : Int) (off : Bool) (c : Cmd) (n : Int) : AP Tryd.prog tab0 8 [linkA room l sent pad off, cmdA c, I n] (B true) := by
  by_cases hl : l.length ≤ 200
  · obtain ⟨r', l', s', p', o', e', h1, h2, _⟩ := offer_ex room l sent pad off c
    obtain ⟨r2, e2, h3⟩ := new_ex n
    have h0 : ([] : List Cmd).length = 0 := rfl
    have c1 : AP Tryd.prog tab0 25 [linkA room l sent pad off, cmdA c] (tupA [linkA r' l' s' p' o', I e']) := (f_linkOffer room l sent pad off c (by omega)).to h1
    have c2 : AP Tryd.prog tab0 26 [linkA room l sent pad off, cmdA c] (tupA [linkA r' l' s' p' o', I e']) := (f_ref09Offer room l sent pad off c (by omega)).to h1
    have c3 : AP Tryd.prog tab0 27 [I n] (tupA [linkA r2 [] 0 0 false, I e2]) := (f_linkNew n).to h3
    have c4 : AP Tryd.prog tab0 28 [I n] (tupA [linkA r2 [] 0 0 false, I e2]) := (f_ref09New n).to h3
    refine af_intro Tryd.func8 rfl (by decide) Tryd.ntmps8 rfl ?_
    repeat' (first
    | fail
    | refine s_y ?_
      | refine c_ ?_
      | (refine aw_if ?_ ?_ <;> intro hb <;> try (exfalso; first | assumption | omega | (simp only [or_self, and_self, not_true_eq_false, not_false_eq_true, or_false, false_or, and_false, false_and, true_and, and_true] at hb; first | done | omega)))
      | refine s_call ?_ (c := by first | exact f_linkBig _ _ _ _ _ | exact f_linked | exact c1 | exact c2 | exact c3 | exact c4 | exact f_ref09Same _ _ _ _ _ _ _ _ _ _ (by omega) (by omega) | exact f_ref05Same _ _ (by omega) (by omega) | exact f_linkIs _ _ _ _ _ (by omega) | exact f_ref09Is _ _ _ _ _ (by omega) | exact f_linkRest _ _ _ _ _ (by omega) | exact f_ref09Rest _ _ _ _ _ (by omega) | fail)
      | refine s_op ?_ (hy := by first | fail | fail)
      | refine s_yg ?_
      | refine s_callg ?_ (c := by intro hk hk2; first | exact f_linkBig _ _ _ _ _ | exact f_linked | exact c1 | exact c2 | exact c3 | exact c4 | exact f_ref09Same _ _ _ _ _ _ _ _ _ _ (by omega) (by omega) | exact f_ref05Same _ _ (by omega) (by omega) | exact f_linkIs _ _ _ _ _ (by omega) | exact f_ref09Is _ _ _ _ _ (by omega) | exact f_linkRest _ _ _ _ _ (by omega) | exact f_ref09Rest _ _ _ _ _ (by omega) | fail)
      | refine s_opg ?_ (hy := by intro hk hk2; first | fail | fail)
      | refine s_skip ?_
      | ((first | refine w_alloc ?_ | refine w_box ?_) <;> intro bb)
      | ((first | refine w_emp ?_ | refine w_make ?_ | refine w_app ?_) <;> intro u hu1 hu2)
      | refine w_stv ?_ | refine w_str ?_ | refine w_cpr ?_ | refine w_cps ?_
      | refine al_last (by kernel_rfl) ?_
    | fail)
    exact ⟨_, [], rl_, List.nil_sublist _, Sub.eq (congrArg B (by simp)), rfl⟩
  · have c1 : True := trivial
    have c2 : True := trivial
    have c3 : True := trivial
    have c4 : True := trivial
    refine af_intro Tryd.func8 rfl (by decide) Tryd.ntmps8 rfl ?_
    repeat' (first
    | fail
    | refine s_y ?_
      | refine c_ ?_
      | (refine aw_if ?_ ?_ <;> intro hb <;> try (exfalso; first | assumption | omega | (simp only [or_self, and_self, not_true_eq_false, not_false_eq_true, or_false, false_or, and_false, false_and, true_and, and_true] at hb; first | done | omega)))
      | refine s_call ?_ (c := by first | exact f_linkBig _ _ _ _ _ | exact f_linked | exact c1 | exact c2 | exact c3 | exact c4 | exact f_ref09Same _ _ _ _ _ _ _ _ _ _ (by omega) (by omega) | exact f_ref05Same _ _ (by omega) (by omega) | exact f_linkIs _ _ _ _ _ (by omega) | exact f_ref09Is _ _ _ _ _ (by omega) | exact f_linkRest _ _ _ _ _ (by omega) | exact f_ref09Rest _ _ _ _ _ (by omega) | fail)
      | refine s_op ?_ (hy := by first | fail | fail)
      | refine s_yg ?_
      | refine s_callg ?_ (c := by intro hk hk2; first | exact f_linkBig _ _ _ _ _ | exact f_linked | exact c1 | exact c2 | exact c3 | exact c4 | exact f_ref09Same _ _ _ _ _ _ _ _ _ _ (by omega) (by omega) | exact f_ref05Same _ _ (by omega) (by omega) | exact f_linkIs _ _ _ _ _ (by omega) | exact f_ref09Is _ _ _ _ _ (by omega) | exact f_linkRest _ _ _ _ _ (by omega) | exact f_ref09Rest _ _ _ _ _ (by omega) | fail)
      | refine s_opg ?_ (hy := by intro hk hk2; first | fail | fail)
      | refine s_skip ?_
      | ((first | refine w_alloc ?_ | refine w_box ?_) <;> intro bb)
      | ((first | refine w_emp ?_ | refine w_make ?_ | refine w_app ?_) <;> intro u hu1 hu2)
      | refine w_stv ?_ | refine w_str ?_ | refine w_cpr ?_ | refine w_cps ?_
      | refine al_last (by kernel_rfl) ?_
    | fail)
    exact ⟨_, [], rl_, List.nil_sublist _, Sub.refl _, rfl⟩
theorem l_LinkSends (room : Int) (l : List Cmd) (sent pad : Int) (off : Bool) (g : Int) (hg : g ≤ 9223372036854775807) : AP Tryd.prog tab0 9 [linkA room l sent pad off, I g] (B true) := by
  have c3 : True := trivial
  have c4 : True := trivial
  by_cases hl : l.length ≤ 200
  · obtain ⟨out, l', s', p', h1, h2, _⟩ := send_ex room l sent pad off g
    have c1 : AP Tryd.prog tab0 35 [linkA room l sent pad off, I g] (tupA [SA out, linkA room l' s' p' off]) := (f_linkSend room l sent pad off g (by omega) hg).to h1
    have c2 : AP Tryd.prog tab0 36 [linkA room l sent pad off, I g] (tupA [SA out, linkA room l' s' p' off]) := (f_ref09Send room l sent pad off g (by omega) hg).to h1
    refine af_intro Tryd.func9 rfl (by decide) Tryd.ntmps9 rfl ?_
    repeat' (first
    | fail
    | refine s_y ?_
      | refine c_ ?_
      | (refine aw_if ?_ ?_ <;> intro hb <;> try (exfalso; first | assumption | omega | (simp only [or_self, and_self, not_true_eq_false, not_false_eq_true, or_false, false_or, and_false, false_and, true_and, and_true] at hb; first | done | omega)))
      | refine s_call ?_ (c := by first | exact f_linkBig _ _ _ _ _ | exact f_linked | exact c1 | exact c2 | exact c3 | exact c4 | exact f_ref09Same _ _ _ _ _ _ _ _ _ _ (by omega) (by omega) | exact f_ref05Same _ _ (by omega) (by omega) | exact f_linkIs _ _ _ _ _ (by omega) | exact f_ref09Is _ _ _ _ _ (by omega) | exact f_linkRest _ _ _ _ _ (by omega) | exact f_ref09Rest _ _ _ _ _ (by omega) | fail)
      | refine s_op ?_ (hy := by first | fail | fail)
      | refine s_yg ?_
      | refine s_callg ?_ (c := by intro hk hk2; first | exact f_linkBig _ _ _ _ _ | exact f_linked | exact c1 | exact c2 | exact c3 | exact c4 | exact f_ref09Same _ _ _ _ _ _ _ _ _ _ (by omega) (by omega) | exact f_ref05Same _ _ (by omega) (by omega) | exact f_linkIs _ _ _ _ _ (by omega) | exact f_ref09Is _ _ _ _ _ (by omega) | exact f_linkRest _ _ _ _ _ (by omega) | exact f_ref09Rest _ _ _ _ _ (by omega) | fail)
      | refine s_opg ?_ (hy := by intro hk hk2; first | fail | fail)
      | refine s_skip ?_
      | ((first | refine w_alloc ?_ | refine w_box ?_) <;> intro bb)
      | ((first | refine w_emp ?_ | refine w_make ?_ | refine w_app ?_) <;> intro u hu1 hu2)
      | refine w_stv ?_ | refine w_str ?_ | refine w_cpr ?_ | refine w_cps ?_
      | refine al_last (by kernel_rfl) ?_
    | fail)
    exact ⟨_, [], rl_, List.nil_sublist _, Sub.eq (congrArg B (by simp)), rfl⟩
  · have c1 : True := trivial
    have c2 : True := trivial
    refine af_intro Tryd.func9 rfl (by decide) Tryd.ntmps9 rfl ?_
    repeat' (first
    | fail
    | refine s_y ?_
      | refine c_ ?_
      | (refine aw_if ?_ ?_ <;> intro hb <;> try (exfalso; first | assumption | omega | (simp only [or_self, and_self, not_true_eq_false, not_false_eq_true, or_false, false_or, and_false, false_and, true_and, and_true] at hb; first | done | omega)))
      | refine s_call ?_ (c := by first | exact f_linkBig _ _ _ _ _ | exact f_linked | exact c1 | exact c2 | exact c3 | exact c4 | exact f_ref09Same _ _ _ _ _ _ _ _ _ _ (by omega) (by omega) | exact f_ref05Same _ _ (by omega) (by omega) | exact f_linkIs _ _ _ _ _ (by omega) | exact f_ref09Is _ _ _ _ _ (by omega) | exact f_linkRest _ _ _ _ _ (by omega) | exact f_ref09Rest _ _ _ _ _ (by omega) | fail)
      | refine s_op ?_ (hy := by first | fail | fail)
      | refine s_yg ?_
      | refine s_callg ?_ (c := by intro hk hk2; first | exact f_linkBig _ _ _ _ _ | exact f_linked | exact c1 | exact c2 | exact c3 | exact c4 | exact f_ref09Same _ _ _ _ _ _ _ _ _ _ (by omega) (by omega) | exact f_ref05Same _ _ (by omega) (by omega) | exact f_linkIs _ _ _ _ _ (by omega) | exact f_ref09Is _ _ _ _ _ (by omega) | exact f_linkRest _ _ _ _ _ (by omega) | exact f_ref09Rest _ _ _ _ _ (by omega) | fail)
      | refine s_opg ?_ (hy := by intro hk hk2; first | fail | fail)
      | refine s_skip ?_
      | ((first | refine w_alloc ?_ | refine w_box ?_) <;> intro bb)
      | ((first | refine w_emp ?_ | refine w_make ?_ | refine w_app ?_) <;> intro u hu1 hu2)
      | refine w_stv ?_ | refine w_str ?_ | refine w_cpr ?_ | refine w_cps ?_
      | refine al_last (by kernel_rfl) ?_
    | fail)
    exact ⟨_, [], rl_, List.nil_sublist _, Sub.refl _, rfl⟩
theorem l_LinkTurns (room : Int) (l : List Cmd) (sent pad : Int) (off b : Bool) : AP Tryd.prog tab0 10 [linkA room l sent pad off, B b] (B true) := by
  have h1 := dropK_len room l sent pad
  have h2 := goneK_len room l sent pad
  refine af_intro Tryd.func10 rfl (by decide) Tryd.ntmps10 rfl ?_
  repeat' (first
  | fail
  | refine s_y ?_
    | refine c_ ?_
    | (refine aw_if ?_ ?_ <;> intro hb <;> try (exfalso; first | assumption | omega | (simp only [or_self, and_self, not_true_eq_false, not_false_eq_true, or_false, false_or, and_false, false_and, true_and, and_true] at hb; first | done | omega)))
    | refine s_call ?_ (c := by first | exact f_linkBig _ _ _ _ _ | exact f_linked | exact f_linkDrop _ _ _ _ _ (by omega) | exact f_ref09Drop _ _ _ _ _ (by omega) | exact f_linkTick _ _ _ _ _ (by omega) | exact f_ref09Tick _ _ _ _ _ (by omega) | exact f_linkHold _ _ _ _ _ _ (by omega) | exact f_ref09Hold _ _ _ _ _ _ (by omega) | exact f_ref09Same _ _ _ _ _ _ _ _ _ _ (by omega) (by omega) | exact f_ref05Same _ _ (by omega) (by omega) | fail)
    | refine s_op ?_ (hy := by first | fail | fail)
    | refine s_yg ?_
    | refine s_callg ?_ (c := by intro hk hk2; first | exact f_linkBig _ _ _ _ _ | exact f_linked | exact f_linkDrop _ _ _ _ _ (by omega) | exact f_ref09Drop _ _ _ _ _ (by omega) | exact f_linkTick _ _ _ _ _ (by omega) | exact f_ref09Tick _ _ _ _ _ (by omega) | exact f_linkHold _ _ _ _ _ _ (by omega) | exact f_ref09Hold _ _ _ _ _ _ (by omega) | exact f_ref09Same _ _ _ _ _ _ _ _ _ _ (by omega) (by omega) | exact f_ref05Same _ _ (by omega) (by omega) | fail)
    | refine s_opg ?_ (hy := by intro hk hk2; first | fail | fail)
    | refine s_skip ?_
    | ((first | refine w_alloc ?_ | refine w_box ?_) <;> intro bb)
    | ((first | refine w_emp ?_ | refine w_make ?_ | refine w_app ?_) <;> intro u hu1 hu2)
    | refine w_stv ?_ | refine w_str ?_ | refine w_cpr ?_ | refine w_cps ?_
    | refine al_last (by kernel_rfl) ?_
  | fail)
  · exact ⟨_, [], rl_, List.nil_sublist _, Sub.refl _, rfl⟩
  · exact ⟨_, [], rl_, List.nil_sublist _, Sub.eq (congrArg B (by simp)), rfl⟩
end Go.Proofs.YthkdpddfmnbijaaDoor
