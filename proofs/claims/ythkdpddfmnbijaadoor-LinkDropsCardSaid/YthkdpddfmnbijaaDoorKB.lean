/- Layer 9 (link): the laws without the reference: what stays, grants, parts, drops. No condition. -/
import Derived.Test.YthkdpddfmnbijaaDoorKA
namespace Go.Proofs.YthkdpddfmnbijaaDoor
set_option linter.unusedSimpArgs false
set_option linter.unusedVariables false
set_option maxHeartbeats 4000000
open Go Go.RowKit
set_option maxRecDepth 100000
theorem restL_le (room : Int) (l : List Cmd) (sent pad : Int) : (restL room l sent pad).length ≤ 8 * l.length := by
  have := costM_le l
  unfold restL; split
  · rw [List.length_drop, bytesM_len]; omega
  · simp
theorem okL_set {room sent pad pad' : Int} {l : List Cmd} (h : okL room l sent pad = true) (h1 : 0 ≤ pad') (h2 : pad' ≤ 2) : okL room l sent pad' = true := by
  cases l with
  | nil => have := okL_nil.1 h; exact okL_nil.2 ⟨by omega, this.2⟩
  | cons c l => have := okL_cons.1 h; exact okL_cons.2 ⟨by omega, this.2⟩
theorem restL_set {room sent pad pad' : Int} {l : List Cmd} (h : okL room l sent pad = true) (h1 : 0 ≤ pad') (h2 : pad' ≤ 2) : restL room l sent pad' = restL room l sent pad := by
  rw [restL, if_pos (okL_set h h1 h2), restL, if_pos h]
theorem drop_facts {room sent pad : Int} {l : List Cmd} (h : okL room l sent pad = true) : okL room (dropK room l sent pad) sent pad = true ∧ restL room (dropK room l sent pad) sent pad ++ bytesM (goneK room l sent pad) = restL room l sent pad
    ∧ costM (dropK room l sent pad) ≤ 8 ∧ dropK room (dropK room l sent pad) sent pad = dropK room l sent pad ∧ goneK room (dropK room l sent pad) sent pad = [] ∧ (0 < sent ∨ restL room (dropK room l sent pad) sent pad = []) ∧ (goneK room l sent pad).all isCmd = true := by
  obtain ⟨f1, f2, f3, f4⟩ := okL_facts h
  have e1 : dropK room l sent pad = l.take (dropN sent) := by rw [dropK, if_pos h]
  have e2 : goneK room l sent pad = l.drop (dropN sent) := by rw [goneK, if_pos h]
  have hd := dropN_le h
  have hn : dropN sent ≤ 1 := by unfold dropN; split <;> omega
  have b1 := costM_le (l.take (dropN sent))
  have e3 : (l.take (dropN sent)).length = dropN sent := by rw [List.length_take]; omega
  have hs : sent ≤ costM (l.take (dropN sent)) := by
    unfold dropN; split
    · cases l with
      | nil => have := okL_nil.1 h; omega
      | cons c l => have := okL_cons.1 h; simp [costM]; omega
    · omega
  have hok : okL room (l.take (dropN sent)) sent pad = true := by
    cases l with
    | nil => simpa using h
    | cons c l =>
      have := okL_cons.1 h
      have hl := lenC_le c
      unfold dropN; split
      · refine okL_cons.2 ⟨f1, ?_, this.2.2.1, ?_⟩
        · have := this.2.1; simp only [List.all_cons, Bool.and_eq_true] at this; simp [this.1]
        · rw [costM_cons]; simp [costM]; omega
      · exact okL_nil.2 ⟨f1, by omega⟩
  rw [e1, e2]
  have e4 : dropK room (l.take (dropN sent)) sent pad = l.take (dropN sent) := by rw [dropK, if_pos hok, List.take_take, Nat.min_self]
  refine ⟨hok, ?_, by omega, e4, ?_, ?_, ?_⟩
  · rw [restL, if_pos hok, restL, if_pos h]
    have : bytesM l = bytesM (l.take (dropN sent)) ++ bytesM (l.drop (dropN sent)) := by rw [← bytesM_app, List.take_append_drop]
    rw [this, List.drop_append_of_le_length (by rw [bytesM_len]; omega)]
  · rw [goneK, if_pos hok]
    exact List.eq_nil_of_length_eq_zero (by rw [List.length_drop, e3]; omega)
  · by_cases hp : 0 < sent
    · exact .inl hp
    · right
      rw [restL, if_pos hok, dropN, if_neg hp]; simp [bytesM]
  · rw [List.all_eq_true] at f2 ⊢
    exact fun x hx => f2 x (List.mem_of_mem_drop hx)
attribute [local irreducible] thenA inBlockA AW AL AO QY varO rowO rsA Opd OpdN vA gvA tupA aggA slA slcA ipA rpA EqK LnK IxK LdK FaK FdK
theorem l_LinkStays (room : Int) (l : List Cmd) (sent pad : Int) (off : Bool) (c : Cmd) (g : Int) (b : Bool) (hg : g ≤ 9223372036854775807) : AP Tryd.prog tab0 11 [linkA room l sent pad off, cmdA c, I g, B b] (B true) := by
  have c3 : True := trivial
  have c4 : True := trivial
  by_cases hl : l.length ≤ 200 ∧ okL room l sent pad = true
  · obtain ⟨hl, hk⟩ := hl
    obtain ⟨r', l', s', p', o', e', h1, h2, h3⟩ := offer_ex room l sent pad off c
    obtain ⟨out, l2, s2, p2, h4, h5, _, _, h6, _⟩ := send_ex room l sent pad off g
    have h7 := dropK_len room l sent pad
    have h8 := drop_facts hk
    obtain ⟨f1, f2, f3, f4⟩ := okL_facts hk
    have e1 : tickP room l sent pad = max 0 (pad - 1) := by rw [tickP, if_pos hk]
    have e2 : holdP room l sent pad off b = b := by rw [holdP, if_pos hk]
    have e3 := okL_set hk (pad' := max 0 (pad - 1)) (by omega) (by omega)
    have e4 := restL_set hk (pad' := max 0 (pad - 1)) (by omega) (by omega)
    have e5 := restL_le room l sent pad
    have e6 : (bytesM [c]).length ≤ 8 := by rw [bytesM_one]; exact lenC_le c
    have c1 : AP Tryd.prog tab0 25 [linkA room l sent pad off, cmdA c] (tupA [linkA r' l' s' p' o', I e']) := (f_linkOffer room l sent pad off c (by omega)).to h1
    have c2 : AP Tryd.prog tab0 35 [linkA room l sent pad off, I g] (tupA [SA out, linkA room l2 s2 p2 off]) := (f_linkSend room l sent pad off g (by omega) hg).to h4
    refine af_intro Tryd.func11 rfl (by decide) Tryd.ntmps11 rfl ?_
    repeat' (first
    | fail
    | refine s_y ?_
      | refine c_ ?_
      | (refine aw_if ?_ ?_ <;> intro hb <;> try (exfalso; first | assumption | omega | (simp only [or_self, and_self, not_true_eq_false, not_false_eq_true, or_false, false_or, and_false, false_and, true_and, and_true] at hb; first | done | omega)))
      | refine s_call ?_ (c := by first | exact f_linkBig _ _ _ _ _ | exact f_linked | exact c1 | exact c2 | exact c3 | exact c4 | exact f_linkDrop _ _ _ _ _ (by omega) | exact f_linkTick _ _ _ _ _ (by omega) | exact f_linkHold _ _ _ _ _ _ (by omega) | exact f_ref09Same _ _ _ _ _ _ _ _ _ _ (by omega) (by omega) | exact f_ref05Same _ _ (by omega) (by omega) | exact f_linkIs _ _ _ _ _ (by omega) | exact f_linkRest _ _ _ _ _ (by omega) | exact f_ref05Bytes _ (by omega) | exact f_ref05Bytes _ gb_ | exact f_vtCost _ (by omega) | fail)
      | refine s_op ?_ (hy := by first | (apply bs_cmdA rfl un_; exact oo_; done) | (apply bs_cmdA rfl un_; exact oog_; done) | fail)
      | refine s_yg ?_
      | refine s_callg ?_ (c := by intro hk hk2; first | exact f_linkBig _ _ _ _ _ | exact f_linked | exact c1 | exact c2 | exact c3 | exact c4 | exact f_linkDrop _ _ _ _ _ (by omega) | exact f_linkTick _ _ _ _ _ (by omega) | exact f_linkHold _ _ _ _ _ _ (by omega) | exact f_ref09Same _ _ _ _ _ _ _ _ _ _ (by omega) (by omega) | exact f_ref05Same _ _ (by omega) (by omega) | exact f_linkIs _ _ _ _ _ (by omega) | exact f_linkRest _ _ _ _ _ (by omega) | exact f_ref05Bytes _ (by omega) | exact f_ref05Bytes _ gb_ | exact f_vtCost _ (by omega) | fail)
      | refine s_opg ?_ (hy := by intro hk hk2; first | (apply bs_cmdA rfl un_; exact oo_; done) | (apply bs_cmdA rfl un_; exact oog_; done) | fail)
      | refine s_skip ?_
      | ((first | refine w_alloc ?_ | refine w_box ?_) <;> intro bb)
      | ((first | refine w_emp ?_ | refine w_make ?_ | refine w_app ?_) <;> intro u hu1 hu2)
      | refine w_stv ?_ | refine w_str ?_ | refine w_cpr ?_ | refine w_cps ?_
      | refine al_last (by kernel_rfl) ?_
    | fail)
    · exact ⟨_, [], rl_, List.nil_sublist _, Sub.refl _, rfl⟩
    · exfalso
      obtain ⟨q1, q2⟩ := hb
      obtain ⟨q3, q4⟩ := h3 q1
      rcases q2 with q2 | q2
      · rw [q3] at q2; cases q2
      · exact q2 q4
    · exact ⟨_, [], rl_, List.nil_sublist _, Sub.eq (congrArg B (by rw [e1, e2, e3, e4, h6, hk, h8.1]; simp)), rfl⟩
  · have c1 : True := trivial
    have c2 : True := trivial
    by_cases hl2 : l.length ≤ 200
    · have hk2 : okL room l sent pad = false := by
        cases hk : okL room l sent pad
        · rfl
        · exact absurd ⟨hl2, hk⟩ hl
      have c1 := f_linkIs room l sent pad off (by omega)
      rw [hk2] at c1
      refine af_intro Tryd.func11 rfl (by decide) Tryd.ntmps11 rfl ?_
      repeat' (first
      | fail
      | refine s_y ?_
        | refine c_ ?_
        | (refine aw_if ?_ ?_ <;> intro hb <;> try (exfalso; first | assumption | omega | (simp only [or_self, and_self, not_true_eq_false, not_false_eq_true, or_false, false_or, and_false, false_and, true_and, and_true] at hb; first | done | omega)))
        | refine s_call ?_ (c := by first | exact f_linkBig _ _ _ _ _ | exact f_linked | exact c1 | exact c2 | exact c3 | exact c4 | exact f_linkDrop _ _ _ _ _ (by omega) | exact f_linkTick _ _ _ _ _ (by omega) | exact f_linkHold _ _ _ _ _ _ (by omega) | exact f_ref09Same _ _ _ _ _ _ _ _ _ _ (by omega) (by omega) | exact f_ref05Same _ _ (by omega) (by omega) | exact f_linkIs _ _ _ _ _ (by omega) | exact f_linkRest _ _ _ _ _ (by omega) | exact f_ref05Bytes _ (by omega) | exact f_ref05Bytes _ gb_ | exact f_vtCost _ (by omega) | fail)
        | refine s_op ?_ (hy := by first | (apply bs_cmdA rfl un_; exact oo_; done) | (apply bs_cmdA rfl un_; exact oog_; done) | fail)
        | refine s_yg ?_
        | refine s_callg ?_ (c := by intro hk hk2; first | exact f_linkBig _ _ _ _ _ | exact f_linked | exact c1 | exact c2 | exact c3 | exact c4 | exact f_linkDrop _ _ _ _ _ (by omega) | exact f_linkTick _ _ _ _ _ (by omega) | exact f_linkHold _ _ _ _ _ _ (by omega) | exact f_ref09Same _ _ _ _ _ _ _ _ _ _ (by omega) (by omega) | exact f_ref05Same _ _ (by omega) (by omega) | exact f_linkIs _ _ _ _ _ (by omega) | exact f_linkRest _ _ _ _ _ (by omega) | exact f_ref05Bytes _ (by omega) | exact f_ref05Bytes _ gb_ | exact f_vtCost _ (by omega) | fail)
        | refine s_opg ?_ (hy := by intro hk hk2; first | (apply bs_cmdA rfl un_; exact oo_; done) | (apply bs_cmdA rfl un_; exact oog_; done) | fail)
        | refine s_skip ?_
        | ((first | refine w_alloc ?_ | refine w_box ?_) <;> intro bb)
        | ((first | refine w_emp ?_ | refine w_make ?_ | refine w_app ?_) <;> intro u hu1 hu2)
        | refine w_stv ?_ | refine w_str ?_ | refine w_cpr ?_ | refine w_cps ?_
        | refine al_last (by kernel_rfl) ?_
      | fail)
      all_goals first | exact ⟨_, [], rl_, List.nil_sublist _, Sub.refl _, rfl⟩ | (exfalso; simp at hb; done)
    · refine af_intro Tryd.func11 rfl (by decide) Tryd.ntmps11 rfl ?_
      repeat' (first
      | fail
      | refine s_y ?_
        | refine c_ ?_
        | (refine aw_if ?_ ?_ <;> intro hb <;> try (exfalso; first | assumption | omega | (simp only [or_self, and_self, not_true_eq_false, not_false_eq_true, or_false, false_or, and_false, false_and, true_and, and_true] at hb; first | done | omega)))
        | refine s_call ?_ (c := by first | exact f_linkBig _ _ _ _ _ | exact f_linked | exact c1 | exact c2 | exact c3 | exact c4 | exact f_linkDrop _ _ _ _ _ (by omega) | exact f_linkTick _ _ _ _ _ (by omega) | exact f_linkHold _ _ _ _ _ _ (by omega) | exact f_ref09Same _ _ _ _ _ _ _ _ _ _ (by omega) (by omega) | exact f_ref05Same _ _ (by omega) (by omega) | exact f_linkIs _ _ _ _ _ (by omega) | exact f_linkRest _ _ _ _ _ (by omega) | exact f_ref05Bytes _ (by omega) | exact f_ref05Bytes _ gb_ | exact f_vtCost _ (by omega) | fail)
        | refine s_op ?_ (hy := by first | (apply bs_cmdA rfl un_; exact oo_; done) | (apply bs_cmdA rfl un_; exact oog_; done) | fail)
        | refine s_yg ?_
        | refine s_callg ?_ (c := by intro hk hk2; first | exact f_linkBig _ _ _ _ _ | exact f_linked | exact c1 | exact c2 | exact c3 | exact c4 | exact f_linkDrop _ _ _ _ _ (by omega) | exact f_linkTick _ _ _ _ _ (by omega) | exact f_linkHold _ _ _ _ _ _ (by omega) | exact f_ref09Same _ _ _ _ _ _ _ _ _ _ (by omega) (by omega) | exact f_ref05Same _ _ (by omega) (by omega) | exact f_linkIs _ _ _ _ _ (by omega) | exact f_linkRest _ _ _ _ _ (by omega) | exact f_ref05Bytes _ (by omega) | exact f_ref05Bytes _ gb_ | exact f_vtCost _ (by omega) | fail)
        | refine s_opg ?_ (hy := by intro hk hk2; first | (apply bs_cmdA rfl un_; exact oo_; done) | (apply bs_cmdA rfl un_; exact oog_; done) | fail)
        | refine s_skip ?_
        | ((first | refine w_alloc ?_ | refine w_box ?_) <;> intro bb)
        | ((first | refine w_emp ?_ | refine w_make ?_ | refine w_app ?_) <;> intro u hu1 hu2)
        | refine w_stv ?_ | refine w_str ?_ | refine w_cpr ?_ | refine w_cps ?_
        | refine al_last (by kernel_rfl) ?_
      | fail)
      all_goals exact ⟨_, [], rl_, List.nil_sublist _, Sub.refl _, rfl⟩
theorem l_LinkGrants (room : Int) (l : List Cmd) (sent pad : Int) (off : Bool) (g : Int) (hg : g ≤ 9223372036854775807) : AP Tryd.prog tab0 12 [linkA room l sent pad off, I g] (B true) := by
  have c3 : True := trivial
  have c4 : True := trivial
  by_cases hl : l.length ≤ 200
  · obtain ⟨out, l2, s2, p2, h4, h5, h6, h7, h8, h9, h10⟩ := send_ex room l sent pad off g
    have e5 := restL_le room l2 s2 p2
    have c1 : True := trivial
    have c2 : AP Tryd.prog tab0 35 [linkA room l sent pad off, I g] (tupA [SA out, linkA room l2 s2 p2 off]) := (f_linkSend room l sent pad off g (by omega) hg).to h4
    refine af_intro Tryd.func12 rfl (by decide) Tryd.ntmps12 rfl ?_
    repeat' (first
    | fail
    | refine s_y ?_
      | refine c_ ?_
      | (refine aw_if ?_ ?_ <;> intro hb <;> try (exfalso; first | assumption | omega | (simp only [or_self, and_self, not_true_eq_false, not_false_eq_true, or_false, false_or, and_false, false_and, true_and, and_true] at hb; first | done | omega)))
      | refine s_call ?_ (c := by first | exact f_linkBig _ _ _ _ _ | exact f_linked | exact c1 | exact c2 | exact c3 | exact c4 | exact f_linkDrop _ _ _ _ _ (by omega) | exact f_linkTick _ _ _ _ _ (by omega) | exact f_linkHold _ _ _ _ _ _ (by omega) | exact f_ref09Same _ _ _ _ _ _ _ _ _ _ (by omega) (by omega) | exact f_ref05Same _ _ (by omega) (by omega) | exact f_linkIs _ _ _ _ _ (by omega) | exact f_linkRest _ _ _ _ _ (by omega) | exact f_ref05Bytes _ (by omega) | exact f_ref05Bytes _ gb_ | exact f_vtCost _ (by omega) | fail)
      | refine s_op ?_ (hy := by first | (apply bs_cmdA rfl un_; exact oo_; done) | (apply bs_cmdA rfl un_; exact oog_; done) | fail)
      | refine s_yg ?_
      | refine s_callg ?_ (c := by intro hk hk2; first | exact f_linkBig _ _ _ _ _ | exact f_linked | exact c1 | exact c2 | exact c3 | exact c4 | exact f_linkDrop _ _ _ _ _ (by omega) | exact f_linkTick _ _ _ _ _ (by omega) | exact f_linkHold _ _ _ _ _ _ (by omega) | exact f_ref09Same _ _ _ _ _ _ _ _ _ _ (by omega) (by omega) | exact f_ref05Same _ _ (by omega) (by omega) | exact f_linkIs _ _ _ _ _ (by omega) | exact f_linkRest _ _ _ _ _ (by omega) | exact f_ref05Bytes _ (by omega) | exact f_ref05Bytes _ gb_ | exact f_vtCost _ (by omega) | fail)
      | refine s_opg ?_ (hy := by intro hk hk2; first | (apply bs_cmdA rfl un_; exact oo_; done) | (apply bs_cmdA rfl un_; exact oog_; done) | fail)
      | refine s_skip ?_
      | ((first | refine w_alloc ?_ | refine w_box ?_) <;> intro bb)
      | ((first | refine w_emp ?_ | refine w_make ?_ | refine w_app ?_) <;> intro u hu1 hu2)
      | refine w_stv ?_ | refine w_str ?_ | refine w_cpr ?_ | refine w_cps ?_
      | refine al_last (by kernel_rfl) ?_
    | fail)
    · exfalso
      obtain ⟨q1, q2⟩ := hb
      obtain ⟨r1, r2, r3, r4⟩ := h9 (by intro e; rw [e] at q1; simp at q1)
      rw [r1, r2] at q2
      simp at q2; omega
    · exact absurd h7 hb
    · refine ⟨_, [], rl_, List.nil_sublist _, Sub.eq (congrArg B ?_), rfl⟩
      simp only [decide_true, Bool.and_true, Bool.true_and]
      rw [Bool.not_eq_true', Bool.eq_false_iff]
      intro h
      simp only [Bool.and_eq_true, decide_eq_true_eq, Bool.not_eq_true', decide_eq_false_iff_not] at h
      exact h.1.2 (h10 h.1.1.1.1 h.1.1.1.2 h.1.1.2 h.2)
  · have c1 : True := trivial
    have c2 : True := trivial
    refine af_intro Tryd.func12 rfl (by decide) Tryd.ntmps12 rfl ?_
    repeat' (first
    | fail
    | refine s_y ?_
      | refine c_ ?_
      | (refine aw_if ?_ ?_ <;> intro hb <;> try (exfalso; first | assumption | omega | (simp only [or_self, and_self, not_true_eq_false, not_false_eq_true, or_false, false_or, and_false, false_and, true_and, and_true] at hb; first | done | omega)))
      | refine s_call ?_ (c := by first | exact f_linkBig _ _ _ _ _ | exact f_linked | exact c1 | exact c2 | exact c3 | exact c4 | exact f_linkDrop _ _ _ _ _ (by omega) | exact f_linkTick _ _ _ _ _ (by omega) | exact f_linkHold _ _ _ _ _ _ (by omega) | exact f_ref09Same _ _ _ _ _ _ _ _ _ _ (by omega) (by omega) | exact f_ref05Same _ _ (by omega) (by omega) | exact f_linkIs _ _ _ _ _ (by omega) | exact f_linkRest _ _ _ _ _ (by omega) | exact f_ref05Bytes _ (by omega) | exact f_ref05Bytes _ gb_ | exact f_vtCost _ (by omega) | fail)
      | refine s_op ?_ (hy := by first | (apply bs_cmdA rfl un_; exact oo_; done) | (apply bs_cmdA rfl un_; exact oog_; done) | fail)
      | refine s_yg ?_
      | refine s_callg ?_ (c := by intro hk hk2; first | exact f_linkBig _ _ _ _ _ | exact f_linked | exact c1 | exact c2 | exact c3 | exact c4 | exact f_linkDrop _ _ _ _ _ (by omega) | exact f_linkTick _ _ _ _ _ (by omega) | exact f_linkHold _ _ _ _ _ _ (by omega) | exact f_ref09Same _ _ _ _ _ _ _ _ _ _ (by omega) (by omega) | exact f_ref05Same _ _ (by omega) (by omega) | exact f_linkIs _ _ _ _ _ (by omega) | exact f_linkRest _ _ _ _ _ (by omega) | exact f_ref05Bytes _ (by omega) | exact f_ref05Bytes _ gb_ | exact f_vtCost _ (by omega) | fail)
      | refine s_opg ?_ (hy := by intro hk hk2; first | (apply bs_cmdA rfl un_; exact oo_; done) | (apply bs_cmdA rfl un_; exact oog_; done) | fail)
      | refine s_skip ?_
      | ((first | refine w_alloc ?_ | refine w_box ?_) <;> intro bb)
      | ((first | refine w_emp ?_ | refine w_make ?_ | refine w_app ?_) <;> intro u hu1 hu2)
      | refine w_stv ?_ | refine w_str ?_ | refine w_cpr ?_ | refine w_cps ?_
      | refine al_last (by kernel_rfl) ?_
    | fail)
    exact ⟨_, [], rl_, List.nil_sublist _, Sub.refl _, rfl⟩
end Go.Proofs.YthkdpddfmnbijaaDoor
