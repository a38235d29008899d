/- Layer 9 (link): the rest of a link, and what is offered to it. No condition. -/
import Derived.Test.YthkdpddfmnbijaaDoorK4
namespace Go.Proofs.YthkdpddfmnbijaaDoor
set_option linter.unusedSimpArgs false
set_option linter.unusedVariables false
set_option maxHeartbeats 4000000
open Go Go.RowKit
set_option maxRecDepth 100000
def offerL (room : Int) (l : List Cmd) (sent pad : Int) (off : Bool) (c : Cmd) : AV :=
  if okL room l sent pad = true ∧ isCmd c = true then (if room < costM l - sent + lenC c then tupA [linkA 0 [] 0 0 false, I 5] else tupA [linkA room (l ++ [c]) sent pad off, I 0]) else tupA [linkA 0 [] 0 0 false, I 1]
theorem sub_link2 {r s p e : Int} {o : Bool} : Sub (tupA [aggA [I r, vA (.slice none 0 0), I s, I p, B o], I e]) (tupA [linkA r [] s p o, I e]) := sub_tup (subl1 sub_link (subl1 (Sub.refl _) subl0))
theorem drop_take {α : Type} (l : List α) (n : Nat) : (l.drop n).take (l.length - n) = l.drop n := List.take_of_length_le (by rw [List.length_drop]; omega)
theorem restL_len {room sent pad : Int} {l : List Cmd} (h : okL room l sent pad = true) : ((restL room l sent pad).length : Int) = costM l - sent := by
  have f := okL_facts h
  rw [restL, if_pos h, List.length_drop, bytesM_len]; omega
attribute [local irreducible] thenA inBlockA AW AL AO QY varO rowO rsA Opd OpdN vA gvA tupA aggA slA slcA ipA rpA EqK LnK IxK LdK FaK FdK
theorem f_linkRest (room : Int) (l : List Cmd) (sent pad : Int) (off : Bool) (hl : l.length ≤ 90000) : AP Tryd.prog tab0 33 [linkA room l sent pad off] (SA (restL room l sent pad)) := by
  have c1 := f_linkIs room l sent pad off hl
  have c2 := f_linkBytes l (by omega)
  by_cases hk : okL room l sent pad = true
  · rw [hk] at c1
    obtain ⟨hr, ha, h1, h2⟩ := okL_facts hk
    obtain ⟨n, rfl⟩ := Int.eq_ofNat_of_zero_le hr.2.2.2.2
    have e := bytesM_len l
    refine af_intro Tryd.func33 rfl (by decide) Tryd.ntmps33 rfl ?_
    repeat' (first
    | fail
    | refine s_y ?_
      | refine c_ ?_
      | (refine aw_if ?_ ?_ <;> intro hb <;> try (exfalso; first | assumption | omega | (simp only [or_self, and_self, not_true_eq_false, not_false_eq_true, or_false, false_or, and_false, false_and] at hb; done)))
      | refine s_call ?_ (c := by first | exact c1 | exact c2 | fail)
      | refine s_op ?_ (hy := by first | fail | fail)
      | refine s_yg ?_
      | refine s_callg ?_ (c := by intro hk hk2; first | exact c1 | exact c2 | fail)
      | refine s_opg ?_ (hy := by intro hk hk2; first | fail | fail)
      | refine s_skip ?_
      | ((first | refine w_alloc ?_ | refine w_box ?_) <;> intro bb)
      | ((first | refine w_emp ?_ | refine w_make ?_ | refine w_app ?_) <;> intro u hu1 hu2)
      | refine w_stv ?_ | refine w_str ?_ | refine w_cpr ?_ | refine w_cps ?_
      | refine al_last (by kernel_rfl) ?_
    | fail)
    exact ⟨_, [], rs_, List.nil_sublist _, Sub.eq (by rw [restL, if_pos hk, drop_take]; rfl), rfl⟩
  · have hk2 : okL room l sent pad = false := by simpa using hk
    rw [hk2] at c1
    refine af_intro Tryd.func33 rfl (by decide) Tryd.ntmps33 rfl ?_
    repeat' (first
    | fail
    | refine s_y ?_
      | refine c_ ?_
      | (refine aw_if ?_ ?_ <;> intro hb <;> try (exfalso; first | assumption | omega | (simp only [or_self, and_self, not_true_eq_false, not_false_eq_true, or_false, false_or, and_false, false_and] at hb; done)))
      | refine s_call ?_ (c := by first | exact c1 | exact c2 | fail)
      | refine s_op ?_ (hy := by first | fail | fail)
      | refine s_yg ?_
      | refine s_callg ?_ (c := by intro hk hk2; first | exact c1 | exact c2 | fail)
      | refine s_opg ?_ (hy := by intro hk hk2; first | fail | fail)
      | refine s_skip ?_
      | ((first | refine w_alloc ?_ | refine w_box ?_) <;> intro bb)
      | ((first | refine w_emp ?_ | refine w_make ?_ | refine w_app ?_) <;> intro u hu1 hu2)
      | refine w_stv ?_ | refine w_str ?_ | refine w_cpr ?_ | refine w_cps ?_
      | refine al_last (by kernel_rfl) ?_
    | fail)
    exact ⟨_, [], rs_, List.nil_sublist _, Sub.eq (by rw [restL, if_neg hk]), rfl⟩
theorem f_ref09Rest (room : Int) (l : List Cmd) (sent pad : Int) (off : Bool) (hl : l.length ≤ 90000) : AP Tryd.prog tab0 34 [linkA room l sent pad off] (SA (restL room l sent pad)) := by
  have c1 := f_ref09Is room l sent pad off hl
  have c2 := f_ref05Bytes l (by omega)
  by_cases hk : okL room l sent pad = true
  · rw [hk] at c1
    obtain ⟨hr, ha, h1, h2⟩ := okL_facts hk
    obtain ⟨n, rfl⟩ := Int.eq_ofNat_of_zero_le hr.2.2.2.2
    have e := bytesM_len l
    refine af_intro Tryd.func34 rfl (by decide) Tryd.ntmps34 rfl ?_
    repeat' (first
    | fail
    | refine s_y ?_
      | refine c_ ?_
      | (refine aw_if ?_ ?_ <;> intro hb <;> try (exfalso; first | assumption | omega | (simp only [or_self, and_self, not_true_eq_false, not_false_eq_true, or_false, false_or, and_false, false_and] at hb; done)))
      | refine s_call ?_ (c := by first | exact c1 | exact c2 | fail)
      | refine s_op ?_ (hy := by first | fail | fail)
      | refine s_yg ?_
      | refine s_callg ?_ (c := by intro hk hk2; first | exact c1 | exact c2 | fail)
      | refine s_opg ?_ (hy := by intro hk hk2; first | fail | fail)
      | refine s_skip ?_
      | ((first | refine w_alloc ?_ | refine w_box ?_) <;> intro bb)
      | ((first | refine w_emp ?_ | refine w_make ?_ | refine w_app ?_) <;> intro u hu1 hu2)
      | refine w_stv ?_ | refine w_str ?_ | refine w_cpr ?_ | refine w_cps ?_
      | refine al_last (by kernel_rfl) ?_
    | fail)
    exact ⟨_, [], rs_, List.nil_sublist _, Sub.eq (by rw [restL, if_pos hk, drop_take]; rfl), rfl⟩
  · have hk2 : okL room l sent pad = false := by simpa using hk
    rw [hk2] at c1
    refine af_intro Tryd.func34 rfl (by decide) Tryd.ntmps34 rfl ?_
    repeat' (first
    | fail
    | refine s_y ?_
      | refine c_ ?_
      | (refine aw_if ?_ ?_ <;> intro hb <;> try (exfalso; first | assumption | omega | (simp only [or_self, and_self, not_true_eq_false, not_false_eq_true, or_false, false_or, and_false, false_and] at hb; done)))
      | refine s_call ?_ (c := by first | exact c1 | exact c2 | fail)
      | refine s_op ?_ (hy := by first | fail | fail)
      | refine s_yg ?_
      | refine s_callg ?_ (c := by intro hk hk2; first | exact c1 | exact c2 | fail)
      | refine s_opg ?_ (hy := by intro hk hk2; first | fail | fail)
      | refine s_skip ?_
      | ((first | refine w_alloc ?_ | refine w_box ?_) <;> intro bb)
      | ((first | refine w_emp ?_ | refine w_make ?_ | refine w_app ?_) <;> intro u hu1 hu2)
      | refine w_stv ?_ | refine w_str ?_ | refine w_cpr ?_ | refine w_cps ?_
      | refine al_last (by kernel_rfl) ?_
    | fail)
    exact ⟨_, [], rs_, List.nil_sublist _, Sub.eq (by rw [restL, if_neg hk]), rfl⟩
theorem f_linkOffer (room : Int) (l : List Cmd) (sent pad : Int) (off : Bool) (c : Cmd) (hl : l.length ≤ 90000) : AP Tryd.prog tab0 25 [linkA room l sent pad off, cmdA c] (offerL room l sent pad off c) := by
  have c1 := f_linkIs room l sent pad off hl
  have c2 := f_vtIs c
  have c3 : True := trivial
  have b1 := costM_le l
  have b2 := costM_le [c]
  have e1 : costM [c] = lenC c := costM_one c
  simp only [List.length_cons, List.length_nil] at b2
  refine af_intro Tryd.func25 rfl (by decide) Tryd.ntmps25 rfl ?_
  by_cases hk : okL room l sent pad = true
  · rw [hk] at c1
    obtain ⟨hr, ha, h1, h2⟩ := okL_facts hk
    by_cases hc : isCmd c = true
    · rw [hc] at c2
      rw [offerL, if_pos ⟨hk, hc⟩]
      repeat' (first
      | fail
      | refine s_y ?_
        | refine c_ ?_
        | (refine aw_if ?_ ?_ <;> intro hb <;> try (exfalso; first | assumption | omega | (simp only [or_self, and_self, not_true_eq_false, not_false_eq_true, or_false, false_or, and_false, false_and] at hb; done)))
        | refine s_call ?_ (c := by first | exact c1 | exact c2 | exact f_vtCost _ gb_ | exact f_ref05Cost _ gb_ | exact c3 | fail)
        | refine s_op ?_ (hy := by first | (apply bs_cmdA rfl un_; exact oo_; done) | (apply ay_slice3 rfl un_ el_; exact oo_; exact lo_; exact on_; exact on_; exact le_; exact le_; done) | (apply ay_append_new rfl un_ el_; exact oo_; exact oo_; exact gb_; (simp only [maxLen]; exact gb_); done) | fail)
        | refine s_yg ?_
        | refine s_callg ?_ (c := by intro hk hk2; first | exact c1 | exact c2 | exact f_vtCost _ gb_ | exact f_ref05Cost _ gb_ | exact c3 | fail)
        | refine s_opg ?_ (hy := by intro hk hk2; first | (apply bs_cmdA rfl un_; exact oo_; done) | (apply ay_slice3 rfl un_ el_; exact oo_; exact lo_; exact on_; exact on_; exact le_; exact le_; done) | (apply ay_append_new rfl un_ el_; exact oo_; exact oo_; exact gb_; (simp only [maxLen]; exact gb_); done) | fail)
        | refine s_skip ?_
        | ((first | refine w_alloc ?_ | refine w_box ?_) <;> intro bb)
        | ((first | refine w_emp ?_ | refine w_make ?_ | refine w_app ?_) <;> intro u hu1 hu2)
        | refine w_stv ?_ | refine w_str ?_ | refine w_cpr ?_ | refine w_cps ?_
        | refine al_last (by kernel_rfl) ?_
      | fail)
      · exact ⟨_, [], rs_, List.nil_sublist _, by rw [if_pos (by omega)]; exact sub_link2, rfl⟩
      · refine ⟨_, [], rs_, List.nil_sublist _, ?_, rfl⟩
        rw [if_neg (by omega)]
        exact Sub.eq (by rw [show (List.drop 0 l).take (l.length - 0) = l by simp])
    · have hc2 : isCmd c = false := by simpa using hc
      rw [hc2] at c2
      rw [offerL, if_neg (fun h => hc h.2)]
      repeat' (first
      | fail
      | refine s_y ?_
        | refine c_ ?_
        | (refine aw_if ?_ ?_ <;> intro hb <;> try (exfalso; first | assumption | omega | (simp only [or_self, and_self, not_true_eq_false, not_false_eq_true, or_false, false_or, and_false, false_and] at hb; done)))
        | refine s_call ?_ (c := by first | exact c1 | exact c2 | exact f_vtCost _ gb_ | exact f_ref05Cost _ gb_ | exact c3 | fail)
        | refine s_op ?_ (hy := by first | (apply bs_cmdA rfl un_; exact oo_; done) | (apply ay_slice3 rfl un_ el_; exact oo_; exact lo_; exact on_; exact on_; exact le_; exact le_; done) | (apply ay_append_new rfl un_ el_; exact oo_; exact oo_; exact gb_; (simp only [maxLen]; exact gb_); done) | fail)
        | refine s_yg ?_
        | refine s_callg ?_ (c := by intro hk hk2; first | exact c1 | exact c2 | exact f_vtCost _ gb_ | exact f_ref05Cost _ gb_ | exact c3 | fail)
        | refine s_opg ?_ (hy := by intro hk hk2; first | (apply bs_cmdA rfl un_; exact oo_; done) | (apply ay_slice3 rfl un_ el_; exact oo_; exact lo_; exact on_; exact on_; exact le_; exact le_; done) | (apply ay_append_new rfl un_ el_; exact oo_; exact oo_; exact gb_; (simp only [maxLen]; exact gb_); done) | fail)
        | refine s_skip ?_
        | ((first | refine w_alloc ?_ | refine w_box ?_) <;> intro bb)
        | ((first | refine w_emp ?_ | refine w_make ?_ | refine w_app ?_) <;> intro u hu1 hu2)
        | refine w_stv ?_ | refine w_str ?_ | refine w_cpr ?_ | refine w_cps ?_
        | refine al_last (by kernel_rfl) ?_
      | fail)
      exact ⟨_, [], rs_, List.nil_sublist _, sub_link2, rfl⟩
  · have hk2 : okL room l sent pad = false := by simpa using hk
    rw [hk2] at c1
    rw [offerL, if_neg (fun h => hk h.1)]
    repeat' (first
    | fail
    | refine s_y ?_
      | refine c_ ?_
      | (refine aw_if ?_ ?_ <;> intro hb <;> try (exfalso; first | assumption | omega | (simp only [or_self, and_self, not_true_eq_false, not_false_eq_true, or_false, false_or, and_false, false_and] at hb; done)))
      | refine s_call ?_ (c := by first | exact c1 | exact c2 | exact f_vtCost _ gb_ | exact f_ref05Cost _ gb_ | exact c3 | fail)
      | refine s_op ?_ (hy := by first | (apply bs_cmdA rfl un_; exact oo_; done) | (apply ay_slice3 rfl un_ el_; exact oo_; exact lo_; exact on_; exact on_; exact le_; exact le_; done) | (apply ay_append_new rfl un_ el_; exact oo_; exact oo_; exact gb_; (simp only [maxLen]; exact gb_); done) | fail)
      | refine s_yg ?_
      | refine s_callg ?_ (c := by intro hk hk2; first | exact c1 | exact c2 | exact f_vtCost _ gb_ | exact f_ref05Cost _ gb_ | exact c3 | fail)
      | refine s_opg ?_ (hy := by intro hk hk2; first | (apply bs_cmdA rfl un_; exact oo_; done) | (apply ay_slice3 rfl un_ el_; exact oo_; exact lo_; exact on_; exact on_; exact le_; exact le_; done) | (apply ay_append_new rfl un_ el_; exact oo_; exact oo_; exact gb_; (simp only [maxLen]; exact gb_); done) | fail)
      | refine s_skip ?_
      | ((first | refine w_alloc ?_ | refine w_box ?_) <;> intro bb)
      | ((first | refine w_emp ?_ | refine w_make ?_ | refine w_app ?_) <;> intro u hu1 hu2)
      | refine w_stv ?_ | refine w_str ?_ | refine w_cpr ?_ | refine w_cps ?_
      | refine al_last (by kernel_rfl) ?_
    | fail)
    exact ⟨_, [], rs_, List.nil_sublist _, sub_link2, rfl⟩
theorem f_ref09Offer (room : Int) (l : List Cmd) (sent pad : Int) (off : Bool) (c : Cmd) (hl : l.length ≤ 90000) : AP Tryd.prog tab0 26 [linkA room l sent pad off, cmdA c] (offerL room l sent pad off c) := by
  have c1 := f_ref09Is room l sent pad off hl
  have c2 := f_ref05Is c
  have c3 := f_ref09Rest room l sent pad off hl
  have co := f_ref09own room l sent pad off hl
  have b1 := costM_le l
  have b2 := costM_le [c]
  have e1 : costM [c] = lenC c := costM_one c
  simp only [List.length_cons, List.length_nil] at b2
  by_cases hk : okL room l sent pad = true
  · rw [hk] at c1
    obtain ⟨hr, ha, h1, h2⟩ := okL_facts hk
    have e2 := restL_len hk
    by_cases hc : isCmd c = true
    · rw [hc] at c2
      rw [offerL, if_pos ⟨hk, hc⟩]
      by_cases hf : room < costM l - sent + lenC c
      · rw [if_pos hf]
        refine af_intro Tryd.func26 rfl (by decide) Tryd.ntmps26 rfl ?_
        repeat' (first
        | (apply al_call0 rfl rfl rfl rfl (c := co)
           case ha => exact os_
           rintro _ _ ⟨u, rfl, rfl⟩; refine al_rowc (List.Mem.head _) fun hu1 hu2 => ?_)
        | refine s_y ?_
          | refine c_ ?_
          | (refine aw_if ?_ ?_ <;> intro hb <;> try (exfalso; first | assumption | omega | (simp only [or_self, and_self, not_true_eq_false, not_false_eq_true, or_false, false_or, and_false, false_and] at hb; done)))
          | refine s_call ?_ (c := by first | exact c1 | exact c2 | exact c3 | exact f_ref05Cost _ gb_ | fail)
          | refine s_op ?_ (hy := by first | (apply bs_cmdA rfl un_; exact oo_; done) | fail)
          | refine s_yg ?_
          | refine s_callg ?_ (c := by intro hk hk2; first | exact c1 | exact c2 | exact c3 | exact f_ref05Cost _ gb_ | fail)
          | refine s_opg ?_ (hy := by intro hk hk2; first | (apply bs_cmdA rfl un_; exact oo_; done) | fail)
          | refine s_skip ?_
          | ((first | refine w_alloc ?_ | refine w_box ?_) <;> intro bb)
          | ((first | refine w_emp ?_ | refine w_make ?_ | refine w_app ?_) <;> intro u hu1 hu2)
          | refine w_stv ?_ | refine w_str ?_ | refine w_cpr ?_ | refine w_cps ?_
          | refine al_last (by kernel_rfl) ?_
        | fail)
        exact ⟨_, [], rs_, List.nil_sublist _, sub_link2, rfl⟩
      · rw [if_neg hf]
        refine AF.frz1 (T := cmdT) (e := 23) (l := l ++ [c]) (F := fun u => tupA [aggA [I room, vA u, I sent, I pad, B off], I 0]) ?_ fza_
        refine af_intro Tryd.func26 rfl (by decide) Tryd.ntmps26 rfl ?_
        repeat' (first
        | (apply al_call0 rfl rfl rfl rfl (c := co)
           case ha => exact os_
           rintro _ _ ⟨u, rfl, rfl⟩; refine al_rowc (List.Mem.head _) fun hu1 hu2 => ?_)
        | refine s_y ?_
          | refine c_ ?_
          | (refine aw_if ?_ ?_ <;> intro hb <;> try (exfalso; first | assumption | omega | (simp only [or_self, and_self, not_true_eq_false, not_false_eq_true, or_false, false_or, and_false, false_and] at hb; done)))
          | refine s_call ?_ (c := by first | exact c1 | exact c2 | exact c3 | exact f_ref05Cost _ gb_ | fail)
          | refine s_op ?_ (hy := by first | (apply bs_cmdA rfl un_; exact oo_; done) | fail)
          | refine s_yg ?_
          | refine s_callg ?_ (c := by intro hk hk2; first | exact c1 | exact c2 | exact c3 | exact f_ref05Cost _ gb_ | fail)
          | refine s_opg ?_ (hy := by intro hk hk2; first | (apply bs_cmdA rfl un_; exact oo_; done) | fail)
          | refine s_skip ?_
          | ((first | refine w_alloc ?_ | refine w_box ?_) <;> intro bb)
          | ((first | refine w_emp ?_ | refine w_make ?_ | refine w_app ?_) <;> intro u hu1 hu2)
          | refine w_stv ?_ | refine w_str ?_ | refine w_cpr ?_ | refine w_cps ?_
          | refine al_last (by kernel_rfl) ?_
        | fail)
        exact ⟨_, [rowO cmdT 23 _ (l ++ [c])], rs_, sl_, _, rfl, rfl⟩
    · have hc2 : isCmd c = false := by simpa using hc
      rw [hc2] at c2
      rw [offerL, if_neg (fun h => hc h.2)]
      refine af_intro Tryd.func26 rfl (by decide) Tryd.ntmps26 rfl ?_
      repeat' (first
      | (apply al_call0 rfl rfl rfl rfl (c := co)
         case ha => exact os_
         rintro _ _ ⟨u, rfl, rfl⟩; refine al_rowc (List.Mem.head _) fun hu1 hu2 => ?_)
      | refine s_y ?_
        | refine c_ ?_
        | (refine aw_if ?_ ?_ <;> intro hb <;> try (exfalso; first | assumption | omega | (simp only [or_self, and_self, not_true_eq_false, not_false_eq_true, or_false, false_or, and_false, false_and] at hb; done)))
        | refine s_call ?_ (c := by first | exact c1 | exact c2 | exact c3 | exact f_ref05Cost _ gb_ | fail)
        | refine s_op ?_ (hy := by first | (apply bs_cmdA rfl un_; exact oo_; done) | fail)
        | refine s_yg ?_
        | refine s_callg ?_ (c := by intro hk hk2; first | exact c1 | exact c2 | exact c3 | exact f_ref05Cost _ gb_ | fail)
        | refine s_opg ?_ (hy := by intro hk hk2; first | (apply bs_cmdA rfl un_; exact oo_; done) | fail)
        | refine s_skip ?_
        | ((first | refine w_alloc ?_ | refine w_box ?_) <;> intro bb)
        | ((first | refine w_emp ?_ | refine w_make ?_ | refine w_app ?_) <;> intro u hu1 hu2)
        | refine w_stv ?_ | refine w_str ?_ | refine w_cpr ?_ | refine w_cps ?_
        | refine al_last (by kernel_rfl) ?_
      | fail)
      exact ⟨_, [], rs_, List.nil_sublist _, sub_link2, rfl⟩
  · have hk2 : okL room l sent pad = false := by simpa using hk
    rw [hk2] at c1
    rw [offerL, if_neg (fun h => hk h.1)]
    refine af_intro Tryd.func26 rfl (by decide) Tryd.ntmps26 rfl ?_
    repeat' (first
    | (apply al_call0 rfl rfl rfl rfl (c := co)
       case ha => exact os_
       rintro _ _ ⟨u, rfl, rfl⟩; refine al_rowc (List.Mem.head _) fun hu1 hu2 => ?_)
    | refine s_y ?_
      | refine c_ ?_
      | (refine aw_if ?_ ?_ <;> intro hb <;> try (exfalso; first | assumption | omega | (simp only [or_self, and_self, not_true_eq_false, not_false_eq_true, or_false, false_or, and_false, false_and] at hb; done)))
      | refine s_call ?_ (c := by first | exact c1 | exact c2 | exact c3 | exact f_ref05Cost _ gb_ | fail)
      | refine s_op ?_ (hy := by first | (apply bs_cmdA rfl un_; exact oo_; done) | fail)
      | refine s_yg ?_
      | refine s_callg ?_ (c := by intro hk hk2; first | exact c1 | exact c2 | exact c3 | exact f_ref05Cost _ gb_ | fail)
      | refine s_opg ?_ (hy := by intro hk hk2; first | (apply bs_cmdA rfl un_; exact oo_; done) | fail)
      | refine s_skip ?_
      | ((first | refine w_alloc ?_ | refine w_box ?_) <;> intro bb)
      | ((first | refine w_emp ?_ | refine w_make ?_ | refine w_app ?_) <;> intro u hu1 hu2)
      | refine w_stv ?_ | refine w_str ?_ | refine w_cpr ?_ | refine w_cps ?_
      | refine al_last (by kernel_rfl) ?_
    | fail)
    exact ⟨_, [], rs_, List.nil_sublist _, sub_link2, rfl⟩
end Go.Proofs.YthkdpddfmnbijaaDoor
