/- Layer 27 (belief): the reference: what is laid and scrolled, where the cursor goes. No condition. -/
import Derived.Test.YtockidoncngdbaaGreatDoorQ2H4
namespace Go.Proofs.YtockidoncngdbaaGreatDoor
set_option linter.unusedSimpArgs false
set_option linter.unusedVariables false
set_option linter.unusedSectionVars false
set_option maxHeartbeats 4000000
open Go Go.RowKit
set_option maxRecDepth 100000
theorem set_mix {α : Type} {U l : List α} {k : Nat} {z : α} (hU : U.length = l.length) (hk : U[k]? = some z) : (U.take k ++ l.drop k).set k z = U.take (k + 1) ++ l.drop (k + 1) := by
  obtain ⟨h1, h2⟩ := List.getElem?_eq_some_iff.1 hk
  have e1 : (U.take k).length = k := by rw [List.length_take]; omega
  rw [List.set_append_right _ _ (by omega), e1, Nat.sub_self, List.drop_eq_getElem_cons (show k < l.length by omega), List.set_cons_zero, List.take_succ_eq_append_getElem h1, h2]
  simp
variable {T0 : Gh} [TabS T0]
attribute [local irreducible] thenA inBlockA AW AL AO QY varO rowO rsA Opd OpdN vA gvA tupA aggA slA slcA ipA rpA EqK LnK IxK LdK FaK FdK
theorem f_ref27blank : AP Tryz.prog T0 51 [] (guA gBlank) := by
  refine af_intro Tryz.func51 rfl (by decide) Tryz.ntmps51 rfl ?_
  repeat' (first
  | fail
  | refine s_y ?_
    | refine c_ ?_
    | (refine aw_if ?_ ?_ <;> intro hb <;> try (exfalso; first | assumption | omega | (simp only [or_self, and_self, not_true_eq_false, not_false_eq_true, or_false, false_or, and_false, false_and, true_and, and_true] at hb; first | done | omega)))
    | refine s_call ?_ (c := by first | fail | fail)
    | refine s_op ?_ (hy := by first | fail | fail)
    | refine s_yg ?_
    | refine s_callg ?_ (c := by intro hk hk2; first | fail | fail)
    | refine s_opg ?_ (hy := by intro hk hk2; first | fail | fail)
    | refine s_skip ?_
    | ((first | refine w_alloc ?_ | refine w_box ?_) <;> intro bb)
    | ((first | refine w_emp ?_ | refine w_make ?_ | refine w_app ?_) <;> intro u hu1 hu2)
    | refine w_stv ?_ | refine w_str ?_ | refine w_cpr ?_ | refine w_cps ?_
    | refine al_last (by kernel_rfl) ?_
  | fail)
  exact ⟨_, [], rl_, List.nil_sublist _, Sub.refl _, rfl⟩
theorem f_ref27changes (k : Int) : AP Tryz.prog T0 19 [I k] (B (chg k)) := by
  refine af_intro Tryz.func19 rfl (by decide) Tryz.ntmps19 rfl ?_
  repeat' (first
  | fail
  | refine s_y ?_
    | refine c_ ?_
    | (refine aw_if ?_ ?_ <;> intro hb <;> try (exfalso; first | assumption | omega | (simp only [or_self, and_self, not_true_eq_false, not_false_eq_true, or_false, false_or, and_false, false_and, true_and, and_true] at hb; first | done | omega)))
    | refine s_call ?_ (c := by first | fail | fail)
    | refine s_op ?_ (hy := by first | fail | fail)
    | refine s_yg ?_
    | refine s_callg ?_ (c := by intro hk hk2; first | fail | fail)
    | refine s_opg ?_ (hy := by intro hk hk2; first | fail | fail)
    | refine s_skip ?_
    | ((first | refine w_alloc ?_ | refine w_box ?_) <;> intro bb)
    | ((first | refine w_emp ?_ | refine w_make ?_ | refine w_app ?_) <;> intro u hu1 hu2)
    | refine w_stv ?_ | refine w_str ?_ | refine w_cpr ?_ | refine w_cps ?_
    | refine al_last (by kernel_rfl) ?_
  | fail)
  refine ⟨_, [], rl_, List.nil_sublist _, Sub.eq (congrArg B ?_), rfl⟩
  simp [chg]
theorem f_ref27own (w h : Int) (l : List Guess) (x y : Int) (b s : Bool) (hl : l.length ≤ 100000) : AF Tryz.prog T0 22 [belA w h l x y b s] [] (fun A M' => ∃ u, A = aggA [I w, I h, vA u, I x, I y, B b, B s] ∧ M' = [gsO u l]) := by
  refine af_intro Tryz.func22 rfl (by decide) Tryz.ntmps22 rfl ?_
  repeat' (first
  | fail
  | refine s_y ?_
    | refine c_ ?_
    | (refine aw_if ?_ ?_ <;> intro hb <;> try (exfalso; first | assumption | omega | (simp only [or_self, and_self, not_true_eq_false, not_false_eq_true, or_false, false_or, and_false, false_and, true_and, and_true] at hb; first | done | omega)))
    | refine s_call ?_ (c := by first | fail | fail)
    | refine s_op ?_ (hy := by first | fail | fail)
    | refine s_yg ?_
    | refine s_callg ?_ (c := by intro hk hk2; first | fail | fail)
    | refine s_opg ?_ (hy := by intro hk hk2; first | fail | fail)
    | refine s_skip ?_
    | ((first | refine w_alloc ?_ | refine w_box ?_) <;> intro bb)
    | ((first | refine w_emp ?_ | refine w_make ?_ | refine w_app ?_) <;> intro u hu1 hu2)
    | refine w_stv ?_ | refine w_str ?_ | refine w_cpr ?_ | refine w_cps ?_
    | refine al_last (by kernel_rfl) ?_
  | fail)
  exact ⟨_, [rowO guT 65 u ([] ++ l)], rl_, sl_, u, rfl, rfl⟩
theorem f_ref27ownF (w h : Int) (l : List Guess) (x y : Int) (b s : Bool) (hl : l.length ≤ 100000) : AP Tryz.prog T0 22 [belA w h l x y b s] (belA w h l x y b s) := (f_ref27own w h l x y b s hl).frz1 fza_
theorem f_blanksO (n : Nat) (hn : n ≤ 100000) : AF Tryz.prog T0 27 [I n] [] (fun A M' => ∃ u, A = vA u ∧ M' = [rowO cellT 63 u (List.replicate n (32, 0))]) := by
  refine af_intro Tryz.func27 rfl (by decide) Tryz.ntmps27 rfl ?_
  repeat' (first
  | fail
  | refine s_y ?_
    | refine c_ ?_
    | (refine aw_if ?_ ?_ <;> intro hb <;> try (exfalso; first | assumption | omega | (simp only [or_self, and_self, not_true_eq_false, not_false_eq_true, or_false, false_or, and_false, false_and, true_and, and_true] at hb; first | done | omega)))
    | refine s_call ?_ (c := by first | fail | fail)
    | refine s_op ?_ (hy := by first | fail | fail)
    | refine s_yg ?_
    | refine s_callg ?_ (c := by intro hk hk2; first | fail | fail)
    | refine s_opg ?_ (hy := by intro hk hk2; first | fail | fail)
    | refine s_skip ?_
    | ((first | refine w_alloc ?_ | refine w_box ?_) <;> intro bb)
    | ((first | refine w_emp ?_ | refine w_make ?_ | refine w_app ?_) <;> intro u hu1 hu2)
    | refine w_stv ?_ | refine w_str ?_ | refine w_cpr ?_ | refine w_cps ?_
    | refine al_last (by kernel_rfl) ?_
  | fail)
  refine aw_la 3 (fun k : Nat => [(4, I k)]) (fun k => List.replicate k ((32, 0) : Cell)) (fun k => k ≤ n) (fun k => n - k) 0 (Nat.zero_le _) rfl ?_
  rintro k u k1 hu1 hu2
  by_cases hlt : k < n
  · repeat' (first
    | fail
    | refine s_y ?_
      | refine c_ ?_
      | (refine aw_if ?_ ?_ <;> intro hb <;> try (exfalso; first | assumption | omega | (simp only [or_self, and_self, not_true_eq_false, not_false_eq_true, or_false, false_or, and_false, false_and, true_and, and_true] at hb; first | done | omega)))
      | refine s_call ?_ (c := by first | fail | fail)
      | refine s_op ?_ (hy := by first | fail | fail)
      | refine s_yg ?_
      | refine s_callg ?_ (c := by intro hk hk2; first | fail | fail)
      | refine s_opg ?_ (hy := by intro hk hk2; first | fail | fail)
      | refine s_skip ?_
      | ((first | refine w_alloc ?_ | refine w_box ?_) <;> intro bb)
      | ((first | refine w_emp ?_ | refine w_make ?_ | refine w_app ?_) <;> intro u hu1 hu2)
      | refine w_stv ?_ | refine w_str ?_ | refine w_cpr ?_ | refine w_cps ?_
      | refine al_last (by kernel_rfl) ?_
    | fail)
    all_goals first | (exfalso; omega) | skip
    exact ⟨k + 1, _, by omega, by omega, wx_, by rw [List.replicate_succ']; exact List.Sublist.refl _⟩
  · obtain rfl : k = n := by omega
    repeat' (first
    | fail
    | refine s_y ?_
      | refine c_ ?_
      | (refine aw_if ?_ ?_ <;> intro hb <;> try (exfalso; first | assumption | omega | (simp only [or_self, and_self, not_true_eq_false, not_false_eq_true, or_false, false_or, and_false, false_and, true_and, and_true] at hb; first | done | omega)))
      | refine s_call ?_ (c := by first | fail | fail)
      | refine s_op ?_ (hy := by first | fail | fail)
      | refine s_yg ?_
      | refine s_callg ?_ (c := by intro hk hk2; first | fail | fail)
      | refine s_opg ?_ (hy := by intro hk hk2; first | fail | fail)
      | refine s_skip ?_
      | ((first | refine w_alloc ?_ | refine w_box ?_) <;> intro bb)
      | ((first | refine w_emp ?_ | refine w_make ?_ | refine w_app ?_) <;> intro u hu1 hu2)
      | refine w_stv ?_ | refine w_str ?_ | refine w_cpr ?_ | refine w_cps ?_
      | refine al_last (by kernel_rfl) ?_
    | fail)
    all_goals first | (exfalso; omega) | skip
    exact ⟨_, _, rl_, List.Sublist.refl _, u, rfl, rfl⟩
theorem f_blanksI (n : Int) (h0 : 0 ≤ n) (hn : n ≤ 100000) : AP Tryz.prog T0 27 [I n] (slA cellT (List.replicate n.toNat (32, 0))) := by
  obtain ⟨n, rfl⟩ := Int.eq_ofNat_of_zero_le h0
  exact (f_blanksO n (by omega)).frz1 fza_
theorem f_scrollsO (w : Nat) (h : Int) (l : List Guess) (x y : Int) (b s : Bool) (hw : w ≤ l.length) (hl : l.length ≤ 100000) : AF Tryz.prog T0 24 [belA w h l x y b s] [] (fun A M' => ∃ u, A = aggA [I w, I h, vA u, I x, I y, B b, B s] ∧ M' = [gsO u (upB w l)]) := by
  have co := f_ref27own (T0 := T0) w h l x y b s hl
  refine af_intro Tryz.func24 rfl (by decide) Tryz.ntmps24 rfl ?_
  repeat' (first
  | (apply al_call0 rfl rfl rfl rfl (c := co)
     case ha => exact os_
     rintro _ _ ⟨u, rfl, rfl⟩; refine al_rowc (List.Mem.head _) fun hu1 hu2 => ?_)
    | refine w_str ?_ (hc := ca_guA)
    | refine w_str ?_ (hc := ca_gu)
    | refine s_op ?_ (hy := by first | (apply k_ix rfl; exact oo_; exact on_; apply ik_sl un_ el_; exact g_in gb_) | fail)
    | refine s_opg ?_ (hy := by intro hk hk2; first | (apply k_ix rfl; exact oog_; exact ong_; apply ik_sl un_ el_; exact g_in gb_) | fail)
  | refine s_y ?_
    | refine c_ ?_
    | (refine aw_if ?_ ?_ <;> intro hb <;> try (exfalso; first | assumption | omega | (simp only [or_self, and_self, not_true_eq_false, not_false_eq_true, or_false, false_or, and_false, false_and, true_and, and_true] at hb; first | done | omega)))
    | refine s_call ?_ (c := by first | exact f_ref27blank | fail)
    | refine s_op ?_ (hy := by first | exact ay_loadn rfl agg_ sz_ oo_ (Nat.le_of_ble_eq_true rfl) | exact ay_loadn rfl agg_ sz_ oog_ (Nat.le_of_ble_eq_true rfl) | fail)
    | refine s_yg ?_
    | refine s_callg ?_ (c := by intro hk hk2; first | exact f_ref27blank | fail)
    | refine s_opg ?_ (hy := by intro hk hk2; first | exact ay_loadn rfl agg_ sz_ oo_ (Nat.le_of_ble_eq_true rfl) | exact ay_loadn rfl agg_ sz_ oog_ (Nat.le_of_ble_eq_true rfl) | fail)
    | refine s_skip ?_
    | ((first | refine w_alloc ?_ | refine w_box ?_) <;> intro bb)
    | ((first | refine w_emp ?_ | refine w_make ?_ | refine w_app ?_) <;> intro u hu1 hu2)
    | refine w_stv ?_ | refine w_str ?_ | refine w_cpr ?_ | refine w_cps ?_
    | refine al_last (by kernel_rfl) ?_
  | fail)
  obtain ⟨U, hU⟩ : ∃ U, U = upB w l := ⟨_, rfl⟩
  have hUl : U.length = l.length := by rw [hU, upB_len hw]
  refine aw_lr (d := fun k : Nat => [(4, I k)]) (g := fun k => U.take k ++ l.drop k) (fun k => k ≤ l.length) (fun k => l.length - k) 0 (Nat.zero_le _) ?_ ?_
  · simp
  rintro k k1
  by_cases hlt : k < l.length
  · have hat : gAt U k = if k + w < l.length then gAt l (k + w) else gBlank := by rw [hU]; exact upB_at hw hlt
    have hst := set_mix (k := k) hUl (g_in (l := U) (by omega))
    have hl4 : (U.take k ++ l.drop k).length = l.length := by simp; omega
    generalize U.take k ++ l.drop k = l4 at *
    by_cases hq : k + w < l.length
    · rw [if_pos hq] at hat
      rw [hat] at hst
      repeat' (first
      | (apply al_call0 rfl rfl rfl rfl (c := co)
         case ha => exact os_
         rintro _ _ ⟨u, rfl, rfl⟩; refine al_rowc (List.Mem.head _) fun hu1 hu2 => ?_)
        | refine w_str ?_ (hc := ca_guA)
        | refine w_str ?_ (hc := ca_gu)
        | refine s_op ?_ (hy := by first | (apply k_ix rfl; exact oo_; exact on_; apply ik_sl un_ el_; exact g_in gb_) | fail)
        | refine s_opg ?_ (hy := by intro hk hk2; first | (apply k_ix rfl; exact oog_; exact ong_; apply ik_sl un_ el_; exact g_in gb_) | fail)
      | refine s_y ?_
        | refine c_ ?_
        | (refine aw_if ?_ ?_ <;> intro hb <;> try (exfalso; first | assumption | omega | (simp only [or_self, and_self, not_true_eq_false, not_false_eq_true, or_false, false_or, and_false, false_and, true_and, and_true] at hb; first | done | omega)))
        | refine s_call ?_ (c := by first | exact f_ref27blank | fail)
        | refine s_op ?_ (hy := by first | exact ay_loadn rfl agg_ sz_ oo_ (Nat.le_of_ble_eq_true rfl) | exact ay_loadn rfl agg_ sz_ oog_ (Nat.le_of_ble_eq_true rfl) | fail)
        | refine s_yg ?_
        | refine s_callg ?_ (c := by intro hk hk2; first | exact f_ref27blank | fail)
        | refine s_opg ?_ (hy := by intro hk hk2; first | exact ay_loadn rfl agg_ sz_ oo_ (Nat.le_of_ble_eq_true rfl) | exact ay_loadn rfl agg_ sz_ oog_ (Nat.le_of_ble_eq_true rfl) | fail)
        | refine s_skip ?_
        | ((first | refine w_alloc ?_ | refine w_box ?_) <;> intro bb)
        | ((first | refine w_emp ?_ | refine w_make ?_ | refine w_app ?_) <;> intro u hu1 hu2)
        | refine w_stv ?_ | refine w_str ?_ | refine w_cpr ?_ | refine w_cps ?_
        | refine al_last (by kernel_rfl) ?_
      | fail)
      all_goals first | (exfalso; omega) | skip
      refine ⟨k + 1, by omega, by omega, wx_, ?_⟩
      rw [← hst]; exact sl_
    · rw [if_neg hq] at hat
      rw [hat] at hst
      repeat' (first
      | (apply al_call0 rfl rfl rfl rfl (c := co)
         case ha => exact os_
         rintro _ _ ⟨u, rfl, rfl⟩; refine al_rowc (List.Mem.head _) fun hu1 hu2 => ?_)
        | refine w_str ?_ (hc := ca_guA)
        | refine w_str ?_ (hc := ca_gu)
        | refine s_op ?_ (hy := by first | (apply k_ix rfl; exact oo_; exact on_; apply ik_sl un_ el_; exact g_in gb_) | fail)
        | refine s_opg ?_ (hy := by intro hk hk2; first | (apply k_ix rfl; exact oog_; exact ong_; apply ik_sl un_ el_; exact g_in gb_) | fail)
      | refine s_y ?_
        | refine c_ ?_
        | (refine aw_if ?_ ?_ <;> intro hb <;> try (exfalso; first | assumption | omega | (simp only [or_self, and_self, not_true_eq_false, not_false_eq_true, or_false, false_or, and_false, false_and, true_and, and_true] at hb; first | done | omega)))
        | refine s_call ?_ (c := by first | exact f_ref27blank | fail)
        | refine s_op ?_ (hy := by first | exact ay_loadn rfl agg_ sz_ oo_ (Nat.le_of_ble_eq_true rfl) | exact ay_loadn rfl agg_ sz_ oog_ (Nat.le_of_ble_eq_true rfl) | fail)
        | refine s_yg ?_
        | refine s_callg ?_ (c := by intro hk hk2; first | exact f_ref27blank | fail)
        | refine s_opg ?_ (hy := by intro hk hk2; first | exact ay_loadn rfl agg_ sz_ oo_ (Nat.le_of_ble_eq_true rfl) | exact ay_loadn rfl agg_ sz_ oog_ (Nat.le_of_ble_eq_true rfl) | fail)
        | refine s_skip ?_
        | ((first | refine w_alloc ?_ | refine w_box ?_) <;> intro bb)
        | ((first | refine w_emp ?_ | refine w_make ?_ | refine w_app ?_) <;> intro u hu1 hu2)
        | refine w_stv ?_ | refine w_str ?_ | refine w_cpr ?_ | refine w_cps ?_
        | refine al_last (by kernel_rfl) ?_
      | fail)
      all_goals first | (exfalso; omega) | skip
      refine ⟨k + 1, by omega, by omega, wx_, ?_⟩
      rw [← hst]; exact sl_
  · obtain rfl : k = l.length := by omega
    have hend : U.take l.length ++ l.drop l.length = upB w l := by rw [List.take_of_length_le (by omega), List.drop_of_length_le (Nat.le_refl _), List.append_nil, hU]
    rw [hend]
    repeat' (first
    | (apply al_call0 rfl rfl rfl rfl (c := co)
       case ha => exact os_
       rintro _ _ ⟨u, rfl, rfl⟩; refine al_rowc (List.Mem.head _) fun hu1 hu2 => ?_)
      | refine w_str ?_ (hc := ca_guA)
      | refine w_str ?_ (hc := ca_gu)
      | refine s_op ?_ (hy := by first | (apply k_ix rfl; exact oo_; exact on_; apply ik_sl un_ el_; exact g_in gb_) | fail)
      | refine s_opg ?_ (hy := by intro hk hk2; first | (apply k_ix rfl; exact oog_; exact ong_; apply ik_sl un_ el_; exact g_in gb_) | fail)
    | refine s_y ?_
      | refine c_ ?_
      | (refine aw_if ?_ ?_ <;> intro hb <;> try (exfalso; first | assumption | omega | (simp only [or_self, and_self, not_true_eq_false, not_false_eq_true, or_false, false_or, and_false, false_and, true_and, and_true] at hb; first | done | omega)))
      | refine s_call ?_ (c := by first | exact f_ref27blank | fail)
      | refine s_op ?_ (hy := by first | exact ay_loadn rfl agg_ sz_ oo_ (Nat.le_of_ble_eq_true rfl) | exact ay_loadn rfl agg_ sz_ oog_ (Nat.le_of_ble_eq_true rfl) | fail)
      | refine s_yg ?_
      | refine s_callg ?_ (c := by intro hk hk2; first | exact f_ref27blank | fail)
      | refine s_opg ?_ (hy := by intro hk hk2; first | exact ay_loadn rfl agg_ sz_ oo_ (Nat.le_of_ble_eq_true rfl) | exact ay_loadn rfl agg_ sz_ oog_ (Nat.le_of_ble_eq_true rfl) | fail)
      | refine s_skip ?_
      | ((first | refine w_alloc ?_ | refine w_box ?_) <;> intro bb)
      | ((first | refine w_emp ?_ | refine w_make ?_ | refine w_app ?_) <;> intro u hu1 hu2)
      | refine w_stv ?_ | refine w_str ?_ | refine w_cpr ?_ | refine w_cps ?_
      | refine al_last (by kernel_rfl) ?_
    | fail)
    all_goals first | (exfalso; omega) | skip
    exact ⟨_, [gsO u (upB w l)], rl_, sl_, u, rfl, rfl⟩
theorem f_scrolls (w h : Int) (l : List Guess) (x y : Int) (b s : Bool) (hw0 : 0 ≤ w) (hw : w.toNat ≤ l.length) (hl : l.length ≤ 100000) : AP Tryz.prog T0 24 [belA w h l x y b s] (belA w h (upB w.toNat l) x y b s) := by
  obtain ⟨w, rfl⟩ := Int.eq_ofNat_of_zero_le hw0
  exact (f_scrollsO w h l x y b s (by simpa using hw) hl).frz1 fza_
theorem f_ref27layO (w : Nat) (h : Int) (l : List Guess) (x y : Int) (b s : Bool) (p : Nat) (cs : List Cell) (hw : 1 ≤ w) (hw2 : w ≤ 1000) (hl : l.length ≤ 100000) (hk : GOk w l) (hp : p + cs.length ≤ l.length) (h2 : 0 < (p + cs.length) % w → p + cs.length < l.length) :
    AF Tryz.prog T0 25 [belA w h l x y b s, I p, slA cellT cs] [] (fun A M' => ∃ u, A = aggA [I w, I h, vA u, I x, I y, B b, B s] ∧ M' = [gsO u (layB w l p cs)]) := by
  have hp1 : 0 < p % w → 1 ≤ p := fun k => by
    rcases Nat.eq_zero_or_pos p with h | h
    · subst h; simp at k
    · exact h
  have co := f_ref27own (T0 := T0) w h l x y b s hl
  rw [← layR_eq hk hp h2]
  refine af_intro Tryz.func25 rfl (by decide) Tryz.ntmps25 rfl ?_
  repeat' (first
  | (apply al_call0 rfl rfl rfl rfl (c := co)
     case ha => exact os_
     rintro _ _ ⟨u, rfl, rfl⟩; refine al_rowc (List.Mem.head _) fun hu1 hu2 => ?_)
    | refine w_str ?_ (hc := ca_guA)
    | refine w_str ?_ (hc := ca_gu)
    | refine s_op ?_ (hy := by first | (apply k_ix rfl; exact oo_; exact on_; apply ik_sl un_ el_; exact g_in gb_) | fail)
    | refine s_opg ?_ (hy := by intro hk hk2; first | (apply k_ix rfl; exact oog_; exact ong_; apply ik_sl un_ el_; exact g_in gb_) | fail)
  | refine s_y ?_
    | refine c_ ?_
    | (refine aw_if ?_ ?_ <;> intro hb <;> try (exfalso; first | assumption | omega | (simp only [or_self, and_self, not_true_eq_false, not_false_eq_true, or_false, false_or, and_false, false_and, true_and, and_true] at hb; first | done | omega)))
    | refine s_call ?_ (c := by first | exact f_ref27blank | fail)
    | refine s_op ?_ (hy := by first | exact ay_loadn rfl agg_ sz_ oo_ (Nat.le_of_ble_eq_true rfl) | exact ay_loadn rfl agg_ sz_ oog_ (Nat.le_of_ble_eq_true rfl) | fail)
    | refine s_yg ?_
    | refine s_callg ?_ (c := by intro hk hk2; first | exact f_ref27blank | fail)
    | refine s_opg ?_ (hy := by intro hk hk2; first | exact ay_loadn rfl agg_ sz_ oo_ (Nat.le_of_ble_eq_true rfl) | exact ay_loadn rfl agg_ sz_ oog_ (Nat.le_of_ble_eq_true rfl) | fail)
    | refine s_skip ?_
    | ((first | refine w_alloc ?_ | refine w_box ?_) <;> intro bb)
    | ((first | refine w_emp ?_ | refine w_make ?_ | refine w_app ?_) <;> intro u hu1 hu2)
    | refine w_stv ?_ | refine w_str ?_ | refine w_cpr ?_ | refine w_cps ?_
    | refine al_last (by kernel_rfl) ?_
  | fail)
  refine aw_lr (d := fun k : Nat => [(9, I k)]) (g := fun k => ovr l p ((cs.map fun c => ((c, true) : Guess)).take k)) (fun k => k ≤ cs.length) (fun k => cs.length - k) 0 (Nat.zero_le _) ?_ ?_
  · simp [ovr]
  rintro k k1
  have hl3 : (ovr l p ((cs.map fun c => ((c, true) : Guess)).take k)).length = l.length := by rw [ovr_len (by simp; omega)]
  by_cases hlt : k < cs.length
  · obtain ⟨⟨c1, c2⟩, hat⟩ : ∃ z, cs[k]? = some z := ⟨_, List.getElem?_eq_getElem hlt⟩
    have hst := ovr_stepG l p (cs.map fun c => ((c, true) : Guess)) k ((c1, c2), true) (by simp [hat]) (by simp; omega)
    obtain ⟨l4, hl4⟩ : ∃ l4, l4 = ovr l p ((cs.map fun c => ((c, true) : Guess)).take k) := ⟨_, rfl⟩
    rw [← hl4] at hl3 hst ⊢
    repeat' (first
    | (apply al_call0 rfl rfl rfl rfl (c := co)
       case ha => exact os_
       rintro _ _ ⟨u, rfl, rfl⟩; refine al_rowc (List.Mem.head _) fun hu1 hu2 => ?_)
      | refine w_str ?_ (hc := ca_guA)
      | refine w_str ?_ (hc := ca_gu)
      | refine s_op ?_ (hy := by first | (apply k_ix rfl; exact oo_; exact on_; apply ik_sl un_ el_; exact g_in gb_) | fail)
      | refine s_opg ?_ (hy := by intro hk hk2; first | (apply k_ix rfl; exact oog_; exact ong_; apply ik_sl un_ el_; exact g_in gb_) | fail)
    | refine s_y ?_
      | refine c_ ?_
      | (refine aw_if ?_ ?_ <;> intro hb <;> try (exfalso; first | assumption | omega | (simp only [or_self, and_self, not_true_eq_false, not_false_eq_true, or_false, false_or, and_false, false_and, true_and, and_true] at hb; first | done | omega)))
      | refine s_call ?_ (c := by first | exact f_ref27blank | fail)
      | refine s_op ?_ (hy := by first | exact ay_loadn rfl agg_ sz_ oo_ (Nat.le_of_ble_eq_true rfl) | exact ay_loadn rfl agg_ sz_ oog_ (Nat.le_of_ble_eq_true rfl) | fail)
      | refine s_yg ?_
      | refine s_callg ?_ (c := by intro hk hk2; first | exact f_ref27blank | fail)
      | refine s_opg ?_ (hy := by intro hk hk2; first | exact ay_loadn rfl agg_ sz_ oo_ (Nat.le_of_ble_eq_true rfl) | exact ay_loadn rfl agg_ sz_ oog_ (Nat.le_of_ble_eq_true rfl) | fail)
      | refine s_skip ?_
      | ((first | refine w_alloc ?_ | refine w_box ?_) <;> intro bb)
      | ((first | refine w_emp ?_ | refine w_make ?_ | refine w_app ?_) <;> intro u hu1 hu2)
      | refine w_stv ?_ | refine w_str ?_ | refine w_cpr ?_ | refine w_cps ?_
      | refine al_last (by kernel_rfl) ?_
    | fail)
    all_goals first | (exfalso; omega) | skip
    refine ⟨k + 1, by omega, by omega, wx_, ?_⟩
    rw [← hst]; exact sl_
  · obtain rfl : k = cs.length := by omega
    rw [List.take_of_length_le (by simp)]
    obtain ⟨l5, hl5⟩ : ∃ l5 : List Guess, l5 = ovr l p (cs.map fun c => ((c, true) : Guess)) := ⟨_, rfl⟩
    rw [← hl5]
    have hl6 : l5.length = l.length := by rw [hl5]; exact ovr_len (by simpa using hp)
    repeat' (first
    | (apply al_call0 rfl rfl rfl rfl (c := co)
       case ha => exact os_
       rintro _ _ ⟨u, rfl, rfl⟩; refine al_rowc (List.Mem.head _) fun hu1 hu2 => ?_)
      | refine w_str ?_ (hc := ca_guA)
      | refine w_str ?_ (hc := ca_gu)
      | refine s_op ?_ (hy := by first | (apply k_ix rfl; exact oo_; exact on_; apply ik_sl un_ el_; exact g_in gb_) | fail)
      | refine s_opg ?_ (hy := by intro hk hk2; first | (apply k_ix rfl; exact oog_; exact ong_; apply ik_sl un_ el_; exact g_in gb_) | fail)
    | refine s_y ?_
      | refine c_ ?_
      | (refine aw_if ?_ ?_ <;> intro hb <;> try (exfalso; first | assumption | omega | (simp only [or_self, and_self, not_true_eq_false, not_false_eq_true, or_false, false_or, and_false, false_and, true_and, and_true] at hb; first | done | omega)))
      | refine s_call ?_ (c := by first | exact f_ref27blank | fail)
      | refine s_op ?_ (hy := by first | exact ay_loadn rfl agg_ sz_ oo_ (Nat.le_of_ble_eq_true rfl) | exact ay_loadn rfl agg_ sz_ oog_ (Nat.le_of_ble_eq_true rfl) | fail)
      | refine s_yg ?_
      | refine s_callg ?_ (c := by intro hk hk2; first | exact f_ref27blank | fail)
      | refine s_opg ?_ (hy := by intro hk hk2; first | exact ay_loadn rfl agg_ sz_ oo_ (Nat.le_of_ble_eq_true rfl) | exact ay_loadn rfl agg_ sz_ oog_ (Nat.le_of_ble_eq_true rfl) | fail)
      | refine s_skip ?_
      | ((first | refine w_alloc ?_ | refine w_box ?_) <;> intro bb)
      | ((first | refine w_emp ?_ | refine w_make ?_ | refine w_app ?_) <;> intro u hu1 hu2)
      | refine w_stv ?_ | refine w_str ?_ | refine w_cpr ?_ | refine w_cps ?_
      | refine al_last (by kernel_rfl) ?_
    | fail)
    all_goals first | (exfalso; omega) | skip
    · rename_i hb1
      have hz : layR w l p cs = (l5.set (p - 1) gBlank).set (p + cs.length) gBlank := by
        unfold layR; simp only
        rw [if_pos ⟨by omega, hb.1.2, hb.2⟩, if_pos ⟨by omega, hb1.1.2, hb1.2⟩, ← hl5]
      rw [hz]
      exact ⟨_, [gsO u _], rl_, sl_, u, rfl, rfl⟩
    · rename_i hb1
      have hz : layR w l p cs = l5.set (p - 1) gBlank := by
        unfold layR; simp only
        rw [if_neg (fun z => by rcases hb with (q | q) | q; omega; rw [z.2.1] at q; cases q; exact q z.2.2), if_pos ⟨by omega, hb1.1.2, hb1.2⟩, ← hl5]
      rw [hz]
      exact ⟨_, [gsO u _], rl_, sl_, u, rfl, rfl⟩
    · rename_i hb1
      have hz : layR w l p cs = l5.set (p + cs.length) gBlank := by
        unfold layR; simp only
        rw [if_pos ⟨by omega, hb.1.2, hb.2⟩, if_neg (fun z => by rcases hb1 with (q | q) | q; omega; rw [z.2.1] at q; cases q; exact q z.2.2), ← hl5]
      rw [hz]
      exact ⟨_, [gsO u _], rl_, sl_, u, rfl, rfl⟩
    · rename_i hb1
      have hz : layR w l p cs = l5 := by
        unfold layR; simp only
        rw [if_neg (fun z => by rcases hb with (q | q) | q; omega; rw [z.2.1] at q; cases q; exact q z.2.2), if_neg (fun z => by rcases hb1 with (q | q) | q; omega; rw [z.2.1] at q; cases q; exact q z.2.2), ← hl5]
      rw [hz]
      exact ⟨_, [gsO u _], rl_, sl_, u, rfl, rfl⟩
theorem f_ref27lay (w h : Int) (l : List Guess) (x y : Int) (b s : Bool) (p : Int) (cs : List Cell) (hw : 1 ≤ w) (hw2 : w ≤ 1000) (hl : l.length ≤ 100000) (hk : GOk w.toNat l) (hp0 : 0 ≤ p) (hp : p + cs.length ≤ l.length) (h2 : 0 < (p.toNat + cs.length) % w.toNat → p.toNat + cs.length < l.length) :
    AP Tryz.prog T0 25 [belA w h l x y b s, I p, slA cellT cs] (belA w h (layB w.toNat l p.toNat cs) x y b s) := by
  obtain ⟨w, rfl⟩ := Int.eq_ofNat_of_zero_le (show 0 ≤ w by omega)
  obtain ⟨p, rfl⟩ := Int.eq_ofNat_of_zero_le hp0
  exact (f_ref27layO w h l x y b s p cs (by omega) (by omega) hl (by simpa using hk) (by omega) h2).frz1 fza_
theorem f_ref27down (w h : Int) (l : List Guess) (x y : Int) (b s : Bool) (c : Cmd) (hx : -1000 ≤ x ∧ x ≤ 1000) (hh : -1000 ≤ h ∧ h ≤ 1000) : AP Tryz.prog T0 23 [belA w h l x y b s, cmdA c] (tupA [B (goesDown w x b c), B (goesDown w x b c && decide (y = h - 1))]) := by
  obtain ⟨k, a, d, r⟩ := c
  have hr : (cellsM r).length ≤ 2 := (cellsM_len r).2
  have c1 := f_ref02Width (T0 := T0) r
  have c2 : True := trivial
  have e : goesDown w x b (k, a, d, r) = (decide (k = 10) || (decide (k = 1) && (b || decide (w < x + (cellsM r).length)))) := rfl
  rw [e]
  clear e
  generalize (cellsM r).length = n at *
  refine af_intro Tryz.func23 rfl (by decide) Tryz.ntmps23 rfl ?_
  repeat' (first
  | fail
  | refine s_y ?_
    | refine c_ ?_
    | (refine aw_if ?_ ?_ <;> intro hb <;> try (exfalso; first | assumption | omega | (simp only [or_self, and_self, not_true_eq_false, not_false_eq_true, or_false, false_or, and_false, false_and, true_and, and_true] at hb; first | done | omega)))
    | refine s_call ?_ (c := by first | exact c1 | exact c2 | fail)
    | refine s_op ?_ (hy := by first | fail | fail)
    | refine s_yg ?_
    | refine s_callg ?_ (c := by intro hk hk2; first | exact c1 | exact c2 | fail)
    | refine s_opg ?_ (hy := by intro hk hk2; first | fail | fail)
    | refine s_skip ?_
    | ((first | refine w_alloc ?_ | refine w_box ?_) <;> intro bb)
    | ((first | refine w_emp ?_ | refine w_make ?_ | refine w_app ?_) <;> intro u hu1 hu2)
    | refine w_stv ?_ | refine w_str ?_ | refine w_cpr ?_ | refine w_cps ?_
    | refine al_last (by kernel_rfl) ?_
  | fail)
  exact ⟨_, [], rl_, List.nil_sublist _, Sub.refl _, rfl⟩
theorem f_unsure (w h : Int) (l : List Guess) (x y : Int) (b s : Bool) : AP Tryz.prog T0 20 [belA w h l x y b s] (blA (newB w h).1) := by
  have c1 := f_ref27New (T0 := T0) w h
  have c2 : True := trivial
  generalize newB w h = z at *
  refine af_intro Tryz.func20 rfl (by decide) Tryz.ntmps20 rfl ?_
  repeat' (first
  | fail
  | refine s_y ?_
    | refine c_ ?_
    | (refine aw_if ?_ ?_ <;> intro hb <;> try (exfalso; first | assumption | omega | (simp only [or_self, and_self, not_true_eq_false, not_false_eq_true, or_false, false_or, and_false, false_and, true_and, and_true] at hb; first | done | omega)))
    | refine s_call ?_ (c := by first | exact c1 | exact c2 | fail)
    | refine s_op ?_ (hy := by first | fail | fail)
    | refine s_yg ?_
    | refine s_callg ?_ (c := by intro hk hk2; first | exact c1 | exact c2 | fail)
    | refine s_opg ?_ (hy := by intro hk hk2; first | fail | fail)
    | refine s_skip ?_
    | ((first | refine w_alloc ?_ | refine w_box ?_) <;> intro bb)
    | ((first | refine w_emp ?_ | refine w_make ?_ | refine w_app ?_) <;> intro u hu1 hu2)
    | refine w_stv ?_ | refine w_str ?_ | refine w_cpr ?_ | refine w_cps ?_
    | refine al_last (by kernel_rfl) ?_
  | fail)
  exact ⟨_, [], rl_, List.nil_sublist _, Sub.refl _, rfl⟩
theorem blank_okG {w h : Int} (hs : 2 ≤ w ∧ w ≤ 80 ∧ 1 ≤ h ∧ h ≤ 24) : okG w h (List.replicate (w.toNat * h.toNat) (32, 0)) = true := by
  obtain ⟨w, rfl⟩ := Int.eq_ofNat_of_zero_le (show 0 ≤ w by omega)
  obtain ⟨h, rfl⟩ := Int.eq_ofNat_of_zero_le (show 0 ≤ h by omega)
  have hat : ∀ i, i < w * h → cAt (List.replicate (w * h) (32, 0)) i = (32, 0) := fun i hi => by simp [cAt, List.getElem?_replicate, hi]
  simp only [okG, OkG, decide_eq_true_eq, Int.toNat_natCast, List.length_replicate]
  refine ⟨hs, Int.natCast_mul w h, fun i hi => ?_⟩
  rw [hat i hi]
  exact ⟨isCell_blank, lost_false.2 (by rw [hat i hi]; exact ⟨fun z => (by simp at z), fun z => (by simp at z)⟩)⟩
theorem f_cursor (w h : Int) (l : List Guess) (x y : Int) (b s : Bool) (c : Cmd) (hs : 2 ≤ w ∧ w ≤ 80 ∧ 1 ≤ h ∧ h ≤ 24) (hx : 0 ≤ x ∧ x < w) (hy : 0 ≤ y ∧ y < h) (hb : b = true → x = w - 1) (hc : isCmd c = true) : ∃ L, AP Tryz.prog T0 21 [belA w h l x y b s, cmdA c] (termA w h L (curK w h x y b c).1 (curK w h x y b c).2.1 (curK w h x y b c).2.2) := by
  obtain ⟨G, hG⟩ : ∃ G, G = List.replicate (w.toNat * h.toNat) ((32, 0) : Cell) := ⟨_, rfl⟩
  have hok : okT w h G x y b = true := okT_iff.2 ⟨by rw [hG]; exact blank_okG hs, ⟨hx.1, hx.2, hy.1, hy.2⟩, hb⟩
  have c1 : AP Tryz.prog T0 48 [I w, I h] (tupA [termA w h G 0 0 false, I 0]) := (f_ref07New w h).to (by rw [newR, if_pos (by simp [sidesM]; omega), hG])
  have c2 : AP Tryz.prog T0 49 [termA w h G x y b, cmdA c] (tupA [tmA (doK w h G x y b c), I 0]) := (f_ref07Do w h G x y b c).to (by rw [doT_ok (t := (w, h, G, x, y, b)) hok hc])
  refine ⟨(doK w h G x y b c).2.2.1, ?_⟩
  rw [← doK_cur w h G x y b c]
  have hsd := doK_sides w h G x y b c
  clear hG hok
  generalize doK w h G x y b c = z at *
  obtain ⟨z1, z2, z3, z4, z5, z6⟩ := z
  obtain ⟨rfl, rfl⟩ := hsd
  refine af_intro Tryz.func21 rfl (by decide) Tryz.ntmps21 rfl ?_
  repeat' (first
  | fail
  | refine s_y ?_
    | refine c_ ?_
    | (refine aw_if ?_ ?_ <;> intro hb <;> try (exfalso; first | assumption | omega | (simp only [or_self, and_self, not_true_eq_false, not_false_eq_true, or_false, false_or, and_false, false_and, true_and, and_true] at hb; first | done | omega)))
    | refine s_call ?_ (c := by first | exact c1 | exact c2 | fail)
    | refine s_op ?_ (hy := by first | fail | fail)
    | refine s_yg ?_
    | refine s_callg ?_ (c := by intro hk hk2; first | exact c1 | exact c2 | fail)
    | refine s_opg ?_ (hy := by intro hk hk2; first | fail | fail)
    | refine s_skip ?_
    | ((first | refine w_alloc ?_ | refine w_box ?_) <;> intro bb)
    | ((first | refine w_emp ?_ | refine w_make ?_ | refine w_app ?_) <;> intro u hu1 hu2)
    | refine w_stv ?_ | refine w_str ?_ | refine w_cpr ?_ | refine w_cps ?_
    | refine al_last (by kernel_rfl) ?_
  | fail)
  exact ⟨_, [], rl_, List.nil_sublist _, Sub.refl _, rfl⟩
end Go.Proofs.YtockidoncngdbaaGreatDoor
