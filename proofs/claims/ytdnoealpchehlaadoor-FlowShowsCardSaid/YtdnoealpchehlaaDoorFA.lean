/- Layer 4 (flow): the reference's cells. No condition. -/
import Derived.Test.YtdnoealpchehlaaDoorF9
namespace Go.Proofs.YtdnoealpchehlaaDoor
set_option linter.unusedSimpArgs false
set_option linter.unusedVariables false
open Go Go.RowKit
attribute [local irreducible] AW AL AO QY Opd OpdN vA gvA tupA aggA slA slcA ipA rpA EqK LnK IxK LdK FaK FdK
set_option maxRecDepth 100000

theorem layM_le (w a : Nat) (l : List Int) (k : Nat) : ∀ m, k ≤ m → m ≤ l.length → (layM w a (l.take k)).2 ≤ (layM w a (l.take m)).2 := by
  intro m
  induction m with
  | zero => intro h _; have : k = 0 := by omega
            subst this; exact Nat.le_refl _
  | succ m ih =>
    intro h1 h2
    by_cases hk : k = m + 1
    · subst hk; exact Nat.le_refl _
    · refine Nat.le_trans (ih (by omega) (by omega)) ?_
      obtain ⟨g1, g2⟩ := layM_mono w a l m (by omega)
      rw [← g2]
      exact Nat.le_trans g1 (Nat.le_add_right _ _)
theorem set_mid {α : Type} (p c : List α) (j m : Nat) (b z : α) (hz : c[j]? = some z) (hm : 0 < m) (i : Nat) (hi : i = p.length + j) : (p ++ c.take j ++ List.replicate m b).set i z = p ++ c.take (j + 1) ++ List.replicate (m - 1) b := by
  obtain ⟨h1, h2⟩ := List.getElem?_eq_some_iff.1 hz
  obtain ⟨m', rfl⟩ : ∃ m', m = m' + 1 := ⟨m - 1, by omega⟩
  have hlen : (p ++ c.take j).length = i := by simp; omega
  rw [List.take_succ_eq_append_getElem h1, h2, List.replicate_succ, List.set_append_right _ _ (by omega), hlen, Nat.sub_self, List.set_cons_zero, Nat.add_sub_cancel]
  simp
set_option maxHeartbeats 2000000 in
theorem f_ref04Cells (w a : Int) (l : List Int) : AP Tryd.prog tab0 35 [I w, I a, slA i32T l] (cells2 (cellsR w a l)) := by
  by_cases he : (layR w a l).2.2 = 0
  · obtain ⟨w', a', rfl, rfl, hw1, hw2, ha1, h5, hR⟩ := layR_ok w a l he
    have c1 : AP Tryd.prog tab0 32 [I w', I a', slA i32T l] (tupA [slA i64T (layM w' a' l).1, I (layM w' a' l).2, I 0]) := (f_ref04Lay w' a' l).to (by rw [hR]; rfl)
    have hfull := layM_len w' a' l l.length (Nat.le_refl _)
    have hfl := flowM_lay w' a' l l.length (Nat.le_refl _)
    rw [List.take_of_length_le (Nat.le_refl _)] at hfull hfl
    refine af_intro Tryd.func35 rfl (by decide) Tryd.ntmps35 rfl ?_
    repeat' (first
    | (refine al_en rfl (ao_store_row (z := zc) 0 rfl el_cell rfl (by first | (refine og rfl ?_; (first | assumption | (refine gd ?_ ?_ <;> assumption) | (refine gd rfl ?_; assumption) | (apply gl; assumption) | (refine gd (by apply gl; assumption) ?_; assumption) | (simp_all; done))) | exact odl rfl (by with_reducible rfl) | exact od rfl) (by simp; omega) (by first | (refine og rfl ?_; (first | assumption | (refine gd ?_ ?_ <;> assumption) | (refine gd rfl ?_; assumption) | (apply gl; assumption) | (refine gd (by apply gl; assumption) ?_; assumption) | (simp_all; done))) | exact odl rfl (by with_reducible rfl) | exact od rfl) ca_agg) rfl (fun _ _ h => h.elim) ?_; rintro _ _ rfl)
    | refine aw_seq ?_
      | refine aw_region0 ?_
      | refine al_nil ?_
      | refine th_n ?_
      | refine th_e ?_
      | refine th_r ?_
      | refine ib_n ?_
      | refine ib_e rfl ?_
      | refine ib_e' rfl ?_
      | refine ib_r ?_
      | refine aw_block ?_
      | refine aw_exit ?_
      | refine aw_ret ?_
      | refine aw_skip ?_
      | refine aw_region1 (by kernel_rfl) (by kernel_rfl) ?_
      | (refine aw_cond rfl ?_ ?_ <;> intro hb <;> (try simp only [decide_eq_true_eq, decide_eq_false_iff_not, Bool.and_eq_true, Bool.or_eq_true, Bool.not_eq_true', Bool.and_eq_false_iff, Bool.or_eq_false_iff, Bool.not_eq_false'] at hb) <;> (first | (exfalso; omega) | skip))
    | (refine al_es rfl (ao_box rfl (by first | exact od rfl | exact og rfl (by assumption)) (by first | exact ca_agg | exact ca_v rfl | exact ca_sl)) rfl rfl (fun _ _ h => h.elim) ?_; rintro _ _ ⟨bb, rfl, rfl⟩)
    | (refine al_es rfl (ao_empty rfl un_ el_) rfl rfl (fun _ _ h => h.elim) ?_; rintro _ _ ⟨u, rfl, rfl⟩)
    | (refine al_es rfl (ao_append 0 rfl un_ el_ (by first | (refine og rfl ?_; (first | assumption | (refine gd ?_ ?_ <;> assumption) | (refine gd rfl ?_; assumption) | (apply gl; assumption) | (refine gd (by apply gl; assumption) ?_; assumption) | (simp_all; done))) | exact od rfl) rfl (by first | (refine og rfl ?_; (first | assumption | (refine gd ?_ ?_ <;> assumption) | (refine gd rfl ?_; assumption) | (apply gl; assumption) | (refine gd (by apply gl; assumption) ?_; assumption) | (simp_all; done))) | exact od rfl) (by (try simp only [List.length_append, List.length_nil, List.length_cons, List.nil_append, List.length_replicate]); omega) (by (try simp only [List.length_append, List.length_nil, List.length_cons, List.nil_append, List.length_replicate]); simp only [maxLen]; omega)) rfl rfl (fun _ _ h => h.elim) ?_; rintro _ _ ⟨u, rfl, rfl⟩)
    | (apply al_y
       case hy =>
        first
        | apply qy_plain rfl
        | apply qy_run rfl rfl (guard_b rfl) rfl
        | exact qy_skip rfl rfl (guard_b rfl) rfl
        | (apply qy_gv rfl rfl (by first | exact guard_b rfl | exact guard_gv rfl); intro hk; have hk2 := hk; (try simp only [Bool.true_and, Bool.and_eq_true, Bool.or_eq_true, beq_iff_eq, decide_eq_true_eq, decide_eq_false_iff_not, Bool.not_eq_true', Bool.not_eq_false', Bool.and_eq_false_iff, Bool.or_eq_false_iff] at hk2))
        first
        | exact ay_len_row 0 rfl rfl un_ (by first | (refine og rfl ?_; (first | assumption | (refine gd ?_ ?_ <;> assumption) | (refine gd rfl ?_; assumption) | (apply gl; assumption) | (refine gd (by apply gl; assumption) ?_; assumption) | (simp_all; done))) | exact od rfl) rfl | exact bs_cell0 rfl un_ (by first | (refine og rfl ?_; (first | assumption | (refine gd ?_ ?_ <;> assumption) | (refine gd rfl ?_; assumption) | (apply gl; assumption) | (refine gd (by apply gl; assumption) ?_; assumption) | (simp_all; done))) | exact od rfl)
        | ((first | apply ay_move rfl | apply ay_assign rfl | apply ay_not rfl | apply ay_lss rfl | apply ay_leq rfl | apply ay_gtr rfl | apply ay_geq rfl | apply k_eql rfl | apply k_neq rfl | apply ay_and rfl | apply ay_or rfl | apply ay_call rfl | apply k_len rfl | apply k_ix rfl | apply k_ld rfl | apply k_fa rfl | apply k_fd rfl | apply ay_build rfl st_ | apply ay_extract rfl | apply ay_slice rfl un_ el_ | apply bs_cell1 rfl un_ | apply bs_cell2 rfl un_ | apply kn_add rfl | apply kn_sub rfl | apply kn_mul rfl | apply kn_quo rfl | apply kn_rem rfl)
         <;> (repeat' (
          first
          | ((first | refine og rfl ?_ | refine ogn rfl ?_); (first | assumption | (refine gd ?_ ?_ <;> assumption) | (refine gd rfl ?_; assumption) | (apply gl; assumption) | (refine gd (by apply gl; assumption) ?_; assumption) | (simp_all; done))) | exact odln rfl (by with_reducible rfl) | exact odn rfl | exact od rfl
          | exact c1 | exact f_ref02Cells _
          | exact un_ | exact el_ | exact agg_ | exact sz_ | exact sp_ | exact fl_ | exact st_
          | exact nk_sl un_ | exact nk_row 0 un_ rfl | exact ik_sl un_ el_ (by first | exact hat | exact hzc | exact List.getElem?_eq_getElem (by first | omega | (simp; omega)) | exact get_in (by first | omega | (simp; omega)) | fail) | exact lk_el el_ | exact lk_1 agg_ | exact ak_ip fl_ sp_ | exact dk_1 fl_ agg_ rfl
          | exact lk_v1 0 agg_ rfl rfl | exact lk_v1 1 agg_ rfl rfl | exact lk_vn 0 agg_ sz_ rfl rfl | exact ak_var fl_ sp_
          | exact ik_row 0 un_ el_ rfl (by simp; omega)
          | exact ek_int | exact ek_bool un_ | exact ek_cell
          | exact fit64 (by omega) (by omega) | exact fit32 (by omega) (by omega) | exact fit8 (by omega) (by omega)
          | exact pa_nil | apply pk | exact ca_agg | exact ca_v rfl | exact ca_sl | exact sc_0 | apply SetC.here | apply SetC.next
          | exact opds0 | apply opds1 | exact lo_none | apply lo_k | exact hi_none | apply hi_k
          | exact rfl | omega | intro hp)); done)
        | ((first | apply ay_add rfl | apply ay_sub rfl | apply ay_mul rfl | apply ay_quo rfl | apply ay_rem rfl)
         <;> first | exact (by first | (refine og rfl ?_; (first | assumption | (refine gd ?_ ?_ <;> assumption) | (refine gd rfl ?_; assumption) | (apply gl; assumption) | (refine gd (by apply gl; assumption) ?_; assumption) | (simp_all; done))) | exact od rfl) | omega | exact (by first | exact fit64 (by omega) (by omega) | exact fit32 (by omega) (by omega) | exact fit8 (by omega) (by omega)))
       case hx => rfl
       case hd => rfl)
    | (refine al_last (by kernel_rfl) ?_)
    | (apply al_freezeF 0 rfl
       case hz => repeat' (first | exact fzf_nil | apply fzf_cons | exact fz_here | apply fz_agg | apply fz_tup | exact fz_keep | exact fzl_nil | apply fzl_cons | fail))
    | fail)
    all_goals first | (exfalso; simp at hb; done) | skip
    refine aw_for2 (fun (j : Nat) (u : Value) => [(1, I (a' : Nat)), (2, slA i32T l), (8, slA i64T (layM w' a' l).1), (9, I ((layM w' a' l).2 : Nat)), (11, vA u), (12, I (a' + j : Nat))])
      (fun j u => [rowO cellT 29 u (List.replicate j (32, 0))]) (fun j _ => a' + j ≤ (layM w' a' l).2) (fun j _ => (layM w' a' l).2 - (a' + j)) 0 u (by omega) (by repeat' (first | exact weak_nil | refine weak_cons rfl ?_ | fail)) rfl ?_
    clear u
    rintro j u i1
    by_cases hj : a' + j < (layM w' a' l).2
    · repeat' (first
      | (refine al_en rfl (ao_store_row (z := zc) 0 rfl el_cell rfl (by first | (refine og rfl ?_; (first | assumption | (refine gd ?_ ?_ <;> assumption) | (refine gd rfl ?_; assumption) | (apply gl; assumption) | (refine gd (by apply gl; assumption) ?_; assumption) | (simp_all; done))) | exact odl rfl (by with_reducible rfl) | exact od rfl) (by simp; omega) (by first | (refine og rfl ?_; (first | assumption | (refine gd ?_ ?_ <;> assumption) | (refine gd rfl ?_; assumption) | (apply gl; assumption) | (refine gd (by apply gl; assumption) ?_; assumption) | (simp_all; done))) | exact odl rfl (by with_reducible rfl) | exact od rfl) ca_agg) rfl (fun _ _ h => h.elim) ?_; rintro _ _ rfl)
      | refine aw_seq ?_
        | refine aw_region0 ?_
        | refine al_nil ?_
        | refine th_n ?_
        | refine th_e ?_
        | refine th_r ?_
        | refine ib_n ?_
        | refine ib_e rfl ?_
        | refine ib_e' rfl ?_
        | refine ib_r ?_
        | refine aw_block ?_
        | refine aw_exit ?_
        | refine aw_ret ?_
        | refine aw_skip ?_
        | refine aw_region1 (by kernel_rfl) (by kernel_rfl) ?_
        | (refine aw_cond rfl ?_ ?_ <;> intro hb <;> (try simp only [decide_eq_true_eq, decide_eq_false_iff_not, Bool.and_eq_true, Bool.or_eq_true, Bool.not_eq_true', Bool.and_eq_false_iff, Bool.or_eq_false_iff, Bool.not_eq_false'] at hb) <;> (first | (exfalso; omega) | skip))
      | (refine al_es rfl (ao_box rfl (by first | exact od rfl | exact og rfl (by assumption)) (by first | exact ca_agg | exact ca_v rfl | exact ca_sl)) rfl rfl (fun _ _ h => h.elim) ?_; rintro _ _ ⟨bb, rfl, rfl⟩)
      | (refine al_es rfl (ao_empty rfl un_ el_) rfl rfl (fun _ _ h => h.elim) ?_; rintro _ _ ⟨u, rfl, rfl⟩)
      | (refine al_es rfl (ao_append 0 rfl un_ el_ (by first | (refine og rfl ?_; (first | assumption | (refine gd ?_ ?_ <;> assumption) | (refine gd rfl ?_; assumption) | (apply gl; assumption) | (refine gd (by apply gl; assumption) ?_; assumption) | (simp_all; done))) | exact od rfl) rfl (by first | (refine og rfl ?_; (first | assumption | (refine gd ?_ ?_ <;> assumption) | (refine gd rfl ?_; assumption) | (apply gl; assumption) | (refine gd (by apply gl; assumption) ?_; assumption) | (simp_all; done))) | exact od rfl) (by (try simp only [List.length_append, List.length_nil, List.length_cons, List.nil_append, List.length_replicate]); omega) (by (try simp only [List.length_append, List.length_nil, List.length_cons, List.nil_append, List.length_replicate]); simp only [maxLen]; omega)) rfl rfl (fun _ _ h => h.elim) ?_; rintro _ _ ⟨u, rfl, rfl⟩)
      | (apply al_y
         case hy =>
          first
          | apply qy_plain rfl
          | apply qy_run rfl rfl (guard_b rfl) rfl
          | exact qy_skip rfl rfl (guard_b rfl) rfl
          | (apply qy_gv rfl rfl (by first | exact guard_b rfl | exact guard_gv rfl); intro hk; have hk2 := hk; (try simp only [Bool.true_and, Bool.and_eq_true, Bool.or_eq_true, beq_iff_eq, decide_eq_true_eq, decide_eq_false_iff_not, Bool.not_eq_true', Bool.not_eq_false', Bool.and_eq_false_iff, Bool.or_eq_false_iff] at hk2))
          first
          | exact ay_len_row 0 rfl rfl un_ (by first | (refine og rfl ?_; (first | assumption | (refine gd ?_ ?_ <;> assumption) | (refine gd rfl ?_; assumption) | (apply gl; assumption) | (refine gd (by apply gl; assumption) ?_; assumption) | (simp_all; done))) | exact od rfl) rfl | exact bs_cell0 rfl un_ (by first | (refine og rfl ?_; (first | assumption | (refine gd ?_ ?_ <;> assumption) | (refine gd rfl ?_; assumption) | (apply gl; assumption) | (refine gd (by apply gl; assumption) ?_; assumption) | (simp_all; done))) | exact od rfl)
          | ((first | apply ay_move rfl | apply ay_assign rfl | apply ay_not rfl | apply ay_lss rfl | apply ay_leq rfl | apply ay_gtr rfl | apply ay_geq rfl | apply k_eql rfl | apply k_neq rfl | apply ay_and rfl | apply ay_or rfl | apply ay_call rfl | apply k_len rfl | apply k_ix rfl | apply k_ld rfl | apply k_fa rfl | apply k_fd rfl | apply ay_build rfl st_ | apply ay_extract rfl | apply ay_slice rfl un_ el_ | apply bs_cell1 rfl un_ | apply bs_cell2 rfl un_ | apply kn_add rfl | apply kn_sub rfl | apply kn_mul rfl | apply kn_quo rfl | apply kn_rem rfl)
           <;> (repeat' (
            first
            | ((first | refine og rfl ?_ | refine ogn rfl ?_); (first | assumption | (refine gd ?_ ?_ <;> assumption) | (refine gd rfl ?_; assumption) | (apply gl; assumption) | (refine gd (by apply gl; assumption) ?_; assumption) | (simp_all; done))) | exact odln rfl (by with_reducible rfl) | exact odn rfl | exact od rfl
            | exact c1 | exact f_ref02Cells _
            | exact un_ | exact el_ | exact agg_ | exact sz_ | exact sp_ | exact fl_ | exact st_
            | exact nk_sl un_ | exact nk_row 0 un_ rfl | exact ik_sl un_ el_ (by first | exact hat | exact hzc | exact List.getElem?_eq_getElem (by first | omega | (simp; omega)) | exact get_in (by first | omega | (simp; omega)) | fail) | exact lk_el el_ | exact lk_1 agg_ | exact ak_ip fl_ sp_ | exact dk_1 fl_ agg_ rfl
            | exact lk_v1 0 agg_ rfl rfl | exact lk_v1 1 agg_ rfl rfl | exact lk_vn 0 agg_ sz_ rfl rfl | exact ak_var fl_ sp_
            | exact ik_row 0 un_ el_ rfl (by simp; omega)
            | exact ek_int | exact ek_bool un_ | exact ek_cell
            | exact fit64 (by omega) (by omega) | exact fit32 (by omega) (by omega) | exact fit8 (by omega) (by omega)
            | exact pa_nil | apply pk | exact ca_agg | exact ca_v rfl | exact ca_sl | exact sc_0 | apply SetC.here | apply SetC.next
            | exact opds0 | apply opds1 | exact lo_none | apply lo_k | exact hi_none | apply hi_k
            | exact rfl | omega | intro hp)); done)
          | ((first | apply ay_add rfl | apply ay_sub rfl | apply ay_mul rfl | apply ay_quo rfl | apply ay_rem rfl)
           <;> first | exact (by first | (refine og rfl ?_; (first | assumption | (refine gd ?_ ?_ <;> assumption) | (refine gd rfl ?_; assumption) | (apply gl; assumption) | (refine gd (by apply gl; assumption) ?_; assumption) | (simp_all; done))) | exact od rfl) | omega | exact (by first | exact fit64 (by omega) (by omega) | exact fit32 (by omega) (by omega) | exact fit8 (by omega) (by omega)))
         case hx => rfl
         case hd => rfl)
      | (refine al_last (by kernel_rfl) ?_)
      | (apply al_freezeF 0 rfl
         case hz => repeat' (first | exact fzf_nil | apply fzf_cons | exact fz_here | apply fz_agg | apply fz_tup | exact fz_keep | exact fzl_nil | apply fzl_cons | fail))
      | fail)
      refine ⟨j + 1, _, by omega, by omega, (by repeat' (first | exact weak_nil | refine weak_cons rfl ?_ | fail)), by rw [List.replicate_succ']; rfl⟩
    · repeat' (first
      | (refine al_en rfl (ao_store_row (z := zc) 0 rfl el_cell rfl (by first | (refine og rfl ?_; (first | assumption | (refine gd ?_ ?_ <;> assumption) | (refine gd rfl ?_; assumption) | (apply gl; assumption) | (refine gd (by apply gl; assumption) ?_; assumption) | (simp_all; done))) | exact odl rfl (by with_reducible rfl) | exact od rfl) (by simp; omega) (by first | (refine og rfl ?_; (first | assumption | (refine gd ?_ ?_ <;> assumption) | (refine gd rfl ?_; assumption) | (apply gl; assumption) | (refine gd (by apply gl; assumption) ?_; assumption) | (simp_all; done))) | exact odl rfl (by with_reducible rfl) | exact od rfl) ca_agg) rfl (fun _ _ h => h.elim) ?_; rintro _ _ rfl)
      | refine aw_seq ?_
        | refine aw_region0 ?_
        | refine al_nil ?_
        | refine th_n ?_
        | refine th_e ?_
        | refine th_r ?_
        | refine ib_n ?_
        | refine ib_e rfl ?_
        | refine ib_e' rfl ?_
        | refine ib_r ?_
        | refine aw_block ?_
        | refine aw_exit ?_
        | refine aw_ret ?_
        | refine aw_skip ?_
        | refine aw_region1 (by kernel_rfl) (by kernel_rfl) ?_
        | (refine aw_cond rfl ?_ ?_ <;> intro hb <;> (try simp only [decide_eq_true_eq, decide_eq_false_iff_not, Bool.and_eq_true, Bool.or_eq_true, Bool.not_eq_true', Bool.and_eq_false_iff, Bool.or_eq_false_iff, Bool.not_eq_false'] at hb) <;> (first | (exfalso; omega) | skip))
      | (refine al_es rfl (ao_box rfl (by first | exact od rfl | exact og rfl (by assumption)) (by first | exact ca_agg | exact ca_v rfl | exact ca_sl)) rfl rfl (fun _ _ h => h.elim) ?_; rintro _ _ ⟨bb, rfl, rfl⟩)
      | (refine al_es rfl (ao_empty rfl un_ el_) rfl rfl (fun _ _ h => h.elim) ?_; rintro _ _ ⟨u, rfl, rfl⟩)
      | (refine al_es rfl (ao_append 0 rfl un_ el_ (by first | (refine og rfl ?_; (first | assumption | (refine gd ?_ ?_ <;> assumption) | (refine gd rfl ?_; assumption) | (apply gl; assumption) | (refine gd (by apply gl; assumption) ?_; assumption) | (simp_all; done))) | exact od rfl) rfl (by first | (refine og rfl ?_; (first | assumption | (refine gd ?_ ?_ <;> assumption) | (refine gd rfl ?_; assumption) | (apply gl; assumption) | (refine gd (by apply gl; assumption) ?_; assumption) | (simp_all; done))) | exact od rfl) (by (try simp only [List.length_append, List.length_nil, List.length_cons, List.nil_append, List.length_replicate]); omega) (by (try simp only [List.length_append, List.length_nil, List.length_cons, List.nil_append, List.length_replicate]); simp only [maxLen]; omega)) rfl rfl (fun _ _ h => h.elim) ?_; rintro _ _ ⟨u, rfl, rfl⟩)
      | (apply al_y
         case hy =>
          first
          | apply qy_plain rfl
          | apply qy_run rfl rfl (guard_b rfl) rfl
          | exact qy_skip rfl rfl (guard_b rfl) rfl
          | (apply qy_gv rfl rfl (by first | exact guard_b rfl | exact guard_gv rfl); intro hk; have hk2 := hk; (try simp only [Bool.true_and, Bool.and_eq_true, Bool.or_eq_true, beq_iff_eq, decide_eq_true_eq, decide_eq_false_iff_not, Bool.not_eq_true', Bool.not_eq_false', Bool.and_eq_false_iff, Bool.or_eq_false_iff] at hk2))
          first
          | exact ay_len_row 0 rfl rfl un_ (by first | (refine og rfl ?_; (first | assumption | (refine gd ?_ ?_ <;> assumption) | (refine gd rfl ?_; assumption) | (apply gl; assumption) | (refine gd (by apply gl; assumption) ?_; assumption) | (simp_all; done))) | exact od rfl) rfl | exact bs_cell0 rfl un_ (by first | (refine og rfl ?_; (first | assumption | (refine gd ?_ ?_ <;> assumption) | (refine gd rfl ?_; assumption) | (apply gl; assumption) | (refine gd (by apply gl; assumption) ?_; assumption) | (simp_all; done))) | exact od rfl)
          | ((first | apply ay_move rfl | apply ay_assign rfl | apply ay_not rfl | apply ay_lss rfl | apply ay_leq rfl | apply ay_gtr rfl | apply ay_geq rfl | apply k_eql rfl | apply k_neq rfl | apply ay_and rfl | apply ay_or rfl | apply ay_call rfl | apply k_len rfl | apply k_ix rfl | apply k_ld rfl | apply k_fa rfl | apply k_fd rfl | apply ay_build rfl st_ | apply ay_extract rfl | apply ay_slice rfl un_ el_ | apply bs_cell1 rfl un_ | apply bs_cell2 rfl un_ | apply kn_add rfl | apply kn_sub rfl | apply kn_mul rfl | apply kn_quo rfl | apply kn_rem rfl)
           <;> (repeat' (
            first
            | ((first | refine og rfl ?_ | refine ogn rfl ?_); (first | assumption | (refine gd ?_ ?_ <;> assumption) | (refine gd rfl ?_; assumption) | (apply gl; assumption) | (refine gd (by apply gl; assumption) ?_; assumption) | (simp_all; done))) | exact odln rfl (by with_reducible rfl) | exact odn rfl | exact od rfl
            | exact c1 | exact f_ref02Cells _
            | exact un_ | exact el_ | exact agg_ | exact sz_ | exact sp_ | exact fl_ | exact st_
            | exact nk_sl un_ | exact nk_row 0 un_ rfl | exact ik_sl un_ el_ (by first | exact hat | exact hzc | exact List.getElem?_eq_getElem (by first | omega | (simp; omega)) | exact get_in (by first | omega | (simp; omega)) | fail) | exact lk_el el_ | exact lk_1 agg_ | exact ak_ip fl_ sp_ | exact dk_1 fl_ agg_ rfl
            | exact lk_v1 0 agg_ rfl rfl | exact lk_v1 1 agg_ rfl rfl | exact lk_vn 0 agg_ sz_ rfl rfl | exact ak_var fl_ sp_
            | exact ik_row 0 un_ el_ rfl (by simp; omega)
            | exact ek_int | exact ek_bool un_ | exact ek_cell
            | exact fit64 (by omega) (by omega) | exact fit32 (by omega) (by omega) | exact fit8 (by omega) (by omega)
            | exact pa_nil | apply pk | exact ca_agg | exact ca_v rfl | exact ca_sl | exact sc_0 | apply SetC.here | apply SetC.next
            | exact opds0 | apply opds1 | exact lo_none | apply lo_k | exact hi_none | apply hi_k
            | exact rfl | omega | intro hp)); done)
          | ((first | apply ay_add rfl | apply ay_sub rfl | apply ay_mul rfl | apply ay_quo rfl | apply ay_rem rfl)
           <;> first | exact (by first | (refine og rfl ?_; (first | assumption | (refine gd ?_ ?_ <;> assumption) | (refine gd rfl ?_; assumption) | (apply gl; assumption) | (refine gd (by apply gl; assumption) ?_; assumption) | (simp_all; done))) | exact od rfl) | omega | exact (by first | exact fit64 (by omega) (by omega) | exact fit32 (by omega) (by omega) | exact fit8 (by omega) (by omega)))
         case hx => rfl
         case hd => rfl)
      | (refine al_last (by kernel_rfl) ?_)
      | (apply al_freezeF 0 rfl
         case hz => repeat' (first | exact fzf_nil | apply fzf_cons | exact fz_here | apply fz_agg | apply fz_tup | exact fz_keep | exact fzl_nil | apply fzl_cons | fail))
      | fail)
      refine aw_for (fun (k : Nat) => [(1, I (a' : Nat)), (2, slA i32T l), (8, slA i64T (layM w' a' l).1), (11, vA u), (13, I k)])
        (fun k => [rowO cellT 29 u ((flowM w' a' (l.take k)).1 ++ List.replicate (j - (flowM w' a' (l.take k)).1.length) (32, 0))]) (fun k => k ≤ l.length) (fun k => l.length - k) 0 (Nat.zero_le _) (by repeat' (first | exact weak_nil | refine weak_cons rfl ?_ | fail)) rfl ?_
      rintro k h1
      obtain ⟨f1, f2⟩ := flowM_lay w' a' l k h1
      have hl := layM_len w' a' l k h1
      by_cases hlt : k < l.length
      · have hat := layM_at w' a' l l.length k hlt (Nat.le_refl _) hlt
        rw [List.take_of_length_le (Nat.le_refl _)] at hat
        obtain ⟨g1, g2⟩ := layM_mono w' a' l k hlt
        have g3 := layM_le w' a' l (k + 1) l.length hlt (Nat.le_refl _)
        rw [List.take_of_length_le (Nat.le_refl _), ← g2] at g3
        have hw1 := wd_le l[k]
        have hw2 : (cellsM l[k]).length = wd l[k] := rfl
        have hsn := flowM_snoc w' a' l k hlt
        have hst : (stepM w' (layM w' a' (l.take k)).2 l[k]).2 = (stepM w' (layM w' a' (l.take k)).2 l[k]).1 + wd l[k] := rfl
        simp only [cellStep, f1] at hsn
        generalize hfr : (stepM w' (layM w' a' (l.take k)).2 l[k]).1 = from_ at hat g1 hsn hst
        rw [hst] at g3
        generalize hS : (flowM w' a' (l.take k)).1 = S at f2 hsn ⊢
        generalize hE : (layM w' a' (l.take k)).2 = e at f1 f2 hl g1 hsn
        have hpl : (S ++ List.replicate (from_ - e) (32, 0)).length = S.length + (from_ - e) := by simp
        repeat' (first
        | (refine al_en rfl (ao_store_row (z := zc) 0 rfl el_cell rfl (by first | (refine og rfl ?_; (first | assumption | (refine gd ?_ ?_ <;> assumption) | (refine gd rfl ?_; assumption) | (apply gl; assumption) | (refine gd (by apply gl; assumption) ?_; assumption) | (simp_all; done))) | exact odl rfl (by with_reducible rfl) | exact od rfl) (by simp; omega) (by first | (refine og rfl ?_; (first | assumption | (refine gd ?_ ?_ <;> assumption) | (refine gd rfl ?_; assumption) | (apply gl; assumption) | (refine gd (by apply gl; assumption) ?_; assumption) | (simp_all; done))) | exact odl rfl (by with_reducible rfl) | exact od rfl) ca_agg) rfl (fun _ _ h => h.elim) ?_; rintro _ _ rfl)
        | refine aw_seq ?_
          | refine aw_region0 ?_
          | refine al_nil ?_
          | refine th_n ?_
          | refine th_e ?_
          | refine th_r ?_
          | refine ib_n ?_
          | refine ib_e rfl ?_
          | refine ib_e' rfl ?_
          | refine ib_r ?_
          | refine aw_block ?_
          | refine aw_exit ?_
          | refine aw_ret ?_
          | refine aw_skip ?_
          | refine aw_region1 (by kernel_rfl) (by kernel_rfl) ?_
          | (refine aw_cond rfl ?_ ?_ <;> intro hb <;> (try simp only [decide_eq_true_eq, decide_eq_false_iff_not, Bool.and_eq_true, Bool.or_eq_true, Bool.not_eq_true', Bool.and_eq_false_iff, Bool.or_eq_false_iff, Bool.not_eq_false'] at hb) <;> (first | (exfalso; omega) | skip))
        | (refine al_es rfl (ao_box rfl (by first | exact od rfl | exact og rfl (by assumption)) (by first | exact ca_agg | exact ca_v rfl | exact ca_sl)) rfl rfl (fun _ _ h => h.elim) ?_; rintro _ _ ⟨bb, rfl, rfl⟩)
        | (refine al_es rfl (ao_empty rfl un_ el_) rfl rfl (fun _ _ h => h.elim) ?_; rintro _ _ ⟨u, rfl, rfl⟩)
        | (refine al_es rfl (ao_append 0 rfl un_ el_ (by first | (refine og rfl ?_; (first | assumption | (refine gd ?_ ?_ <;> assumption) | (refine gd rfl ?_; assumption) | (apply gl; assumption) | (refine gd (by apply gl; assumption) ?_; assumption) | (simp_all; done))) | exact od rfl) rfl (by first | (refine og rfl ?_; (first | assumption | (refine gd ?_ ?_ <;> assumption) | (refine gd rfl ?_; assumption) | (apply gl; assumption) | (refine gd (by apply gl; assumption) ?_; assumption) | (simp_all; done))) | exact od rfl) (by (try simp only [List.length_append, List.length_nil, List.length_cons, List.nil_append, List.length_replicate]); omega) (by (try simp only [List.length_append, List.length_nil, List.length_cons, List.nil_append, List.length_replicate]); simp only [maxLen]; omega)) rfl rfl (fun _ _ h => h.elim) ?_; rintro _ _ ⟨u, rfl, rfl⟩)
        | (apply al_y
           case hy =>
            first
            | apply qy_plain rfl
            | apply qy_run rfl rfl (guard_b rfl) rfl
            | exact qy_skip rfl rfl (guard_b rfl) rfl
            | (apply qy_gv rfl rfl (by first | exact guard_b rfl | exact guard_gv rfl); intro hk; have hk2 := hk; (try simp only [Bool.true_and, Bool.and_eq_true, Bool.or_eq_true, beq_iff_eq, decide_eq_true_eq, decide_eq_false_iff_not, Bool.not_eq_true', Bool.not_eq_false', Bool.and_eq_false_iff, Bool.or_eq_false_iff] at hk2))
            first
            | exact ay_len_row 0 rfl rfl un_ (by first | (refine og rfl ?_; (first | assumption | (refine gd ?_ ?_ <;> assumption) | (refine gd rfl ?_; assumption) | (apply gl; assumption) | (refine gd (by apply gl; assumption) ?_; assumption) | (simp_all; done))) | exact od rfl) rfl | exact bs_cell0 rfl un_ (by first | (refine og rfl ?_; (first | assumption | (refine gd ?_ ?_ <;> assumption) | (refine gd rfl ?_; assumption) | (apply gl; assumption) | (refine gd (by apply gl; assumption) ?_; assumption) | (simp_all; done))) | exact od rfl)
            | ((first | apply ay_move rfl | apply ay_assign rfl | apply ay_not rfl | apply ay_lss rfl | apply ay_leq rfl | apply ay_gtr rfl | apply ay_geq rfl | apply k_eql rfl | apply k_neq rfl | apply ay_and rfl | apply ay_or rfl | apply ay_call rfl | apply k_len rfl | apply k_ix rfl | apply k_ld rfl | apply k_fa rfl | apply k_fd rfl | apply ay_build rfl st_ | apply ay_extract rfl | apply ay_slice rfl un_ el_ | apply bs_cell1 rfl un_ | apply bs_cell2 rfl un_ | apply kn_add rfl | apply kn_sub rfl | apply kn_mul rfl | apply kn_quo rfl | apply kn_rem rfl)
             <;> (repeat' (
              first
              | ((first | refine og rfl ?_ | refine ogn rfl ?_); (first | assumption | (refine gd ?_ ?_ <;> assumption) | (refine gd rfl ?_; assumption) | (apply gl; assumption) | (refine gd (by apply gl; assumption) ?_; assumption) | (simp_all; done))) | exact odln rfl (by with_reducible rfl) | exact odn rfl | exact od rfl
              | exact c1 | exact f_ref02Cells _
              | exact un_ | exact el_ | exact agg_ | exact sz_ | exact sp_ | exact fl_ | exact st_
              | exact nk_sl un_ | exact nk_row 0 un_ rfl | exact ik_sl un_ el_ (by first | exact hat | exact hzc | exact List.getElem?_eq_getElem (by first | omega | (simp; omega)) | exact get_in (by first | omega | (simp; omega)) | fail) | exact lk_el el_ | exact lk_1 agg_ | exact ak_ip fl_ sp_ | exact dk_1 fl_ agg_ rfl
              | exact lk_v1 0 agg_ rfl rfl | exact lk_v1 1 agg_ rfl rfl | exact lk_vn 0 agg_ sz_ rfl rfl | exact ak_var fl_ sp_
              | exact ik_row 0 un_ el_ rfl (by simp; omega)
              | exact ek_int | exact ek_bool un_ | exact ek_cell
              | exact fit64 (by omega) (by omega) | exact fit32 (by omega) (by omega) | exact fit8 (by omega) (by omega)
              | exact pa_nil | apply pk | exact ca_agg | exact ca_v rfl | exact ca_sl | exact sc_0 | apply SetC.here | apply SetC.next
              | exact opds0 | apply opds1 | exact lo_none | apply lo_k | exact hi_none | apply hi_k
              | exact rfl | omega | intro hp)); done)
            | ((first | apply ay_add rfl | apply ay_sub rfl | apply ay_mul rfl | apply ay_quo rfl | apply ay_rem rfl)
             <;> first | exact (by first | (refine og rfl ?_; (first | assumption | (refine gd ?_ ?_ <;> assumption) | (refine gd rfl ?_; assumption) | (apply gl; assumption) | (refine gd (by apply gl; assumption) ?_; assumption) | (simp_all; done))) | exact od rfl) | omega | exact (by first | exact fit64 (by omega) (by omega) | exact fit32 (by omega) (by omega) | exact fit8 (by omega) (by omega)))
           case hx => rfl
           case hd => rfl)
        | (refine al_last (by kernel_rfl) ?_)
        | (apply al_freezeF 0 rfl
           case hz => repeat' (first | exact fzf_nil | apply fzf_cons | exact fz_here | apply fz_agg | apply fz_tup | exact fz_keep | exact fzl_nil | apply fzl_cons | fail))
        | fail)
        have hrow : S ++ List.replicate (j - S.length) ((32, 0) : Cell) = S ++ List.replicate (from_ - e) (32, 0) ++ (cellsM l[k]).take 0 ++ List.replicate (j - S.length - (from_ - e) - 0) (32, 0) := by
          rw [List.take_zero, List.append_nil, List.append_assoc, List.replicate_append_replicate]
          congr 2; omega
        refine aw_for (fun (i : Nat) => [(1, I (a' : Nat)), (2, slA i32T l), (8, slA i64T (layM w' a' l).1), (11, vA u), (13, I k), (14, slA cellT (cellsM l[k])), (15, I i)])
          (fun i => [rowO cellT 29 u (S ++ List.replicate (from_ - e) (32, 0) ++ (cellsM l[k]).take i ++ List.replicate (j - S.length - (from_ - e) - i) (32, 0))]) (fun i => i ≤ (cellsM l[k]).length) (fun i => (cellsM l[k]).length - i) 0 (Nat.zero_le _) (by repeat' (first | exact weak_nil | refine weak_cons rfl ?_ | fail)) (by rw [hrow]) ?_
        rintro i i2
        by_cases hi : i < (cellsM l[k]).length
        · obtain ⟨zc, hzc⟩ : ∃ z, (cellsM l[k])[i]? = some z := ⟨_, List.getElem?_eq_getElem hi⟩
          have hset := set_mid (S ++ List.replicate (from_ - e) (32, 0)) (cellsM l[k]) i (j - S.length - (from_ - e) - i) (32, 0) zc hzc (by omega) (from_ - a' + i) (by omega)
          repeat' (first
          | (refine al_en rfl (ao_store_row (z := zc) 0 rfl el_cell rfl (by first | (refine og rfl ?_; (first | assumption | (refine gd ?_ ?_ <;> assumption) | (refine gd rfl ?_; assumption) | (apply gl; assumption) | (refine gd (by apply gl; assumption) ?_; assumption) | (simp_all; done))) | exact odl rfl (by with_reducible rfl) | exact od rfl) (by simp; omega) (by first | (refine og rfl ?_; (first | assumption | (refine gd ?_ ?_ <;> assumption) | (refine gd rfl ?_; assumption) | (apply gl; assumption) | (refine gd (by apply gl; assumption) ?_; assumption) | (simp_all; done))) | exact odl rfl (by with_reducible rfl) | exact od rfl) ca_agg) rfl (fun _ _ h => h.elim) ?_; rintro _ _ rfl)
          | refine aw_seq ?_
            | refine aw_region0 ?_
            | refine al_nil ?_
            | refine th_n ?_
            | refine th_e ?_
            | refine th_r ?_
            | refine ib_n ?_
            | refine ib_e rfl ?_
            | refine ib_e' rfl ?_
            | refine ib_r ?_
            | refine aw_block ?_
            | refine aw_exit ?_
            | refine aw_ret ?_
            | refine aw_skip ?_
            | refine aw_region1 (by kernel_rfl) (by kernel_rfl) ?_
            | (refine aw_cond rfl ?_ ?_ <;> intro hb <;> (try simp only [decide_eq_true_eq, decide_eq_false_iff_not, Bool.and_eq_true, Bool.or_eq_true, Bool.not_eq_true', Bool.and_eq_false_iff, Bool.or_eq_false_iff, Bool.not_eq_false'] at hb) <;> (first | (exfalso; omega) | skip))
          | (refine al_es rfl (ao_box rfl (by first | exact od rfl | exact og rfl (by assumption)) (by first | exact ca_agg | exact ca_v rfl | exact ca_sl)) rfl rfl (fun _ _ h => h.elim) ?_; rintro _ _ ⟨bb, rfl, rfl⟩)
          | (refine al_es rfl (ao_empty rfl un_ el_) rfl rfl (fun _ _ h => h.elim) ?_; rintro _ _ ⟨u, rfl, rfl⟩)
          | (refine al_es rfl (ao_append 0 rfl un_ el_ (by first | (refine og rfl ?_; (first | assumption | (refine gd ?_ ?_ <;> assumption) | (refine gd rfl ?_; assumption) | (apply gl; assumption) | (refine gd (by apply gl; assumption) ?_; assumption) | (simp_all; done))) | exact od rfl) rfl (by first | (refine og rfl ?_; (first | assumption | (refine gd ?_ ?_ <;> assumption) | (refine gd rfl ?_; assumption) | (apply gl; assumption) | (refine gd (by apply gl; assumption) ?_; assumption) | (simp_all; done))) | exact od rfl) (by (try simp only [List.length_append, List.length_nil, List.length_cons, List.nil_append, List.length_replicate]); omega) (by (try simp only [List.length_append, List.length_nil, List.length_cons, List.nil_append, List.length_replicate]); simp only [maxLen]; omega)) rfl rfl (fun _ _ h => h.elim) ?_; rintro _ _ ⟨u, rfl, rfl⟩)
          | (apply al_y
             case hy =>
              first
              | apply qy_plain rfl
              | apply qy_run rfl rfl (guard_b rfl) rfl
              | exact qy_skip rfl rfl (guard_b rfl) rfl
              | (apply qy_gv rfl rfl (by first | exact guard_b rfl | exact guard_gv rfl); intro hk; have hk2 := hk; (try simp only [Bool.true_and, Bool.and_eq_true, Bool.or_eq_true, beq_iff_eq, decide_eq_true_eq, decide_eq_false_iff_not, Bool.not_eq_true', Bool.not_eq_false', Bool.and_eq_false_iff, Bool.or_eq_false_iff] at hk2))
              first
              | exact ay_len_row 0 rfl rfl un_ (by first | (refine og rfl ?_; (first | assumption | (refine gd ?_ ?_ <;> assumption) | (refine gd rfl ?_; assumption) | (apply gl; assumption) | (refine gd (by apply gl; assumption) ?_; assumption) | (simp_all; done))) | exact od rfl) rfl | exact bs_cell0 rfl un_ (by first | (refine og rfl ?_; (first | assumption | (refine gd ?_ ?_ <;> assumption) | (refine gd rfl ?_; assumption) | (apply gl; assumption) | (refine gd (by apply gl; assumption) ?_; assumption) | (simp_all; done))) | exact od rfl)
              | ((first | apply ay_move rfl | apply ay_assign rfl | apply ay_not rfl | apply ay_lss rfl | apply ay_leq rfl | apply ay_gtr rfl | apply ay_geq rfl | apply k_eql rfl | apply k_neq rfl | apply ay_and rfl | apply ay_or rfl | apply ay_call rfl | apply k_len rfl | apply k_ix rfl | apply k_ld rfl | apply k_fa rfl | apply k_fd rfl | apply ay_build rfl st_ | apply ay_extract rfl | apply ay_slice rfl un_ el_ | apply bs_cell1 rfl un_ | apply bs_cell2 rfl un_ | apply kn_add rfl | apply kn_sub rfl | apply kn_mul rfl | apply kn_quo rfl | apply kn_rem rfl)
               <;> (repeat' (
                first
                | ((first | refine og rfl ?_ | refine ogn rfl ?_); (first | assumption | (refine gd ?_ ?_ <;> assumption) | (refine gd rfl ?_; assumption) | (apply gl; assumption) | (refine gd (by apply gl; assumption) ?_; assumption) | (simp_all; done))) | exact odln rfl (by with_reducible rfl) | exact odn rfl | exact od rfl
                | exact c1 | exact f_ref02Cells _
                | exact un_ | exact el_ | exact agg_ | exact sz_ | exact sp_ | exact fl_ | exact st_
                | exact nk_sl un_ | exact nk_row 0 un_ rfl | exact ik_sl un_ el_ (by first | exact hat | exact hzc | exact List.getElem?_eq_getElem (by first | omega | (simp; omega)) | exact get_in (by first | omega | (simp; omega)) | fail) | exact lk_el el_ | exact lk_1 agg_ | exact ak_ip fl_ sp_ | exact dk_1 fl_ agg_ rfl
                | exact lk_v1 0 agg_ rfl rfl | exact lk_v1 1 agg_ rfl rfl | exact lk_vn 0 agg_ sz_ rfl rfl | exact ak_var fl_ sp_
                | exact ik_row 0 un_ el_ rfl (by simp; omega)
                | exact ek_int | exact ek_bool un_ | exact ek_cell
                | exact fit64 (by omega) (by omega) | exact fit32 (by omega) (by omega) | exact fit8 (by omega) (by omega)
                | exact pa_nil | apply pk | exact ca_agg | exact ca_v rfl | exact ca_sl | exact sc_0 | apply SetC.here | apply SetC.next
                | exact opds0 | apply opds1 | exact lo_none | apply lo_k | exact hi_none | apply hi_k
                | exact rfl | omega | intro hp)); done)
              | ((first | apply ay_add rfl | apply ay_sub rfl | apply ay_mul rfl | apply ay_quo rfl | apply ay_rem rfl)
               <;> first | exact (by first | (refine og rfl ?_; (first | assumption | (refine gd ?_ ?_ <;> assumption) | (refine gd rfl ?_; assumption) | (apply gl; assumption) | (refine gd (by apply gl; assumption) ?_; assumption) | (simp_all; done))) | exact od rfl) | omega | exact (by first | exact fit64 (by omega) (by omega) | exact fit32 (by omega) (by omega) | exact fit8 (by omega) (by omega)))
             case hx => rfl
             case hd => rfl)
          | (refine al_last (by kernel_rfl) ?_)
          | (apply al_freezeF 0 rfl
             case hz => repeat' (first | exact fzf_nil | apply fzf_cons | exact fz_here | apply fz_agg | apply fz_tup | exact fz_keep | exact fzl_nil | apply fzl_cons | fail))
          | fail)
          refine ⟨i + 1, by omega, by omega, (by repeat' (first | exact weak_nil | refine weak_cons rfl ?_ | fail)), ?_⟩
          rw [← Nat.sub_sub, ← hset]; rfl
        · repeat' (first
          | (refine al_en rfl (ao_store_row (z := zc) 0 rfl el_cell rfl (by first | (refine og rfl ?_; (first | assumption | (refine gd ?_ ?_ <;> assumption) | (refine gd rfl ?_; assumption) | (apply gl; assumption) | (refine gd (by apply gl; assumption) ?_; assumption) | (simp_all; done))) | exact odl rfl (by with_reducible rfl) | exact od rfl) (by simp; omega) (by first | (refine og rfl ?_; (first | assumption | (refine gd ?_ ?_ <;> assumption) | (refine gd rfl ?_; assumption) | (apply gl; assumption) | (refine gd (by apply gl; assumption) ?_; assumption) | (simp_all; done))) | exact odl rfl (by with_reducible rfl) | exact od rfl) ca_agg) rfl (fun _ _ h => h.elim) ?_; rintro _ _ rfl)
          | refine aw_seq ?_
            | refine aw_region0 ?_
            | refine al_nil ?_
            | refine th_n ?_
            | refine th_e ?_
            | refine th_r ?_
            | refine ib_n ?_
            | refine ib_e rfl ?_
            | refine ib_e' rfl ?_
            | refine ib_r ?_
            | refine aw_block ?_
            | refine aw_exit ?_
            | refine aw_ret ?_
            | refine aw_skip ?_
            | refine aw_region1 (by kernel_rfl) (by kernel_rfl) ?_
            | (refine aw_cond rfl ?_ ?_ <;> intro hb <;> (try simp only [decide_eq_true_eq, decide_eq_false_iff_not, Bool.and_eq_true, Bool.or_eq_true, Bool.not_eq_true', Bool.and_eq_false_iff, Bool.or_eq_false_iff, Bool.not_eq_false'] at hb) <;> (first | (exfalso; omega) | skip))
          | (refine al_es rfl (ao_box rfl (by first | exact od rfl | exact og rfl (by assumption)) (by first | exact ca_agg | exact ca_v rfl | exact ca_sl)) rfl rfl (fun _ _ h => h.elim) ?_; rintro _ _ ⟨bb, rfl, rfl⟩)
          | (refine al_es rfl (ao_empty rfl un_ el_) rfl rfl (fun _ _ h => h.elim) ?_; rintro _ _ ⟨u, rfl, rfl⟩)
          | (refine al_es rfl (ao_append 0 rfl un_ el_ (by first | (refine og rfl ?_; (first | assumption | (refine gd ?_ ?_ <;> assumption) | (refine gd rfl ?_; assumption) | (apply gl; assumption) | (refine gd (by apply gl; assumption) ?_; assumption) | (simp_all; done))) | exact od rfl) rfl (by first | (refine og rfl ?_; (first | assumption | (refine gd ?_ ?_ <;> assumption) | (refine gd rfl ?_; assumption) | (apply gl; assumption) | (refine gd (by apply gl; assumption) ?_; assumption) | (simp_all; done))) | exact od rfl) (by (try simp only [List.length_append, List.length_nil, List.length_cons, List.nil_append, List.length_replicate]); omega) (by (try simp only [List.length_append, List.length_nil, List.length_cons, List.nil_append, List.length_replicate]); simp only [maxLen]; omega)) rfl rfl (fun _ _ h => h.elim) ?_; rintro _ _ ⟨u, rfl, rfl⟩)
          | (apply al_y
             case hy =>
              first
              | apply qy_plain rfl
              | apply qy_run rfl rfl (guard_b rfl) rfl
              | exact qy_skip rfl rfl (guard_b rfl) rfl
              | (apply qy_gv rfl rfl (by first | exact guard_b rfl | exact guard_gv rfl); intro hk; have hk2 := hk; (try simp only [Bool.true_and, Bool.and_eq_true, Bool.or_eq_true, beq_iff_eq, decide_eq_true_eq, decide_eq_false_iff_not, Bool.not_eq_true', Bool.not_eq_false', Bool.and_eq_false_iff, Bool.or_eq_false_iff] at hk2))
              first
              | exact ay_len_row 0 rfl rfl un_ (by first | (refine og rfl ?_; (first | assumption | (refine gd ?_ ?_ <;> assumption) | (refine gd rfl ?_; assumption) | (apply gl; assumption) | (refine gd (by apply gl; assumption) ?_; assumption) | (simp_all; done))) | exact od rfl) rfl | exact bs_cell0 rfl un_ (by first | (refine og rfl ?_; (first | assumption | (refine gd ?_ ?_ <;> assumption) | (refine gd rfl ?_; assumption) | (apply gl; assumption) | (refine gd (by apply gl; assumption) ?_; assumption) | (simp_all; done))) | exact od rfl)
              | ((first | apply ay_move rfl | apply ay_assign rfl | apply ay_not rfl | apply ay_lss rfl | apply ay_leq rfl | apply ay_gtr rfl | apply ay_geq rfl | apply k_eql rfl | apply k_neq rfl | apply ay_and rfl | apply ay_or rfl | apply ay_call rfl | apply k_len rfl | apply k_ix rfl | apply k_ld rfl | apply k_fa rfl | apply k_fd rfl | apply ay_build rfl st_ | apply ay_extract rfl | apply ay_slice rfl un_ el_ | apply bs_cell1 rfl un_ | apply bs_cell2 rfl un_ | apply kn_add rfl | apply kn_sub rfl | apply kn_mul rfl | apply kn_quo rfl | apply kn_rem rfl)
               <;> (repeat' (
                first
                | ((first | refine og rfl ?_ | refine ogn rfl ?_); (first | assumption | (refine gd ?_ ?_ <;> assumption) | (refine gd rfl ?_; assumption) | (apply gl; assumption) | (refine gd (by apply gl; assumption) ?_; assumption) | (simp_all; done))) | exact odln rfl (by with_reducible rfl) | exact odn rfl | exact od rfl
                | exact c1 | exact f_ref02Cells _
                | exact un_ | exact el_ | exact agg_ | exact sz_ | exact sp_ | exact fl_ | exact st_
                | exact nk_sl un_ | exact nk_row 0 un_ rfl | exact ik_sl un_ el_ (by first | exact hat | exact hzc | exact List.getElem?_eq_getElem (by first | omega | (simp; omega)) | exact get_in (by first | omega | (simp; omega)) | fail) | exact lk_el el_ | exact lk_1 agg_ | exact ak_ip fl_ sp_ | exact dk_1 fl_ agg_ rfl
                | exact lk_v1 0 agg_ rfl rfl | exact lk_v1 1 agg_ rfl rfl | exact lk_vn 0 agg_ sz_ rfl rfl | exact ak_var fl_ sp_
                | exact ik_row 0 un_ el_ rfl (by simp; omega)
                | exact ek_int | exact ek_bool un_ | exact ek_cell
                | exact fit64 (by omega) (by omega) | exact fit32 (by omega) (by omega) | exact fit8 (by omega) (by omega)
                | exact pa_nil | apply pk | exact ca_agg | exact ca_v rfl | exact ca_sl | exact sc_0 | apply SetC.here | apply SetC.next
                | exact opds0 | apply opds1 | exact lo_none | apply lo_k | exact hi_none | apply hi_k
                | exact rfl | omega | intro hp)); done)
              | ((first | apply ay_add rfl | apply ay_sub rfl | apply ay_mul rfl | apply ay_quo rfl | apply ay_rem rfl)
               <;> first | exact (by first | (refine og rfl ?_; (first | assumption | (refine gd ?_ ?_ <;> assumption) | (refine gd rfl ?_; assumption) | (apply gl; assumption) | (refine gd (by apply gl; assumption) ?_; assumption) | (simp_all; done))) | exact od rfl) | omega | exact (by first | exact fit64 (by omega) (by omega) | exact fit32 (by omega) (by omega) | exact fit8 (by omega) (by omega)))
             case hx => rfl
             case hd => rfl)
          | (refine al_last (by kernel_rfl) ?_)
          | (apply al_freezeF 0 rfl
             case hz => repeat' (first | exact fzf_nil | apply fzf_cons | exact fz_here | apply fz_agg | apply fz_tup | exact fz_keep | exact fzl_nil | apply fzl_cons | fail))
          | fail)
          have hi2 : (cellsM l[k]).take i = cellsM l[k] := List.take_of_length_le (by omega)
          refine ⟨k + 1, by omega, by omega, (by repeat' (first | exact weak_nil | refine weak_cons rfl ?_ | fail)), ?_⟩
          rw [hsn, hi2, List.length_append, hpl]
          have e1 : j - S.length - (from_ - e) - i = j - (S.length + (from_ - e) + (cellsM l[k]).length) := by omega
          rw [e1]
      · apply aw_freezeF 0 rfl
        case hz => repeat' (first | exact fzf_nil | apply fzf_cons | exact fz_here | exact fz_keep)
        repeat' (first
        | (refine al_en rfl (ao_store_row (z := zc) 0 rfl el_cell rfl (by first | (refine og rfl ?_; (first | assumption | (refine gd ?_ ?_ <;> assumption) | (refine gd rfl ?_; assumption) | (apply gl; assumption) | (refine gd (by apply gl; assumption) ?_; assumption) | (simp_all; done))) | exact odl rfl (by with_reducible rfl) | exact od rfl) (by simp; omega) (by first | (refine og rfl ?_; (first | assumption | (refine gd ?_ ?_ <;> assumption) | (refine gd rfl ?_; assumption) | (apply gl; assumption) | (refine gd (by apply gl; assumption) ?_; assumption) | (simp_all; done))) | exact odl rfl (by with_reducible rfl) | exact od rfl) ca_agg) rfl (fun _ _ h => h.elim) ?_; rintro _ _ rfl)
        | refine aw_seq ?_
          | refine aw_region0 ?_
          | refine al_nil ?_
          | refine th_n ?_
          | refine th_e ?_
          | refine th_r ?_
          | refine ib_n ?_
          | refine ib_e rfl ?_
          | refine ib_e' rfl ?_
          | refine ib_r ?_
          | refine aw_block ?_
          | refine aw_exit ?_
          | refine aw_ret ?_
          | refine aw_skip ?_
          | refine aw_region1 (by kernel_rfl) (by kernel_rfl) ?_
          | (refine aw_cond rfl ?_ ?_ <;> intro hb <;> (try simp only [decide_eq_true_eq, decide_eq_false_iff_not, Bool.and_eq_true, Bool.or_eq_true, Bool.not_eq_true', Bool.and_eq_false_iff, Bool.or_eq_false_iff, Bool.not_eq_false'] at hb) <;> (first | (exfalso; omega) | skip))
        | (refine al_es rfl (ao_box rfl (by first | exact od rfl | exact og rfl (by assumption)) (by first | exact ca_agg | exact ca_v rfl | exact ca_sl)) rfl rfl (fun _ _ h => h.elim) ?_; rintro _ _ ⟨bb, rfl, rfl⟩)
        | (refine al_es rfl (ao_empty rfl un_ el_) rfl rfl (fun _ _ h => h.elim) ?_; rintro _ _ ⟨u, rfl, rfl⟩)
        | (refine al_es rfl (ao_append 0 rfl un_ el_ (by first | (refine og rfl ?_; (first | assumption | (refine gd ?_ ?_ <;> assumption) | (refine gd rfl ?_; assumption) | (apply gl; assumption) | (refine gd (by apply gl; assumption) ?_; assumption) | (simp_all; done))) | exact od rfl) rfl (by first | (refine og rfl ?_; (first | assumption | (refine gd ?_ ?_ <;> assumption) | (refine gd rfl ?_; assumption) | (apply gl; assumption) | (refine gd (by apply gl; assumption) ?_; assumption) | (simp_all; done))) | exact od rfl) (by (try simp only [List.length_append, List.length_nil, List.length_cons, List.nil_append, List.length_replicate]); omega) (by (try simp only [List.length_append, List.length_nil, List.length_cons, List.nil_append, List.length_replicate]); simp only [maxLen]; omega)) rfl rfl (fun _ _ h => h.elim) ?_; rintro _ _ ⟨u, rfl, rfl⟩)
        | (apply al_y
           case hy =>
            first
            | apply qy_plain rfl
            | apply qy_run rfl rfl (guard_b rfl) rfl
            | exact qy_skip rfl rfl (guard_b rfl) rfl
            | (apply qy_gv rfl rfl (by first | exact guard_b rfl | exact guard_gv rfl); intro hk; have hk2 := hk; (try simp only [Bool.true_and, Bool.and_eq_true, Bool.or_eq_true, beq_iff_eq, decide_eq_true_eq, decide_eq_false_iff_not, Bool.not_eq_true', Bool.not_eq_false', Bool.and_eq_false_iff, Bool.or_eq_false_iff] at hk2))
            first
            | exact ay_len_row 0 rfl rfl un_ (by first | (refine og rfl ?_; (first | assumption | (refine gd ?_ ?_ <;> assumption) | (refine gd rfl ?_; assumption) | (apply gl; assumption) | (refine gd (by apply gl; assumption) ?_; assumption) | (simp_all; done))) | exact od rfl) rfl | exact bs_cell0 rfl un_ (by first | (refine og rfl ?_; (first | assumption | (refine gd ?_ ?_ <;> assumption) | (refine gd rfl ?_; assumption) | (apply gl; assumption) | (refine gd (by apply gl; assumption) ?_; assumption) | (simp_all; done))) | exact od rfl)
            | ((first | apply ay_move rfl | apply ay_assign rfl | apply ay_not rfl | apply ay_lss rfl | apply ay_leq rfl | apply ay_gtr rfl | apply ay_geq rfl | apply k_eql rfl | apply k_neq rfl | apply ay_and rfl | apply ay_or rfl | apply ay_call rfl | apply k_len rfl | apply k_ix rfl | apply k_ld rfl | apply k_fa rfl | apply k_fd rfl | apply ay_build rfl st_ | apply ay_extract rfl | apply ay_slice rfl un_ el_ | apply bs_cell1 rfl un_ | apply bs_cell2 rfl un_ | apply kn_add rfl | apply kn_sub rfl | apply kn_mul rfl | apply kn_quo rfl | apply kn_rem rfl)
             <;> (repeat' (
              first
              | ((first | refine og rfl ?_ | refine ogn rfl ?_); (first | assumption | (refine gd ?_ ?_ <;> assumption) | (refine gd rfl ?_; assumption) | (apply gl; assumption) | (refine gd (by apply gl; assumption) ?_; assumption) | (simp_all; done))) | exact odln rfl (by with_reducible rfl) | exact odn rfl | exact od rfl
              | exact c1 | exact f_ref02Cells _
              | exact un_ | exact el_ | exact agg_ | exact sz_ | exact sp_ | exact fl_ | exact st_
              | exact nk_sl un_ | exact nk_row 0 un_ rfl | exact ik_sl un_ el_ (by first | exact hat | exact hzc | exact List.getElem?_eq_getElem (by first | omega | (simp; omega)) | exact get_in (by first | omega | (simp; omega)) | fail) | exact lk_el el_ | exact lk_1 agg_ | exact ak_ip fl_ sp_ | exact dk_1 fl_ agg_ rfl
              | exact lk_v1 0 agg_ rfl rfl | exact lk_v1 1 agg_ rfl rfl | exact lk_vn 0 agg_ sz_ rfl rfl | exact ak_var fl_ sp_
              | exact ik_row 0 un_ el_ rfl (by simp; omega)
              | exact ek_int | exact ek_bool un_ | exact ek_cell
              | exact fit64 (by omega) (by omega) | exact fit32 (by omega) (by omega) | exact fit8 (by omega) (by omega)
              | exact pa_nil | apply pk | exact ca_agg | exact ca_v rfl | exact ca_sl | exact sc_0 | apply SetC.here | apply SetC.next
              | exact opds0 | apply opds1 | exact lo_none | apply lo_k | exact hi_none | apply hi_k
              | exact rfl | omega | intro hp)); done)
            | ((first | apply ay_add rfl | apply ay_sub rfl | apply ay_mul rfl | apply ay_quo rfl | apply ay_rem rfl)
             <;> first | exact (by first | (refine og rfl ?_; (first | assumption | (refine gd ?_ ?_ <;> assumption) | (refine gd rfl ?_; assumption) | (apply gl; assumption) | (refine gd (by apply gl; assumption) ?_; assumption) | (simp_all; done))) | exact od rfl) | omega | exact (by first | exact fit64 (by omega) (by omega) | exact fit32 (by omega) (by omega) | exact fit8 (by omega) (by omega)))
           case hx => rfl
           case hd => rfl)
        | (refine al_last (by kernel_rfl) ?_)
        | (apply al_freezeF 0 rfl
           case hz => repeat' (first | exact fzf_nil | apply fzf_cons | exact fz_here | apply fz_agg | apply fz_tup | exact fz_keep | exact fzl_nil | apply fzl_cons | fail))
        | fail)
        refine ⟨_, [], (by first | exact res1 rfl rfl | exact res2 rfl rfl rfl | exact res3 rfl rfl rfl rfl | exact res0 rfl | fail), List.nil_sublist _, Sub.eq ?_, rfl⟩
        have hk : l.take k = l := List.take_of_length_le (by omega)
        rw [hk]
        have hj2 : j - (flowM w' a' l).1.length = 0 := by omega
        rw [hj2]
        simp only [cells2, cellsR, if_pos he, Int.toNat_natCast, List.replicate_zero, List.append_nil]
  · have c1 : AP Tryd.prog tab0 32 [I w, I a, slA i32T l] (tupA [slA i64T (layR w a l).1, I (layR w a l).2.1, I (layR w a l).2.2]) := f_ref04Lay w a l
    refine af_intro Tryd.func35 rfl (by decide) Tryd.ntmps35 rfl ?_
    repeat' (first
    | (refine al_en rfl (ao_store_row (z := zc) 0 rfl el_cell rfl (by first | (refine og rfl ?_; (first | assumption | (refine gd ?_ ?_ <;> assumption) | (refine gd rfl ?_; assumption) | (apply gl; assumption) | (refine gd (by apply gl; assumption) ?_; assumption) | (simp_all; done))) | exact odl rfl (by with_reducible rfl) | exact od rfl) (by simp; omega) (by first | (refine og rfl ?_; (first | assumption | (refine gd ?_ ?_ <;> assumption) | (refine gd rfl ?_; assumption) | (apply gl; assumption) | (refine gd (by apply gl; assumption) ?_; assumption) | (simp_all; done))) | exact odl rfl (by with_reducible rfl) | exact od rfl) ca_agg) rfl (fun _ _ h => h.elim) ?_; rintro _ _ rfl)
    | refine aw_seq ?_
      | refine aw_region0 ?_
      | refine al_nil ?_
      | refine th_n ?_
      | refine th_e ?_
      | refine th_r ?_
      | refine ib_n ?_
      | refine ib_e rfl ?_
      | refine ib_e' rfl ?_
      | refine ib_r ?_
      | refine aw_block ?_
      | refine aw_exit ?_
      | refine aw_ret ?_
      | refine aw_skip ?_
      | refine aw_region1 (by kernel_rfl) (by kernel_rfl) ?_
      | (refine aw_cond rfl ?_ ?_ <;> intro hb <;> (try simp only [decide_eq_true_eq, decide_eq_false_iff_not, Bool.and_eq_true, Bool.or_eq_true, Bool.not_eq_true', Bool.and_eq_false_iff, Bool.or_eq_false_iff, Bool.not_eq_false'] at hb) <;> (first | (exfalso; omega) | skip))
    | (refine al_es rfl (ao_box rfl (by first | exact od rfl | exact og rfl (by assumption)) (by first | exact ca_agg | exact ca_v rfl | exact ca_sl)) rfl rfl (fun _ _ h => h.elim) ?_; rintro _ _ ⟨bb, rfl, rfl⟩)
    | (refine al_es rfl (ao_empty rfl un_ el_) rfl rfl (fun _ _ h => h.elim) ?_; rintro _ _ ⟨u, rfl, rfl⟩)
    | (refine al_es rfl (ao_append 0 rfl un_ el_ (by first | (refine og rfl ?_; (first | assumption | (refine gd ?_ ?_ <;> assumption) | (refine gd rfl ?_; assumption) | (apply gl; assumption) | (refine gd (by apply gl; assumption) ?_; assumption) | (simp_all; done))) | exact od rfl) rfl (by first | (refine og rfl ?_; (first | assumption | (refine gd ?_ ?_ <;> assumption) | (refine gd rfl ?_; assumption) | (apply gl; assumption) | (refine gd (by apply gl; assumption) ?_; assumption) | (simp_all; done))) | exact od rfl) (by (try simp only [List.length_append, List.length_nil, List.length_cons, List.nil_append, List.length_replicate]); omega) (by (try simp only [List.length_append, List.length_nil, List.length_cons, List.nil_append, List.length_replicate]); simp only [maxLen]; omega)) rfl rfl (fun _ _ h => h.elim) ?_; rintro _ _ ⟨u, rfl, rfl⟩)
    | (apply al_y
       case hy =>
        first
        | apply qy_plain rfl
        | apply qy_run rfl rfl (guard_b rfl) rfl
        | exact qy_skip rfl rfl (guard_b rfl) rfl
        | (apply qy_gv rfl rfl (by first | exact guard_b rfl | exact guard_gv rfl); intro hk; have hk2 := hk; (try simp only [Bool.true_and, Bool.and_eq_true, Bool.or_eq_true, beq_iff_eq, decide_eq_true_eq, decide_eq_false_iff_not, Bool.not_eq_true', Bool.not_eq_false', Bool.and_eq_false_iff, Bool.or_eq_false_iff] at hk2))
        first
        | exact ay_len_row 0 rfl rfl un_ (by first | (refine og rfl ?_; (first | assumption | (refine gd ?_ ?_ <;> assumption) | (refine gd rfl ?_; assumption) | (apply gl; assumption) | (refine gd (by apply gl; assumption) ?_; assumption) | (simp_all; done))) | exact od rfl) rfl | exact bs_cell0 rfl un_ (by first | (refine og rfl ?_; (first | assumption | (refine gd ?_ ?_ <;> assumption) | (refine gd rfl ?_; assumption) | (apply gl; assumption) | (refine gd (by apply gl; assumption) ?_; assumption) | (simp_all; done))) | exact od rfl)
        | ((first | apply ay_move rfl | apply ay_assign rfl | apply ay_not rfl | apply ay_lss rfl | apply ay_leq rfl | apply ay_gtr rfl | apply ay_geq rfl | apply k_eql rfl | apply k_neq rfl | apply ay_and rfl | apply ay_or rfl | apply ay_call rfl | apply k_len rfl | apply k_ix rfl | apply k_ld rfl | apply k_fa rfl | apply k_fd rfl | apply ay_build rfl st_ | apply ay_extract rfl | apply ay_slice rfl un_ el_ | apply bs_cell1 rfl un_ | apply bs_cell2 rfl un_ | apply kn_add rfl | apply kn_sub rfl | apply kn_mul rfl | apply kn_quo rfl | apply kn_rem rfl)
         <;> (repeat' (
          first
          | ((first | refine og rfl ?_ | refine ogn rfl ?_); (first | assumption | (refine gd ?_ ?_ <;> assumption) | (refine gd rfl ?_; assumption) | (apply gl; assumption) | (refine gd (by apply gl; assumption) ?_; assumption) | (simp_all; done))) | exact odln rfl (by with_reducible rfl) | exact odn rfl | exact od rfl
          | exact c1 | exact f_ref02Cells _
          | exact un_ | exact el_ | exact agg_ | exact sz_ | exact sp_ | exact fl_ | exact st_
          | exact nk_sl un_ | exact nk_row 0 un_ rfl | exact ik_sl un_ el_ (by first | exact hat | exact hzc | exact List.getElem?_eq_getElem (by first | omega | (simp; omega)) | exact get_in (by first | omega | (simp; omega)) | fail) | exact lk_el el_ | exact lk_1 agg_ | exact ak_ip fl_ sp_ | exact dk_1 fl_ agg_ rfl
          | exact lk_v1 0 agg_ rfl rfl | exact lk_v1 1 agg_ rfl rfl | exact lk_vn 0 agg_ sz_ rfl rfl | exact ak_var fl_ sp_
          | exact ik_row 0 un_ el_ rfl (by simp; omega)
          | exact ek_int | exact ek_bool un_ | exact ek_cell
          | exact fit64 (by omega) (by omega) | exact fit32 (by omega) (by omega) | exact fit8 (by omega) (by omega)
          | exact pa_nil | apply pk | exact ca_agg | exact ca_v rfl | exact ca_sl | exact sc_0 | apply SetC.here | apply SetC.next
          | exact opds0 | apply opds1 | exact lo_none | apply lo_k | exact hi_none | apply hi_k
          | exact rfl | omega | intro hp)); done)
        | ((first | apply ay_add rfl | apply ay_sub rfl | apply ay_mul rfl | apply ay_quo rfl | apply ay_rem rfl)
         <;> first | exact (by first | (refine og rfl ?_; (first | assumption | (refine gd ?_ ?_ <;> assumption) | (refine gd rfl ?_; assumption) | (apply gl; assumption) | (refine gd (by apply gl; assumption) ?_; assumption) | (simp_all; done))) | exact od rfl) | omega | exact (by first | exact fit64 (by omega) (by omega) | exact fit32 (by omega) (by omega) | exact fit8 (by omega) (by omega)))
       case hx => rfl
       case hd => rfl)
    | (refine al_last (by kernel_rfl) ?_)
    | (apply al_freezeF 0 rfl
       case hz => repeat' (first | exact fzf_nil | apply fzf_cons | exact fz_here | apply fz_agg | apply fz_tup | exact fz_keep | exact fzl_nil | apply fzl_cons | fail))
    | fail)
    · refine ⟨_, [], (by first | exact res1 rfl rfl | exact res2 rfl rfl rfl | exact res3 rfl rfl rfl rfl | exact res0 rfl | fail), List.nil_sublist _, ?_, rfl⟩
      simp only [cells2, cellsR, if_neg he]
      exact sub_tup (subl1 sub_nil (subl1 (Sub.refl _) subl0))
    all_goals exact absurd hb he
end Go.Proofs.YtdnoealpchehlaaDoor
