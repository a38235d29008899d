/- Layer 4 (flow): the reference's places. No condition. -/
import Derived.Test.YtdnoealpchehlaaDoorF7
namespace Go.Proofs.YtdnoealpchehlaaDoor
set_option linter.unusedSimpArgs false
set_option linter.unusedVariables false
open Go Go.RowKit
attribute [local irreducible] AW AL AO QY Opd OpdN vA gvA tupA aggA slA slcA ipA rpA EqK LnK IxK LdK FaK FdK
set_option maxRecDepth 100000

theorem f_ref04Lay (w a : Int) (l : List Int) : AP Tryd.prog tab0 32 [I w, I a, slA i32T l] (lay3 (layR w a l)) := by
  rcases chk_cases w a with h0 | ⟨w', a', rfl, rfl, hw1, hw2, ha1, h0⟩
  · have c1 : AP Tryd.prog tab0 29 [I w, I a, R 32] (tupA [I 0, I 0, I (chk w a)]) := (f_ref04Next w a 32).to (by simp only [next3, nextM, if_neg h0])
    refine af_intro Tryd.func32 rfl (by decide) Tryd.ntmps32 rfl ?_
    have hw : True := trivial
    have ha : True := trivial
    repeat' (first
    | fail
    | refine aw_seq ?_
      | refine aw_region0 ?_
      | refine al_nil ?_
      | refine th_n ?_
      | refine th_e ?_
      | refine th_r ?_
      | refine ib_n ?_
      | refine ib_e rfl ?_
      | refine ib_e' rfl ?_
      | refine ib_r ?_
      | refine aw_block ?_
      | refine aw_exit ?_
      | refine aw_ret ?_
      | refine aw_skip ?_
      | refine aw_region1 (by kernel_rfl) (by kernel_rfl) ?_
      | (refine aw_cond rfl ?_ ?_ <;> intro hb <;> (try simp only [decide_eq_true_eq, decide_eq_false_iff_not, Bool.and_eq_true, Bool.or_eq_true, Bool.not_eq_true', Bool.and_eq_false_iff, Bool.or_eq_false_iff, Bool.not_eq_false'] at hb) <;> (first | (exfalso; omega) | skip))
    | (refine al_es rfl (ao_box rfl (by first | exact od rfl | exact og rfl (by assumption)) (by first | exact ca_agg | exact ca_v rfl | exact ca_sl)) rfl rfl (fun _ _ h => h.elim) ?_; rintro _ _ ⟨bb, rfl, rfl⟩)
    | (refine al_es rfl (ao_empty rfl un_ el_) rfl rfl (fun _ _ h => h.elim) ?_; rintro _ _ ⟨u, rfl, rfl⟩)
    | (refine al_es rfl (ao_append 0 rfl un_ el_ (by first | (refine og rfl ?_; (first | assumption | (refine gd ?_ ?_ <;> assumption) | (refine gd rfl ?_; assumption) | (apply gl; assumption) | (refine gd (by apply gl; assumption) ?_; assumption) | (simp_all; done))) | exact od rfl) rfl (by first | (refine og rfl ?_; (first | assumption | (refine gd ?_ ?_ <;> assumption) | (refine gd rfl ?_; assumption) | (apply gl; assumption) | (refine gd (by apply gl; assumption) ?_; assumption) | (simp_all; done))) | exact od rfl) (by (try simp only [List.length_append, List.length_nil, List.length_cons, List.nil_append]); omega) (by (try simp only [List.length_append, List.length_nil, List.length_cons, List.nil_append]); simp only [maxLen]; omega)) rfl rfl (fun _ _ h => h.elim) ?_; rintro _ _ ⟨u, rfl, rfl⟩)
    | (apply al_y
       case hy =>
        first
        | apply qy_plain rfl
        | apply qy_run rfl rfl (guard_b rfl) rfl
        | exact qy_skip rfl rfl (guard_b rfl) rfl
        | (apply qy_gv rfl rfl (by first | exact guard_b rfl | exact guard_gv rfl); intro hk; have hk2 := hk; (try simp only [Bool.true_and, Bool.and_eq_true, Bool.or_eq_true, beq_iff_eq, decide_eq_true_eq, decide_eq_false_iff_not, Bool.not_eq_true', Bool.not_eq_false', Bool.and_eq_false_iff, Bool.or_eq_false_iff] at hk2))
        first
        | exact bs_int1 rfl un_ (by first | (refine og rfl ?_; (first | assumption | (refine gd ?_ ?_ <;> assumption) | (refine gd rfl ?_; assumption) | (apply gl; assumption) | (refine gd (by apply gl; assumption) ?_; assumption) | (simp_all; done))) | exact od rfl)
        | ((first | apply ay_move rfl | apply ay_assign rfl | apply ay_not rfl | apply ay_lss rfl | apply ay_leq rfl | apply ay_gtr rfl | apply ay_geq rfl | apply k_eql rfl | apply k_neq rfl | apply ay_and rfl | apply ay_or rfl | apply ay_call rfl | apply k_len rfl | apply k_ix rfl | apply k_ld rfl | apply k_fa rfl | apply k_fd rfl | apply ay_build rfl st_ | apply ay_extract rfl | apply ay_slice rfl un_ el_ | apply bs_cell1 rfl un_ | apply bs_cell2 rfl un_ | apply kn_add rfl | apply kn_sub rfl | apply kn_mul rfl | apply kn_quo rfl | apply kn_rem rfl)
         <;> (repeat' (
          first
          | ((first | refine og rfl ?_ | refine ogn rfl ?_); (first | assumption | (refine gd ?_ ?_ <;> assumption) | (refine gd rfl ?_; assumption) | (apply gl; assumption) | (refine gd (by apply gl; assumption) ?_; assumption) | (simp_all; done))) | exact odln rfl (by with_reducible rfl) | exact odn rfl | exact od rfl
          | exact c1 | exact f_ref04step _ _ _ hw ha
          | exact un_ | exact el_ | exact agg_ | exact sz_ | exact sp_ | exact fl_ | exact st_
          | exact nk_sl un_ | exact nk_row 0 un_ rfl | exact ik_sl un_ el_ (List.getElem?_eq_getElem (by first | omega | (simp; omega))) | exact lk_el el_ | exact lk_1 agg_ | exact ak_ip fl_ sp_ | exact dk_1 fl_ agg_ rfl
          | exact lk_v1 0 agg_ rfl rfl | exact lk_v1 1 agg_ rfl rfl | exact lk_vn 0 agg_ sz_ rfl rfl | exact ak_var fl_ sp_
          | fail
          | exact ek_int | exact ek_bool un_ | exact ek_cell
          | exact fit64 (by omega) (by omega) | exact fit32 (by omega) (by omega) | exact fit8 (by omega) (by omega)
          | exact pa_nil | apply pk | exact ca_agg | exact ca_v rfl | exact ca_sl | exact sc_0 | apply SetC.here | apply SetC.next
          | exact opds0 | apply opds1 | exact lo_none | apply lo_k | exact hi_none | apply hi_k
          | exact rfl | omega | intro hp)); done)
        | ((first | apply ay_add rfl | apply ay_sub rfl | apply ay_mul rfl | apply ay_quo rfl | apply ay_rem rfl)
         <;> first | exact (by first | (refine og rfl ?_; (first | assumption | (refine gd ?_ ?_ <;> assumption) | (refine gd rfl ?_; assumption) | (apply gl; assumption) | (refine gd (by apply gl; assumption) ?_; assumption) | (simp_all; done))) | exact od rfl) | omega | exact (by first | exact fit64 (by omega) (by omega) | exact fit32 (by omega) (by omega) | exact fit8 (by omega) (by omega)))
       case hx => rfl
       case hd => rfl)
    | (refine al_last (by kernel_rfl) ?_)
    | (apply al_freezeF 0 rfl
       case hz => repeat' (first | exact fzf_nil | apply fzf_cons | exact fz_here | apply fz_agg | apply fz_tup | exact fz_keep | exact fzl_nil | apply fzl_cons | fail))
    | fail)
    · refine ⟨_, [], (by first | exact res1 rfl rfl | exact res2 rfl rfl rfl | exact res3 rfl rfl rfl rfl | exact res0 rfl | fail), List.nil_sublist _, ?_, rfl⟩
      simp only [lay3, layR, if_neg h0]
      exact sub_tup (subl1 sub_nil (subl1 (Sub.refl _) (subl1 (Sub.refl _) subl0)))
    all_goals exact absurd hb h0
  · have hw : 2 ≤ w' ∧ w' ≤ 80 := ⟨hw1, hw2⟩
    have c1 : AP Tryd.prog tab0 29 [I w', I a', R 32] (tupA [I ((stepM w' a' 32).1 : Nat), I ((stepM w' a' 32).2 : Nat), I 0]) := (f_ref04Next w' a' 32).to (by simp only [next3, nextM, if_pos h0, Int.toNat_natCast])
    refine af_intro Tryd.func32 rfl (by decide) Tryd.ntmps32 rfl ?_
    have ha : a' ≤ 20000 := by omega
    repeat' (first
    | fail
    | refine aw_seq ?_
      | refine aw_region0 ?_
      | refine al_nil ?_
      | refine th_n ?_
      | refine th_e ?_
      | refine th_r ?_
      | refine ib_n ?_
      | refine ib_e rfl ?_
      | refine ib_e' rfl ?_
      | refine ib_r ?_
      | refine aw_block ?_
      | refine aw_exit ?_
      | refine aw_ret ?_
      | refine aw_skip ?_
      | refine aw_region1 (by kernel_rfl) (by kernel_rfl) ?_
      | (refine aw_cond rfl ?_ ?_ <;> intro hb <;> (try simp only [decide_eq_true_eq, decide_eq_false_iff_not, Bool.and_eq_true, Bool.or_eq_true, Bool.not_eq_true', Bool.and_eq_false_iff, Bool.or_eq_false_iff, Bool.not_eq_false'] at hb) <;> (first | (exfalso; omega) | skip))
    | (refine al_es rfl (ao_box rfl (by first | exact od rfl | exact og rfl (by assumption)) (by first | exact ca_agg | exact ca_v rfl | exact ca_sl)) rfl rfl (fun _ _ h => h.elim) ?_; rintro _ _ ⟨bb, rfl, rfl⟩)
    | (refine al_es rfl (ao_empty rfl un_ el_) rfl rfl (fun _ _ h => h.elim) ?_; rintro _ _ ⟨u, rfl, rfl⟩)
    | (refine al_es rfl (ao_append 0 rfl un_ el_ (by first | (refine og rfl ?_; (first | assumption | (refine gd ?_ ?_ <;> assumption) | (refine gd rfl ?_; assumption) | (apply gl; assumption) | (refine gd (by apply gl; assumption) ?_; assumption) | (simp_all; done))) | exact od rfl) rfl (by first | (refine og rfl ?_; (first | assumption | (refine gd ?_ ?_ <;> assumption) | (refine gd rfl ?_; assumption) | (apply gl; assumption) | (refine gd (by apply gl; assumption) ?_; assumption) | (simp_all; done))) | exact od rfl) (by (try simp only [List.length_append, List.length_nil, List.length_cons, List.nil_append]); omega) (by (try simp only [List.length_append, List.length_nil, List.length_cons, List.nil_append]); simp only [maxLen]; omega)) rfl rfl (fun _ _ h => h.elim) ?_; rintro _ _ ⟨u, rfl, rfl⟩)
    | (apply al_y
       case hy =>
        first
        | apply qy_plain rfl
        | apply qy_run rfl rfl (guard_b rfl) rfl
        | exact qy_skip rfl rfl (guard_b rfl) rfl
        | (apply qy_gv rfl rfl (by first | exact guard_b rfl | exact guard_gv rfl); intro hk; have hk2 := hk; (try simp only [Bool.true_and, Bool.and_eq_true, Bool.or_eq_true, beq_iff_eq, decide_eq_true_eq, decide_eq_false_iff_not, Bool.not_eq_true', Bool.not_eq_false', Bool.and_eq_false_iff, Bool.or_eq_false_iff] at hk2))
        first
        | exact bs_int1 rfl un_ (by first | (refine og rfl ?_; (first | assumption | (refine gd ?_ ?_ <;> assumption) | (refine gd rfl ?_; assumption) | (apply gl; assumption) | (refine gd (by apply gl; assumption) ?_; assumption) | (simp_all; done))) | exact od rfl)
        | ((first | apply ay_move rfl | apply ay_assign rfl | apply ay_not rfl | apply ay_lss rfl | apply ay_leq rfl | apply ay_gtr rfl | apply ay_geq rfl | apply k_eql rfl | apply k_neq rfl | apply ay_and rfl | apply ay_or rfl | apply ay_call rfl | apply k_len rfl | apply k_ix rfl | apply k_ld rfl | apply k_fa rfl | apply k_fd rfl | apply ay_build rfl st_ | apply ay_extract rfl | apply ay_slice rfl un_ el_ | apply bs_cell1 rfl un_ | apply bs_cell2 rfl un_ | apply kn_add rfl | apply kn_sub rfl | apply kn_mul rfl | apply kn_quo rfl | apply kn_rem rfl)
         <;> (repeat' (
          first
          | ((first | refine og rfl ?_ | refine ogn rfl ?_); (first | assumption | (refine gd ?_ ?_ <;> assumption) | (refine gd rfl ?_; assumption) | (apply gl; assumption) | (refine gd (by apply gl; assumption) ?_; assumption) | (simp_all; done))) | exact odln rfl (by with_reducible rfl) | exact odn rfl | exact od rfl
          | exact c1 | exact f_ref04step _ _ _ hw ha
          | exact un_ | exact el_ | exact agg_ | exact sz_ | exact sp_ | exact fl_ | exact st_
          | exact nk_sl un_ | exact nk_row 0 un_ rfl | exact ik_sl un_ el_ (List.getElem?_eq_getElem (by first | omega | (simp; omega))) | exact lk_el el_ | exact lk_1 agg_ | exact ak_ip fl_ sp_ | exact dk_1 fl_ agg_ rfl
          | exact lk_v1 0 agg_ rfl rfl | exact lk_v1 1 agg_ rfl rfl | exact lk_vn 0 agg_ sz_ rfl rfl | exact ak_var fl_ sp_
          | fail
          | exact ek_int | exact ek_bool un_ | exact ek_cell
          | exact fit64 (by omega) (by omega) | exact fit32 (by omega) (by omega) | exact fit8 (by omega) (by omega)
          | exact pa_nil | apply pk | exact ca_agg | exact ca_v rfl | exact ca_sl | exact sc_0 | apply SetC.here | apply SetC.next
          | exact opds0 | apply opds1 | exact lo_none | apply lo_k | exact hi_none | apply hi_k
          | exact rfl | omega | intro hp)); done)
        | ((first | apply ay_add rfl | apply ay_sub rfl | apply ay_mul rfl | apply ay_quo rfl | apply ay_rem rfl)
         <;> first | exact (by first | (refine og rfl ?_; (first | assumption | (refine gd ?_ ?_ <;> assumption) | (refine gd rfl ?_; assumption) | (apply gl; assumption) | (refine gd (by apply gl; assumption) ?_; assumption) | (simp_all; done))) | exact od rfl) | omega | exact (by first | exact fit64 (by omega) (by omega) | exact fit32 (by omega) (by omega) | exact fit8 (by omega) (by omega)))
       case hx => rfl
       case hd => rfl)
    | (refine al_last (by kernel_rfl) ?_)
    | (apply al_freezeF 0 rfl
       case hz => repeat' (first | exact fzf_nil | apply fzf_cons | exact fz_here | apply fz_agg | apply fz_tup | exact fz_keep | exact fzl_nil | apply fzl_cons | fail))
    | fail)
    all_goals first | (exfalso; simp at hb; done) | skip
    · refine ⟨_, [], (by first | exact res1 rfl rfl | exact res2 rfl rfl rfl | exact res3 rfl rfl rfl rfl | exact res0 rfl | fail), List.nil_sublist _, ?_, rfl⟩
      have h5 : 500 < l.length := by omega
      simp only [lay3, layR, if_pos h0, if_pos h5]
      exact sub_tup (subl1 sub_nil (subl1 (Sub.refl _) (subl1 (Sub.refl _) subl0)))
    have h5 : l.length ≤ 500 := by omega
    refine aw_for3 (fun (k : Nat) (pe : List Int × Nat) (u : Value) => [(0, I (w' : Nat)), (1, I pe.2), (2, slA i32T l), (12, vA u), (13, I k)])
      (fun k pe u => [rowO i64T 3 u pe.1]) (fun k pe _ => k ≤ l.length ∧ pe = layM w' a' (l.take k)) (fun k _ _ => l.length - k) 0 ([], a') u ⟨Nat.zero_le _, rfl⟩ (by repeat' (first | exact weak_nil | refine weak_cons rfl ?_ | fail)) rfl ?_
    clear u ha
    rintro k ⟨p, e⟩ u ⟨h1, h2⟩
    have hl := layM_len w' a' l k h1
    rw [← h2] at hl
    obtain ⟨hl1, hl2⟩ := hl
    simp only at hl1 hl2
    have ha : e ≤ 20000 := by omega
    by_cases hlt : k < l.length
    · repeat' (first
      | fail
      | refine aw_seq ?_
        | refine aw_region0 ?_
        | refine al_nil ?_
        | refine th_n ?_
        | refine th_e ?_
        | refine th_r ?_
        | refine ib_n ?_
        | refine ib_e rfl ?_
        | refine ib_e' rfl ?_
        | refine ib_r ?_
        | refine aw_block ?_
        | refine aw_exit ?_
        | refine aw_ret ?_
        | refine aw_skip ?_
        | refine aw_region1 (by kernel_rfl) (by kernel_rfl) ?_
        | (refine aw_cond rfl ?_ ?_ <;> intro hb <;> (try simp only [decide_eq_true_eq, decide_eq_false_iff_not, Bool.and_eq_true, Bool.or_eq_true, Bool.not_eq_true', Bool.and_eq_false_iff, Bool.or_eq_false_iff, Bool.not_eq_false'] at hb) <;> (first | (exfalso; omega) | skip))
      | (refine al_es rfl (ao_box rfl (by first | exact od rfl | exact og rfl (by assumption)) (by first | exact ca_agg | exact ca_v rfl | exact ca_sl)) rfl rfl (fun _ _ h => h.elim) ?_; rintro _ _ ⟨bb, rfl, rfl⟩)
      | (refine al_es rfl (ao_empty rfl un_ el_) rfl rfl (fun _ _ h => h.elim) ?_; rintro _ _ ⟨u, rfl, rfl⟩)
      | (refine al_es rfl (ao_append 0 rfl un_ el_ (by first | (refine og rfl ?_; (first | assumption | (refine gd ?_ ?_ <;> assumption) | (refine gd rfl ?_; assumption) | (apply gl; assumption) | (refine gd (by apply gl; assumption) ?_; assumption) | (simp_all; done))) | exact od rfl) rfl (by first | (refine og rfl ?_; (first | assumption | (refine gd ?_ ?_ <;> assumption) | (refine gd rfl ?_; assumption) | (apply gl; assumption) | (refine gd (by apply gl; assumption) ?_; assumption) | (simp_all; done))) | exact od rfl) (by (try simp only [List.length_append, List.length_nil, List.length_cons, List.nil_append]); omega) (by (try simp only [List.length_append, List.length_nil, List.length_cons, List.nil_append]); simp only [maxLen]; omega)) rfl rfl (fun _ _ h => h.elim) ?_; rintro _ _ ⟨u, rfl, rfl⟩)
      | (apply al_y
         case hy =>
          first
          | apply qy_plain rfl
          | apply qy_run rfl rfl (guard_b rfl) rfl
          | exact qy_skip rfl rfl (guard_b rfl) rfl
          | (apply qy_gv rfl rfl (by first | exact guard_b rfl | exact guard_gv rfl); intro hk; have hk2 := hk; (try simp only [Bool.true_and, Bool.and_eq_true, Bool.or_eq_true, beq_iff_eq, decide_eq_true_eq, decide_eq_false_iff_not, Bool.not_eq_true', Bool.not_eq_false', Bool.and_eq_false_iff, Bool.or_eq_false_iff] at hk2))
          first
          | exact bs_int1 rfl un_ (by first | (refine og rfl ?_; (first | assumption | (refine gd ?_ ?_ <;> assumption) | (refine gd rfl ?_; assumption) | (apply gl; assumption) | (refine gd (by apply gl; assumption) ?_; assumption) | (simp_all; done))) | exact od rfl)
          | ((first | apply ay_move rfl | apply ay_assign rfl | apply ay_not rfl | apply ay_lss rfl | apply ay_leq rfl | apply ay_gtr rfl | apply ay_geq rfl | apply k_eql rfl | apply k_neq rfl | apply ay_and rfl | apply ay_or rfl | apply ay_call rfl | apply k_len rfl | apply k_ix rfl | apply k_ld rfl | apply k_fa rfl | apply k_fd rfl | apply ay_build rfl st_ | apply ay_extract rfl | apply ay_slice rfl un_ el_ | apply bs_cell1 rfl un_ | apply bs_cell2 rfl un_ | apply kn_add rfl | apply kn_sub rfl | apply kn_mul rfl | apply kn_quo rfl | apply kn_rem rfl)
           <;> (repeat' (
            first
            | ((first | refine og rfl ?_ | refine ogn rfl ?_); (first | assumption | (refine gd ?_ ?_ <;> assumption) | (refine gd rfl ?_; assumption) | (apply gl; assumption) | (refine gd (by apply gl; assumption) ?_; assumption) | (simp_all; done))) | exact odln rfl (by with_reducible rfl) | exact odn rfl | exact od rfl
            | exact c1 | exact f_ref04step _ _ _ hw ha
            | exact un_ | exact el_ | exact agg_ | exact sz_ | exact sp_ | exact fl_ | exact st_
            | exact nk_sl un_ | exact nk_row 0 un_ rfl | exact ik_sl un_ el_ (List.getElem?_eq_getElem (by first | omega | (simp; omega))) | exact lk_el el_ | exact lk_1 agg_ | exact ak_ip fl_ sp_ | exact dk_1 fl_ agg_ rfl
            | exact lk_v1 0 agg_ rfl rfl | exact lk_v1 1 agg_ rfl rfl | exact lk_vn 0 agg_ sz_ rfl rfl | exact ak_var fl_ sp_
            | fail
            | exact ek_int | exact ek_bool un_ | exact ek_cell
            | exact fit64 (by omega) (by omega) | exact fit32 (by omega) (by omega) | exact fit8 (by omega) (by omega)
            | exact pa_nil | apply pk | exact ca_agg | exact ca_v rfl | exact ca_sl | exact sc_0 | apply SetC.here | apply SetC.next
            | exact opds0 | apply opds1 | exact lo_none | apply lo_k | exact hi_none | apply hi_k
            | exact rfl | omega | intro hp)); done)
          | ((first | apply ay_add rfl | apply ay_sub rfl | apply ay_mul rfl | apply ay_quo rfl | apply ay_rem rfl)
           <;> first | exact (by first | (refine og rfl ?_; (first | assumption | (refine gd ?_ ?_ <;> assumption) | (refine gd rfl ?_; assumption) | (apply gl; assumption) | (refine gd (by apply gl; assumption) ?_; assumption) | (simp_all; done))) | exact od rfl) | omega | exact (by first | exact fit64 (by omega) (by omega) | exact fit32 (by omega) (by omega) | exact fit8 (by omega) (by omega)))
         case hx => rfl
         case hd => rfl)
      | (refine al_last (by kernel_rfl) ?_)
      | (apply al_freezeF 0 rfl
         case hz => repeat' (first | exact fzf_nil | apply fzf_cons | exact fz_here | apply fz_agg | apply fz_tup | exact fz_keep | exact fzl_nil | apply fzl_cons | fail))
      | fail)
      refine ⟨k + 1, (p ++ [((stepM w' e l[k]).1 : Int)], (stepM w' e l[k]).2), _, ⟨by omega, ?_⟩, by omega, (by repeat' (first | exact weak_nil | refine weak_cons rfl ?_ | fail)), rfl⟩
      rw [layM_snoc w' a' l k hlt, ← h2]; rfl
    · apply aw_freezeF 0 rfl
      case hz => repeat' (first | exact fzf_nil | apply fzf_cons | exact fz_here | exact fz_keep)
      repeat' (first
      | fail
      | refine aw_seq ?_
        | refine aw_region0 ?_
        | refine al_nil ?_
        | refine th_n ?_
        | refine th_e ?_
        | refine th_r ?_
        | refine ib_n ?_
        | refine ib_e rfl ?_
        | refine ib_e' rfl ?_
        | refine ib_r ?_
        | refine aw_block ?_
        | refine aw_exit ?_
        | refine aw_ret ?_
        | refine aw_skip ?_
        | refine aw_region1 (by kernel_rfl) (by kernel_rfl) ?_
        | (refine aw_cond rfl ?_ ?_ <;> intro hb <;> (try simp only [decide_eq_true_eq, decide_eq_false_iff_not, Bool.and_eq_true, Bool.or_eq_true, Bool.not_eq_true', Bool.and_eq_false_iff, Bool.or_eq_false_iff, Bool.not_eq_false'] at hb) <;> (first | (exfalso; omega) | skip))
      | (refine al_es rfl (ao_box rfl (by first | exact od rfl | exact og rfl (by assumption)) (by first | exact ca_agg | exact ca_v rfl | exact ca_sl)) rfl rfl (fun _ _ h => h.elim) ?_; rintro _ _ ⟨bb, rfl, rfl⟩)
      | (refine al_es rfl (ao_empty rfl un_ el_) rfl rfl (fun _ _ h => h.elim) ?_; rintro _ _ ⟨u, rfl, rfl⟩)
      | (refine al_es rfl (ao_append 0 rfl un_ el_ (by first | (refine og rfl ?_; (first | assumption | (refine gd ?_ ?_ <;> assumption) | (refine gd rfl ?_; assumption) | (apply gl; assumption) | (refine gd (by apply gl; assumption) ?_; assumption) | (simp_all; done))) | exact od rfl) rfl (by first | (refine og rfl ?_; (first | assumption | (refine gd ?_ ?_ <;> assumption) | (refine gd rfl ?_; assumption) | (apply gl; assumption) | (refine gd (by apply gl; assumption) ?_; assumption) | (simp_all; done))) | exact od rfl) (by (try simp only [List.length_append, List.length_nil, List.length_cons, List.nil_append]); omega) (by (try simp only [List.length_append, List.length_nil, List.length_cons, List.nil_append]); simp only [maxLen]; omega)) rfl rfl (fun _ _ h => h.elim) ?_; rintro _ _ ⟨u, rfl, rfl⟩)
      | (apply al_y
         case hy =>
          first
          | apply qy_plain rfl
          | apply qy_run rfl rfl (guard_b rfl) rfl
          | exact qy_skip rfl rfl (guard_b rfl) rfl
          | (apply qy_gv rfl rfl (by first | exact guard_b rfl | exact guard_gv rfl); intro hk; have hk2 := hk; (try simp only [Bool.true_and, Bool.and_eq_true, Bool.or_eq_true, beq_iff_eq, decide_eq_true_eq, decide_eq_false_iff_not, Bool.not_eq_true', Bool.not_eq_false', Bool.and_eq_false_iff, Bool.or_eq_false_iff] at hk2))
          first
          | exact bs_int1 rfl un_ (by first | (refine og rfl ?_; (first | assumption | (refine gd ?_ ?_ <;> assumption) | (refine gd rfl ?_; assumption) | (apply gl; assumption) | (refine gd (by apply gl; assumption) ?_; assumption) | (simp_all; done))) | exact od rfl)
          | ((first | apply ay_move rfl | apply ay_assign rfl | apply ay_not rfl | apply ay_lss rfl | apply ay_leq rfl | apply ay_gtr rfl | apply ay_geq rfl | apply k_eql rfl | apply k_neq rfl | apply ay_and rfl | apply ay_or rfl | apply ay_call rfl | apply k_len rfl | apply k_ix rfl | apply k_ld rfl | apply k_fa rfl | apply k_fd rfl | apply ay_build rfl st_ | apply ay_extract rfl | apply ay_slice rfl un_ el_ | apply bs_cell1 rfl un_ | apply bs_cell2 rfl un_ | apply kn_add rfl | apply kn_sub rfl | apply kn_mul rfl | apply kn_quo rfl | apply kn_rem rfl)
           <;> (repeat' (
            first
            | ((first | refine og rfl ?_ | refine ogn rfl ?_); (first | assumption | (refine gd ?_ ?_ <;> assumption) | (refine gd rfl ?_; assumption) | (apply gl; assumption) | (refine gd (by apply gl; assumption) ?_; assumption) | (simp_all; done))) | exact odln rfl (by with_reducible rfl) | exact odn rfl | exact od rfl
            | exact c1 | exact f_ref04step _ _ _ hw ha
            | exact un_ | exact el_ | exact agg_ | exact sz_ | exact sp_ | exact fl_ | exact st_
            | exact nk_sl un_ | exact nk_row 0 un_ rfl | exact ik_sl un_ el_ (List.getElem?_eq_getElem (by first | omega | (simp; omega))) | exact lk_el el_ | exact lk_1 agg_ | exact ak_ip fl_ sp_ | exact dk_1 fl_ agg_ rfl
            | exact lk_v1 0 agg_ rfl rfl | exact lk_v1 1 agg_ rfl rfl | exact lk_vn 0 agg_ sz_ rfl rfl | exact ak_var fl_ sp_
            | fail
            | exact ek_int | exact ek_bool un_ | exact ek_cell
            | exact fit64 (by omega) (by omega) | exact fit32 (by omega) (by omega) | exact fit8 (by omega) (by omega)
            | exact pa_nil | apply pk | exact ca_agg | exact ca_v rfl | exact ca_sl | exact sc_0 | apply SetC.here | apply SetC.next
            | exact opds0 | apply opds1 | exact lo_none | apply lo_k | exact hi_none | apply hi_k
            | exact rfl | omega | intro hp)); done)
          | ((first | apply ay_add rfl | apply ay_sub rfl | apply ay_mul rfl | apply ay_quo rfl | apply ay_rem rfl)
           <;> first | exact (by first | (refine og rfl ?_; (first | assumption | (refine gd ?_ ?_ <;> assumption) | (refine gd rfl ?_; assumption) | (apply gl; assumption) | (refine gd (by apply gl; assumption) ?_; assumption) | (simp_all; done))) | exact od rfl) | omega | exact (by first | exact fit64 (by omega) (by omega) | exact fit32 (by omega) (by omega) | exact fit8 (by omega) (by omega)))
         case hx => rfl
         case hd => rfl)
      | (refine al_last (by kernel_rfl) ?_)
      | (apply al_freezeF 0 rfl
         case hz => repeat' (first | exact fzf_nil | apply fzf_cons | exact fz_here | apply fz_agg | apply fz_tup | exact fz_keep | exact fzl_nil | apply fzl_cons | fail))
      | fail)
      refine ⟨_, [], (by first | exact res1 rfl rfl | exact res2 rfl rfl rfl | exact res3 rfl rfl rfl rfl | exact res0 rfl | fail), List.nil_sublist _, Sub.eq ?_, rfl⟩
      have h6 : ¬ 500 < l.length := by omega
      rw [List.take_of_length_le (by omega)] at h2
      simp only [lay3, layR, if_pos h0, if_neg h6, Int.toNat_natCast, ← h2]
end Go.Proofs.YtdnoealpchehlaaDoor
