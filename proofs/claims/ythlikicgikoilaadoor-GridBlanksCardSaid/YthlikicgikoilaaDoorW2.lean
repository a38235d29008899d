/- Layers 1 and 2 (signs, wide): each function of the program and of the references yields what its model says. No condition. -/
import Derived.Test.YthlikicgikoilaaDoorTy
namespace Go.Proofs.YthlikicgikoilaaDoor
set_option linter.unusedSimpArgs false
set_option linter.unusedVariables false
open Go Go.RowKit
attribute [local irreducible] AW AL AO QY varO rowO rsA Opd OpdN vA gvA tupA aggA slA slcA ipA rpA EqK LnK IxK LdK FaK FdK
set_option maxRecDepth 100000

def isG (r : Int) : Bool := (decide (0 ≤ r) && decide (r < 55296)) || (decide (57343 < r) && decide (r ≤ 1114111))
def shown (r : Int) : Bool := isG r && decide (32 ≤ r) && (decide (r < 127) || decide (159 < r))
def isW (r : Int) : Bool := spansL.any fun p => decide (p.1 ≤ r) && decide (r ≤ p.2)
def ctl (r : Int) : Bool := (decide (0 ≤ r) && decide (r < 32)) || decide (r = 127)

theorem f_ValidRune (r : Int) : AP Tryd.prog tab0 49 [R r] (B (isG r)) := by
  refine af_intro Tryd.func49 rfl (by decide) Tryd.ntmps49 rfl ?_
  repeat' (first
  | fail
  | refine aw_seq ?_
    | refine aw_region0 ?_
    | refine al_nil ?_
    | refine th_n ?_
    | refine th_e ?_
    | refine th_r ?_
    | refine ib_n ?_
    | refine ib_e rfl ?_
    | refine ib_e' rfl ?_
    | refine ib_r ?_
    | refine aw_block ?_
    | refine aw_exit ?_
    | refine aw_ret ?_
    | refine aw_skip ?_
    | refine aw_region1 (by kernel_rfl) (by kernel_rfl) ?_
    | (refine aw_cond rfl ?_ ?_ <;> intro hb <;> (try simp only [decide_eq_true_eq, decide_eq_false_iff_not, Bool.and_eq_true, Bool.or_eq_true, Bool.not_eq_true', Bool.and_eq_false_iff, Bool.or_eq_false_iff, Bool.not_eq_false'] at hb) <;> (first | (exfalso; omega) | skip))
  | (refine al_es rfl (ao_box rfl (by first | exact od rfl | exact og rfl (by assumption)) (by first | exact ca_agg | exact ca_v rfl | exact ca_sl)) rfl rfl (fun _ _ h => h.elim) ?_; rintro _ _ ⟨bb, rfl, rfl⟩)
  | (refine al_es rfl (ao_empty rfl un_ el_) rfl rfl (fun _ _ h => h.elim) ?_; rintro _ _ ⟨u, rfl, rfl⟩)
  | (refine al_es rfl (ao_append 0 rfl un_ el_ (by first | exact od rfl | exact og rfl (by assumption)) rfl (by first | exact od rfl | exact og rfl (by assumption)) ?h1 ?h2) rfl rfl (fun _ _ h => h.elim) ?_
     case h1 => (try simp only [List.length_append, List.length_nil, List.length_cons, List.nil_append, List.length_replicate, List.length_set]); omega
     case h2 => (try simp only [List.length_append, List.length_nil, List.length_cons, List.nil_append, List.length_replicate, List.length_set]); simp only [maxLen]; omega
     rintro _ _ ⟨u, rfl, rfl⟩)
  | (apply al_y
     case hy =>
      first
      | apply qy_plain rfl
      | apply qy_run rfl rfl (guard_b rfl) rfl
      | exact qy_skip rfl rfl (guard_b rfl) rfl
      | (apply qy_gv rfl rfl (by first | exact guard_b rfl | exact guard_gv rfl); intro hk; have hk2 := hk; (try simp only [Bool.true_and, Bool.and_eq_true, Bool.or_eq_true, beq_iff_eq, decide_eq_true_eq, decide_eq_false_iff_not, Bool.not_eq_true', Bool.not_eq_false', Bool.and_eq_false_iff, Bool.or_eq_false_iff] at hk2))
      first
      | fail
      | ((first | apply ay_move rfl | apply ay_assign rfl | apply ay_not rfl | apply ay_lss rfl | apply ay_leq rfl | apply ay_gtr rfl | apply ay_geq rfl | apply k_eql rfl | apply k_neq rfl | apply ay_and rfl | apply ay_or rfl | apply ay_call rfl | apply k_len rfl | apply k_ix rfl | apply k_ld rfl | apply k_fa rfl | apply k_fd rfl | apply ay_build rfl st_ | apply ay_extract rfl | apply ay_slice rfl un_ el_ | apply bs_cell1 rfl un_ | apply bs_cell2 rfl un_ | apply kn_add rfl | apply kn_sub rfl | apply kn_mul rfl | apply kn_quo rfl | apply kn_rem rfl)
       <;> (repeat' (
        first
        | ((first | refine og rfl ?_ | refine ogn rfl ?_); (first | assumption | (refine gd ?_ ?_ <;> assumption) | (refine gd rfl ?_; assumption) | (apply gl; assumption) | (refine gd (by apply gl; assumption) ?_; assumption) | (simp_all; done))) | exact odln rfl (by with_reducible rfl) | exact odn rfl | exact od rfl
        | fail
        | exact un_ | exact el_ | exact agg_ | exact sz_ | exact sp_ | exact fl_ | exact st_
        | exact nk_sl un_ | exact nk_row 0 un_ rfl | exact ik_sl un_ el_ (List.getElem?_eq_getElem (by first | omega | (simp; omega))) | exact lk_el el_ | exact lk_1 agg_ | exact ak_ip fl_ sp_ | exact dk_1 fl_ agg_ rfl
        | exact lk_v1 0 agg_ rfl rfl | exact lk_v1 1 agg_ rfl rfl | exact lk_vn 0 agg_ sz_ rfl rfl | exact ak_var fl_ sp_
        | fail
        | exact ek_int | exact ek_bool un_ | exact ek_cell
        | exact fit64 (by omega) (by omega) | exact fit32 (by omega) (by omega) | exact fit8 (by omega) (by omega)
        | exact pa_nil | apply pk | exact ca_agg | exact ca_v rfl | exact ca_sl | exact sc_0 | apply SetC.here | apply SetC.next
        | exact opds0 | apply opds1 | exact lo_none | apply lo_k | exact hi_none | apply hi_k
        | exact rfl | omega | intro hp)); done)
      | ((first | apply ay_add rfl | apply ay_sub rfl | apply ay_mul rfl | apply ay_quo rfl | apply ay_rem rfl)
       <;> first | exact (by first | (refine og rfl ?_; (first | assumption | (refine gd ?_ ?_ <;> assumption) | (refine gd rfl ?_; assumption) | (apply gl; assumption) | (refine gd (by apply gl; assumption) ?_; assumption) | (simp_all; done))) | exact od rfl) | omega | exact (by first | exact fit64 (by omega) (by omega) | exact fit32 (by omega) (by omega) | exact fit8 (by omega) (by omega)))
     case hx => rfl
     case hd => rfl)
  | (refine al_last (by kernel_rfl) ?_)
  | (apply al_freezeF 0 rfl
     case hz => repeat' (first | exact fzf_nil | apply fzf_cons | exact fz_here | apply fz_agg | apply fz_tup | exact fz_keep | exact fzl_nil | apply fzl_cons | fail))
  | fail)
  all_goals refine ⟨_, [], (by first | exact res1 rfl rfl | exact res2 rfl rfl rfl | exact res3 rfl rfl rfl rfl | exact res0 rfl | fail), List.nil_sublist _, Sub.eq (congrArg B ?_), rfl⟩
  all_goals (rw [Bool.eq_iff_iff]; simp [isG]; omega)
theorem f_glyphIs (r : Int) : AP Tryd.prog tab0 47 [R r] (B (isG r)) := by
  refine af_intro Tryd.func47 rfl (by decide) Tryd.ntmps47 rfl ?_
  repeat' (first
  | fail
  | refine aw_seq ?_
    | refine aw_region0 ?_
    | refine al_nil ?_
    | refine th_n ?_
    | refine th_e ?_
    | refine th_r ?_
    | refine ib_n ?_
    | refine ib_e rfl ?_
    | refine ib_e' rfl ?_
    | refine ib_r ?_
    | refine aw_block ?_
    | refine aw_exit ?_
    | refine aw_ret ?_
    | refine aw_skip ?_
    | refine aw_region1 (by kernel_rfl) (by kernel_rfl) ?_
    | (refine aw_cond rfl ?_ ?_ <;> intro hb <;> (try simp only [decide_eq_true_eq, decide_eq_false_iff_not, Bool.and_eq_true, Bool.or_eq_true, Bool.not_eq_true', Bool.and_eq_false_iff, Bool.or_eq_false_iff, Bool.not_eq_false'] at hb) <;> (first | (exfalso; omega) | skip))
  | (refine al_es rfl (ao_box rfl (by first | exact od rfl | exact og rfl (by assumption)) (by first | exact ca_agg | exact ca_v rfl | exact ca_sl)) rfl rfl (fun _ _ h => h.elim) ?_; rintro _ _ ⟨bb, rfl, rfl⟩)
  | (refine al_es rfl (ao_empty rfl un_ el_) rfl rfl (fun _ _ h => h.elim) ?_; rintro _ _ ⟨u, rfl, rfl⟩)
  | (refine al_es rfl (ao_append 0 rfl un_ el_ (by first | exact od rfl | exact og rfl (by assumption)) rfl (by first | exact od rfl | exact og rfl (by assumption)) ?h1 ?h2) rfl rfl (fun _ _ h => h.elim) ?_
     case h1 => (try simp only [List.length_append, List.length_nil, List.length_cons, List.nil_append, List.length_replicate, List.length_set]); omega
     case h2 => (try simp only [List.length_append, List.length_nil, List.length_cons, List.nil_append, List.length_replicate, List.length_set]); simp only [maxLen]; omega
     rintro _ _ ⟨u, rfl, rfl⟩)
  | (apply al_y
     case hy =>
      first
      | apply qy_plain rfl
      | apply qy_run rfl rfl (guard_b rfl) rfl
      | exact qy_skip rfl rfl (guard_b rfl) rfl
      | (apply qy_gv rfl rfl (by first | exact guard_b rfl | exact guard_gv rfl); intro hk; have hk2 := hk; (try simp only [Bool.true_and, Bool.and_eq_true, Bool.or_eq_true, beq_iff_eq, decide_eq_true_eq, decide_eq_false_iff_not, Bool.not_eq_true', Bool.not_eq_false', Bool.and_eq_false_iff, Bool.or_eq_false_iff] at hk2))
      first
      | fail
      | ((first | apply ay_move rfl | apply ay_assign rfl | apply ay_not rfl | apply ay_lss rfl | apply ay_leq rfl | apply ay_gtr rfl | apply ay_geq rfl | apply k_eql rfl | apply k_neq rfl | apply ay_and rfl | apply ay_or rfl | apply ay_call rfl | apply k_len rfl | apply k_ix rfl | apply k_ld rfl | apply k_fa rfl | apply k_fd rfl | apply ay_build rfl st_ | apply ay_extract rfl | apply ay_slice rfl un_ el_ | apply bs_cell1 rfl un_ | apply bs_cell2 rfl un_ | apply kn_add rfl | apply kn_sub rfl | apply kn_mul rfl | apply kn_quo rfl | apply kn_rem rfl)
       <;> (repeat' (
        first
        | ((first | refine og rfl ?_ | refine ogn rfl ?_); (first | assumption | (refine gd ?_ ?_ <;> assumption) | (refine gd rfl ?_; assumption) | (apply gl; assumption) | (refine gd (by apply gl; assumption) ?_; assumption) | (simp_all; done))) | exact odln rfl (by with_reducible rfl) | exact odn rfl | exact od rfl
        | exact f_ValidRune _
        | exact un_ | exact el_ | exact agg_ | exact sz_ | exact sp_ | exact fl_ | exact st_
        | exact nk_sl un_ | exact nk_row 0 un_ rfl | exact ik_sl un_ el_ (List.getElem?_eq_getElem (by first | omega | (simp; omega))) | exact lk_el el_ | exact lk_1 agg_ | exact ak_ip fl_ sp_ | exact dk_1 fl_ agg_ rfl
        | exact lk_v1 0 agg_ rfl rfl | exact lk_v1 1 agg_ rfl rfl | exact lk_vn 0 agg_ sz_ rfl rfl | exact ak_var fl_ sp_
        | fail
        | exact ek_int | exact ek_bool un_ | exact ek_cell
        | exact fit64 (by omega) (by omega) | exact fit32 (by omega) (by omega) | exact fit8 (by omega) (by omega)
        | exact pa_nil | apply pk | exact ca_agg | exact ca_v rfl | exact ca_sl | exact sc_0 | apply SetC.here | apply SetC.next
        | exact opds0 | apply opds1 | exact lo_none | apply lo_k | exact hi_none | apply hi_k
        | exact rfl | omega | intro hp)); done)
      | ((first | apply ay_add rfl | apply ay_sub rfl | apply ay_mul rfl | apply ay_quo rfl | apply ay_rem rfl)
       <;> first | exact (by first | (refine og rfl ?_; (first | assumption | (refine gd ?_ ?_ <;> assumption) | (refine gd rfl ?_; assumption) | (apply gl; assumption) | (refine gd (by apply gl; assumption) ?_; assumption) | (simp_all; done))) | exact od rfl) | omega | exact (by first | exact fit64 (by omega) (by omega) | exact fit32 (by omega) (by omega) | exact fit8 (by omega) (by omega)))
     case hx => rfl
     case hd => rfl)
  | (refine al_last (by kernel_rfl) ?_)
  | (apply al_freezeF 0 rfl
     case hz => repeat' (first | exact fzf_nil | apply fzf_cons | exact fz_here | apply fz_agg | apply fz_tup | exact fz_keep | exact fzl_nil | apply fzl_cons | fail))
  | fail)
  exact ⟨_, [], (by first | exact res1 rfl rfl | exact res2 rfl rfl rfl | exact res3 rfl rfl rfl rfl | exact res0 rfl | fail), List.nil_sublist _, Sub.refl _, rfl⟩
theorem f_ref01Is (r : Int) : AP Tryd.prog tab0 48 [R r] (B (isG r)) := by
  refine af_intro Tryd.func48 rfl (by decide) Tryd.ntmps48 rfl ?_
  repeat' (first
  | fail
  | refine aw_seq ?_
    | refine aw_region0 ?_
    | refine al_nil ?_
    | refine th_n ?_
    | refine th_e ?_
    | refine th_r ?_
    | refine ib_n ?_
    | refine ib_e rfl ?_
    | refine ib_e' rfl ?_
    | refine ib_r ?_
    | refine aw_block ?_
    | refine aw_exit ?_
    | refine aw_ret ?_
    | refine aw_skip ?_
    | refine aw_region1 (by kernel_rfl) (by kernel_rfl) ?_
    | (refine aw_cond rfl ?_ ?_ <;> intro hb <;> (try simp only [decide_eq_true_eq, decide_eq_false_iff_not, Bool.and_eq_true, Bool.or_eq_true, Bool.not_eq_true', Bool.and_eq_false_iff, Bool.or_eq_false_iff, Bool.not_eq_false'] at hb) <;> (first | (exfalso; omega) | skip))
  | (refine al_es rfl (ao_box rfl (by first | exact od rfl | exact og rfl (by assumption)) (by first | exact ca_agg | exact ca_v rfl | exact ca_sl)) rfl rfl (fun _ _ h => h.elim) ?_; rintro _ _ ⟨bb, rfl, rfl⟩)
  | (refine al_es rfl (ao_empty rfl un_ el_) rfl rfl (fun _ _ h => h.elim) ?_; rintro _ _ ⟨u, rfl, rfl⟩)
  | (refine al_es rfl (ao_append 0 rfl un_ el_ (by first | exact od rfl | exact og rfl (by assumption)) rfl (by first | exact od rfl | exact og rfl (by assumption)) ?h1 ?h2) rfl rfl (fun _ _ h => h.elim) ?_
     case h1 => (try simp only [List.length_append, List.length_nil, List.length_cons, List.nil_append, List.length_replicate, List.length_set]); omega
     case h2 => (try simp only [List.length_append, List.length_nil, List.length_cons, List.nil_append, List.length_replicate, List.length_set]); simp only [maxLen]; omega
     rintro _ _ ⟨u, rfl, rfl⟩)
  | (apply al_y
     case hy =>
      first
      | apply qy_plain rfl
      | apply qy_run rfl rfl (guard_b rfl) rfl
      | exact qy_skip rfl rfl (guard_b rfl) rfl
      | (apply qy_gv rfl rfl (by first | exact guard_b rfl | exact guard_gv rfl); intro hk; have hk2 := hk; (try simp only [Bool.true_and, Bool.and_eq_true, Bool.or_eq_true, beq_iff_eq, decide_eq_true_eq, decide_eq_false_iff_not, Bool.not_eq_true', Bool.not_eq_false', Bool.and_eq_false_iff, Bool.or_eq_false_iff] at hk2))
      first
      | fail
      | ((first | apply ay_move rfl | apply ay_assign rfl | apply ay_not rfl | apply ay_lss rfl | apply ay_leq rfl | apply ay_gtr rfl | apply ay_geq rfl | apply k_eql rfl | apply k_neq rfl | apply ay_and rfl | apply ay_or rfl | apply ay_call rfl | apply k_len rfl | apply k_ix rfl | apply k_ld rfl | apply k_fa rfl | apply k_fd rfl | apply ay_build rfl st_ | apply ay_extract rfl | apply ay_slice rfl un_ el_ | apply bs_cell1 rfl un_ | apply bs_cell2 rfl un_ | apply kn_add rfl | apply kn_sub rfl | apply kn_mul rfl | apply kn_quo rfl | apply kn_rem rfl)
       <;> (repeat' (
        first
        | ((first | refine og rfl ?_ | refine ogn rfl ?_); (first | assumption | (refine gd ?_ ?_ <;> assumption) | (refine gd rfl ?_; assumption) | (apply gl; assumption) | (refine gd (by apply gl; assumption) ?_; assumption) | (simp_all; done))) | exact odln rfl (by with_reducible rfl) | exact odn rfl | exact od rfl
        | exact f_ValidRune _
        | exact un_ | exact el_ | exact agg_ | exact sz_ | exact sp_ | exact fl_ | exact st_
        | exact nk_sl un_ | exact nk_row 0 un_ rfl | exact ik_sl un_ el_ (List.getElem?_eq_getElem (by first | omega | (simp; omega))) | exact lk_el el_ | exact lk_1 agg_ | exact ak_ip fl_ sp_ | exact dk_1 fl_ agg_ rfl
        | exact lk_v1 0 agg_ rfl rfl | exact lk_v1 1 agg_ rfl rfl | exact lk_vn 0 agg_ sz_ rfl rfl | exact ak_var fl_ sp_
        | fail
        | exact ek_int | exact ek_bool un_ | exact ek_cell
        | exact fit64 (by omega) (by omega) | exact fit32 (by omega) (by omega) | exact fit8 (by omega) (by omega)
        | exact pa_nil | apply pk | exact ca_agg | exact ca_v rfl | exact ca_sl | exact sc_0 | apply SetC.here | apply SetC.next
        | exact opds0 | apply opds1 | exact lo_none | apply lo_k | exact hi_none | apply hi_k
        | exact rfl | omega | intro hp)); done)
      | ((first | apply ay_add rfl | apply ay_sub rfl | apply ay_mul rfl | apply ay_quo rfl | apply ay_rem rfl)
       <;> first | exact (by first | (refine og rfl ?_; (first | assumption | (refine gd ?_ ?_ <;> assumption) | (refine gd rfl ?_; assumption) | (apply gl; assumption) | (refine gd (by apply gl; assumption) ?_; assumption) | (simp_all; done))) | exact od rfl) | omega | exact (by first | exact fit64 (by omega) (by omega) | exact fit32 (by omega) (by omega) | exact fit8 (by omega) (by omega)))
     case hx => rfl
     case hd => rfl)
  | (refine al_last (by kernel_rfl) ?_)
  | (apply al_freezeF 0 rfl
     case hz => repeat' (first | exact fzf_nil | apply fzf_cons | exact fz_here | apply fz_agg | apply fz_tup | exact fz_keep | exact fzl_nil | apply fzl_cons | fail))
  | fail)
  refine ⟨_, [], (by first | exact res1 rfl rfl | exact res2 rfl rfl rfl | exact res3 rfl rfl rfl rfl | exact res0 rfl | fail), List.nil_sublist _, Sub.eq (congrArg B ?_), rfl⟩
  rw [Bool.eq_iff_iff]; simp [isG]; omega
theorem f_Shown (r : Int) : AP Tryd.prog tab0 35 [R r] (B (shown r)) := by
  refine af_intro Tryd.func35 rfl (by decide) Tryd.ntmps35 rfl ?_
  repeat' (first
  | fail
  | refine aw_seq ?_
    | refine aw_region0 ?_
    | refine al_nil ?_
    | refine th_n ?_
    | refine th_e ?_
    | refine th_r ?_
    | refine ib_n ?_
    | refine ib_e rfl ?_
    | refine ib_e' rfl ?_
    | refine ib_r ?_
    | refine aw_block ?_
    | refine aw_exit ?_
    | refine aw_ret ?_
    | refine aw_skip ?_
    | refine aw_region1 (by kernel_rfl) (by kernel_rfl) ?_
    | (refine aw_cond rfl ?_ ?_ <;> intro hb <;> (try simp only [decide_eq_true_eq, decide_eq_false_iff_not, Bool.and_eq_true, Bool.or_eq_true, Bool.not_eq_true', Bool.and_eq_false_iff, Bool.or_eq_false_iff, Bool.not_eq_false'] at hb) <;> (first | (exfalso; omega) | skip))
  | (refine al_es rfl (ao_box rfl (by first | exact od rfl | exact og rfl (by assumption)) (by first | exact ca_agg | exact ca_v rfl | exact ca_sl)) rfl rfl (fun _ _ h => h.elim) ?_; rintro _ _ ⟨bb, rfl, rfl⟩)
  | (refine al_es rfl (ao_empty rfl un_ el_) rfl rfl (fun _ _ h => h.elim) ?_; rintro _ _ ⟨u, rfl, rfl⟩)
  | (refine al_es rfl (ao_append 0 rfl un_ el_ (by first | exact od rfl | exact og rfl (by assumption)) rfl (by first | exact od rfl | exact og rfl (by assumption)) ?h1 ?h2) rfl rfl (fun _ _ h => h.elim) ?_
     case h1 => (try simp only [List.length_append, List.length_nil, List.length_cons, List.nil_append, List.length_replicate, List.length_set]); omega
     case h2 => (try simp only [List.length_append, List.length_nil, List.length_cons, List.nil_append, List.length_replicate, List.length_set]); simp only [maxLen]; omega
     rintro _ _ ⟨u, rfl, rfl⟩)
  | (apply al_y
     case hy =>
      first
      | apply qy_plain rfl
      | apply qy_run rfl rfl (guard_b rfl) rfl
      | exact qy_skip rfl rfl (guard_b rfl) rfl
      | (apply qy_gv rfl rfl (by first | exact guard_b rfl | exact guard_gv rfl); intro hk; have hk2 := hk; (try simp only [Bool.true_and, Bool.and_eq_true, Bool.or_eq_true, beq_iff_eq, decide_eq_true_eq, decide_eq_false_iff_not, Bool.not_eq_true', Bool.not_eq_false', Bool.and_eq_false_iff, Bool.or_eq_false_iff] at hk2))
      first
      | fail
      | ((first | apply ay_move rfl | apply ay_assign rfl | apply ay_not rfl | apply ay_lss rfl | apply ay_leq rfl | apply ay_gtr rfl | apply ay_geq rfl | apply k_eql rfl | apply k_neq rfl | apply ay_and rfl | apply ay_or rfl | apply ay_call rfl | apply k_len rfl | apply k_ix rfl | apply k_ld rfl | apply k_fa rfl | apply k_fd rfl | apply ay_build rfl st_ | apply ay_extract rfl | apply ay_slice rfl un_ el_ | apply bs_cell1 rfl un_ | apply bs_cell2 rfl un_ | apply kn_add rfl | apply kn_sub rfl | apply kn_mul rfl | apply kn_quo rfl | apply kn_rem rfl)
       <;> (repeat' (
        first
        | ((first | refine og rfl ?_ | refine ogn rfl ?_); (first | assumption | (refine gd ?_ ?_ <;> assumption) | (refine gd rfl ?_; assumption) | (apply gl; assumption) | (refine gd (by apply gl; assumption) ?_; assumption) | (simp_all; done))) | exact odln rfl (by with_reducible rfl) | exact odn rfl | exact od rfl
        | exact f_glyphIs _ | exact f_ref01Is _
        | exact un_ | exact el_ | exact agg_ | exact sz_ | exact sp_ | exact fl_ | exact st_
        | exact nk_sl un_ | exact nk_row 0 un_ rfl | exact ik_sl un_ el_ (List.getElem?_eq_getElem (by first | omega | (simp; omega))) | exact lk_el el_ | exact lk_1 agg_ | exact ak_ip fl_ sp_ | exact dk_1 fl_ agg_ rfl
        | exact lk_v1 0 agg_ rfl rfl | exact lk_v1 1 agg_ rfl rfl | exact lk_vn 0 agg_ sz_ rfl rfl | exact ak_var fl_ sp_
        | fail
        | exact ek_int | exact ek_bool un_ | exact ek_cell
        | exact fit64 (by omega) (by omega) | exact fit32 (by omega) (by omega) | exact fit8 (by omega) (by omega)
        | exact pa_nil | apply pk | exact ca_agg | exact ca_v rfl | exact ca_sl | exact sc_0 | apply SetC.here | apply SetC.next
        | exact opds0 | apply opds1 | exact lo_none | apply lo_k | exact hi_none | apply hi_k
        | exact rfl | omega | intro hp)); done)
      | ((first | apply ay_add rfl | apply ay_sub rfl | apply ay_mul rfl | apply ay_quo rfl | apply ay_rem rfl)
       <;> first | exact (by first | (refine og rfl ?_; (first | assumption | (refine gd ?_ ?_ <;> assumption) | (refine gd rfl ?_; assumption) | (apply gl; assumption) | (refine gd (by apply gl; assumption) ?_; assumption) | (simp_all; done))) | exact od rfl) | omega | exact (by first | exact fit64 (by omega) (by omega) | exact fit32 (by omega) (by omega) | exact fit8 (by omega) (by omega)))
     case hx => rfl
     case hd => rfl)
  | (refine al_last (by kernel_rfl) ?_)
  | (apply al_freezeF 0 rfl
     case hz => repeat' (first | exact fzf_nil | apply fzf_cons | exact fz_here | apply fz_agg | apply fz_tup | exact fz_keep | exact fzl_nil | apply fzl_cons | fail))
  | fail)
  exact ⟨_, [], (by first | exact res1 rfl rfl | exact res2 rfl rfl rfl | exact res3 rfl rfl rfl rfl | exact res0 rfl | fail), List.nil_sublist _, Sub.refl _, rfl⟩
theorem f_ref02Shown (r : Int) : AP Tryd.prog tab0 39 [R r] (B (shown r)) := by
  refine af_intro Tryd.func39 rfl (by decide) Tryd.ntmps39 rfl ?_
  repeat' (first
  | fail
  | refine aw_seq ?_
    | refine aw_region0 ?_
    | refine al_nil ?_
    | refine th_n ?_
    | refine th_e ?_
    | refine th_r ?_
    | refine ib_n ?_
    | refine ib_e rfl ?_
    | refine ib_e' rfl ?_
    | refine ib_r ?_
    | refine aw_block ?_
    | refine aw_exit ?_
    | refine aw_ret ?_
    | refine aw_skip ?_
    | refine aw_region1 (by kernel_rfl) (by kernel_rfl) ?_
    | (refine aw_cond rfl ?_ ?_ <;> intro hb <;> (try simp only [decide_eq_true_eq, decide_eq_false_iff_not, Bool.and_eq_true, Bool.or_eq_true, Bool.not_eq_true', Bool.and_eq_false_iff, Bool.or_eq_false_iff, Bool.not_eq_false'] at hb) <;> (first | (exfalso; omega) | skip))
  | (refine al_es rfl (ao_box rfl (by first | exact od rfl | exact og rfl (by assumption)) (by first | exact ca_agg | exact ca_v rfl | exact ca_sl)) rfl rfl (fun _ _ h => h.elim) ?_; rintro _ _ ⟨bb, rfl, rfl⟩)
  | (refine al_es rfl (ao_empty rfl un_ el_) rfl rfl (fun _ _ h => h.elim) ?_; rintro _ _ ⟨u, rfl, rfl⟩)
  | (refine al_es rfl (ao_append 0 rfl un_ el_ (by first | exact od rfl | exact og rfl (by assumption)) rfl (by first | exact od rfl | exact og rfl (by assumption)) ?h1 ?h2) rfl rfl (fun _ _ h => h.elim) ?_
     case h1 => (try simp only [List.length_append, List.length_nil, List.length_cons, List.nil_append, List.length_replicate, List.length_set]); omega
     case h2 => (try simp only [List.length_append, List.length_nil, List.length_cons, List.nil_append, List.length_replicate, List.length_set]); simp only [maxLen]; omega
     rintro _ _ ⟨u, rfl, rfl⟩)
  | (apply al_y
     case hy =>
      first
      | apply qy_plain rfl
      | apply qy_run rfl rfl (guard_b rfl) rfl
      | exact qy_skip rfl rfl (guard_b rfl) rfl
      | (apply qy_gv rfl rfl (by first | exact guard_b rfl | exact guard_gv rfl); intro hk; have hk2 := hk; (try simp only [Bool.true_and, Bool.and_eq_true, Bool.or_eq_true, beq_iff_eq, decide_eq_true_eq, decide_eq_false_iff_not, Bool.not_eq_true', Bool.not_eq_false', Bool.and_eq_false_iff, Bool.or_eq_false_iff] at hk2))
      first
      | fail
      | ((first | apply ay_move rfl | apply ay_assign rfl | apply ay_not rfl | apply ay_lss rfl | apply ay_leq rfl | apply ay_gtr rfl | apply ay_geq rfl | apply k_eql rfl | apply k_neq rfl | apply ay_and rfl | apply ay_or rfl | apply ay_call rfl | apply k_len rfl | apply k_ix rfl | apply k_ld rfl | apply k_fa rfl | apply k_fd rfl | apply ay_build rfl st_ | apply ay_extract rfl | apply ay_slice rfl un_ el_ | apply bs_cell1 rfl un_ | apply bs_cell2 rfl un_ | apply kn_add rfl | apply kn_sub rfl | apply kn_mul rfl | apply kn_quo rfl | apply kn_rem rfl)
       <;> (repeat' (
        first
        | ((first | refine og rfl ?_ | refine ogn rfl ?_); (first | assumption | (refine gd ?_ ?_ <;> assumption) | (refine gd rfl ?_; assumption) | (apply gl; assumption) | (refine gd (by apply gl; assumption) ?_; assumption) | (simp_all; done))) | exact odln rfl (by with_reducible rfl) | exact odn rfl | exact od rfl
        | exact f_glyphIs _ | exact f_ref01Is _
        | exact un_ | exact el_ | exact agg_ | exact sz_ | exact sp_ | exact fl_ | exact st_
        | exact nk_sl un_ | exact nk_row 0 un_ rfl | exact ik_sl un_ el_ (List.getElem?_eq_getElem (by first | omega | (simp; omega))) | exact lk_el el_ | exact lk_1 agg_ | exact ak_ip fl_ sp_ | exact dk_1 fl_ agg_ rfl
        | exact lk_v1 0 agg_ rfl rfl | exact lk_v1 1 agg_ rfl rfl | exact lk_vn 0 agg_ sz_ rfl rfl | exact ak_var fl_ sp_
        | fail
        | exact ek_int | exact ek_bool un_ | exact ek_cell
        | exact fit64 (by omega) (by omega) | exact fit32 (by omega) (by omega) | exact fit8 (by omega) (by omega)
        | exact pa_nil | apply pk | exact ca_agg | exact ca_v rfl | exact ca_sl | exact sc_0 | apply SetC.here | apply SetC.next
        | exact opds0 | apply opds1 | exact lo_none | apply lo_k | exact hi_none | apply hi_k
        | exact rfl | omega | intro hp)); done)
      | ((first | apply ay_add rfl | apply ay_sub rfl | apply ay_mul rfl | apply ay_quo rfl | apply ay_rem rfl)
       <;> first | exact (by first | (refine og rfl ?_; (first | assumption | (refine gd ?_ ?_ <;> assumption) | (refine gd rfl ?_; assumption) | (apply gl; assumption) | (refine gd (by apply gl; assumption) ?_; assumption) | (simp_all; done))) | exact od rfl) | omega | exact (by first | exact fit64 (by omega) (by omega) | exact fit32 (by omega) (by omega) | exact fit8 (by omega) (by omega)))
     case hx => rfl
     case hd => rfl)
  | (refine al_last (by kernel_rfl) ?_)
  | (apply al_freezeF 0 rfl
     case hz => repeat' (first | exact fzf_nil | apply fzf_cons | exact fz_here | apply fz_agg | apply fz_tup | exact fz_keep | exact fzl_nil | apply fzl_cons | fail))
  | fail)
  refine ⟨_, [], (by first | exact res1 rfl rfl | exact res2 rfl rfl rfl | exact res3 rfl rfl rfl rfl | exact res0 rfl | fail), List.nil_sublist _, Sub.eq (congrArg B ?_), rfl⟩
  rw [Bool.eq_iff_iff]; simp [shown]
theorem f_ref02Wide (r : Int) : AP Tryd.prog tab0 40 [R r] (B (isW r)) := by
  refine af_intro Tryd.func40 rfl (by decide) Tryd.ntmps40 rfl ?_
  repeat' (first
  | fail
  | refine aw_seq ?_
    | refine aw_region0 ?_
    | refine al_nil ?_
    | refine th_n ?_
    | refine th_e ?_
    | refine th_r ?_
    | refine ib_n ?_
    | refine ib_e rfl ?_
    | refine ib_e' rfl ?_
    | refine ib_r ?_
    | refine aw_block ?_
    | refine aw_exit ?_
    | refine aw_ret ?_
    | refine aw_skip ?_
    | refine aw_region1 (by kernel_rfl) (by kernel_rfl) ?_
    | (refine aw_cond rfl ?_ ?_ <;> intro hb <;> (try simp only [decide_eq_true_eq, decide_eq_false_iff_not, Bool.and_eq_true, Bool.or_eq_true, Bool.not_eq_true', Bool.and_eq_false_iff, Bool.or_eq_false_iff, Bool.not_eq_false'] at hb) <;> (first | (exfalso; omega) | skip))
  | (refine al_es rfl (ao_box rfl (by first | exact od rfl | exact og rfl (by assumption)) (by first | exact ca_agg | exact ca_v rfl | exact ca_sl)) rfl rfl (fun _ _ h => h.elim) ?_; rintro _ _ ⟨bb, rfl, rfl⟩)
  | (refine al_es rfl (ao_empty rfl un_ el_) rfl rfl (fun _ _ h => h.elim) ?_; rintro _ _ ⟨u, rfl, rfl⟩)
  | (refine al_es rfl (ao_append 0 rfl un_ el_ (by first | exact od rfl | exact og rfl (by assumption)) rfl (by first | exact od rfl | exact og rfl (by assumption)) ?h1 ?h2) rfl rfl (fun _ _ h => h.elim) ?_
     case h1 => (try simp only [List.length_append, List.length_nil, List.length_cons, List.nil_append, List.length_replicate, List.length_set]); omega
     case h2 => (try simp only [List.length_append, List.length_nil, List.length_cons, List.nil_append, List.length_replicate, List.length_set]); simp only [maxLen]; omega
     rintro _ _ ⟨u, rfl, rfl⟩)
  | (apply al_y
     case hy =>
      first
      | apply qy_plain rfl
      | apply qy_run rfl rfl (guard_b rfl) rfl
      | exact qy_skip rfl rfl (guard_b rfl) rfl
      | (apply qy_gv rfl rfl (by first | exact guard_b rfl | exact guard_gv rfl); intro hk; have hk2 := hk; (try simp only [Bool.true_and, Bool.and_eq_true, Bool.or_eq_true, beq_iff_eq, decide_eq_true_eq, decide_eq_false_iff_not, Bool.not_eq_true', Bool.not_eq_false', Bool.and_eq_false_iff, Bool.or_eq_false_iff] at hk2))
      first
      | fail
      | ((first | apply ay_move rfl | apply ay_assign rfl | apply ay_not rfl | apply ay_lss rfl | apply ay_leq rfl | apply ay_gtr rfl | apply ay_geq rfl | apply k_eql rfl | apply k_neq rfl | apply ay_and rfl | apply ay_or rfl | apply ay_call rfl | apply k_len rfl | apply k_ix rfl | apply k_ld rfl | apply k_fa rfl | apply k_fd rfl | apply ay_build rfl st_ | apply ay_extract rfl | apply ay_slice rfl un_ el_ | apply bs_cell1 rfl un_ | apply bs_cell2 rfl un_ | apply kn_add rfl | apply kn_sub rfl | apply kn_mul rfl | apply kn_quo rfl | apply kn_rem rfl)
       <;> (repeat' (
        first
        | ((first | refine og rfl ?_ | refine ogn rfl ?_); (first | assumption | (refine gd ?_ ?_ <;> assumption) | (refine gd rfl ?_; assumption) | (apply gl; assumption) | (refine gd (by apply gl; assumption) ?_; assumption) | (simp_all; done))) | exact odln rfl (by with_reducible rfl) | exact odn rfl | exact od rfl
        | exact f_glyphIs _ | exact f_ref01Is _
        | exact un_ | exact el_ | exact agg_ | exact sz_ | exact sp_ | exact fl_ | exact st_
        | exact nk_sl un_ | exact nk_row 0 un_ rfl | exact ik_sl un_ el_ (List.getElem?_eq_getElem (by first | omega | (simp; omega))) | exact lk_el el_ | exact lk_1 agg_ | exact ak_ip fl_ sp_ | exact dk_1 fl_ agg_ rfl
        | exact lk_v1 0 agg_ rfl rfl | exact lk_v1 1 agg_ rfl rfl | exact lk_vn 0 agg_ sz_ rfl rfl | exact ak_var fl_ sp_
        | fail
        | exact ek_int | exact ek_bool un_ | exact ek_cell
        | exact fit64 (by omega) (by omega) | exact fit32 (by omega) (by omega) | exact fit8 (by omega) (by omega)
        | exact pa_nil | apply pk | exact ca_agg | exact ca_v rfl | exact ca_sl | exact sc_0 | apply SetC.here | apply SetC.next
        | exact opds0 | apply opds1 | exact lo_none | apply lo_k | exact hi_none | apply hi_k
        | exact rfl | omega | intro hp)); done)
      | ((first | apply ay_add rfl | apply ay_sub rfl | apply ay_mul rfl | apply ay_quo rfl | apply ay_rem rfl)
       <;> first | exact (by first | (refine og rfl ?_; (first | assumption | (refine gd ?_ ?_ <;> assumption) | (refine gd rfl ?_; assumption) | (apply gl; assumption) | (refine gd (by apply gl; assumption) ?_; assumption) | (simp_all; done))) | exact od rfl) | omega | exact (by first | exact fit64 (by omega) (by omega) | exact fit32 (by omega) (by omega) | exact fit8 (by omega) (by omega)))
     case hx => rfl
     case hd => rfl)
  | (refine al_last (by kernel_rfl) ?_)
  | (apply al_freezeF 0 rfl
     case hz => repeat' (first | exact fzf_nil | apply fzf_cons | exact fz_here | apply fz_agg | apply fz_tup | exact fz_keep | exact fzl_nil | apply fzl_cons | fail))
  | fail)
  refine ⟨_, [], (by first | exact res1 rfl rfl | exact res2 rfl rfl rfl | exact res3 rfl rfl rfl rfl | exact res0 rfl | fail), List.nil_sublist _, Sub.eq (congrArg B ?_), rfl⟩
  rw [Bool.eq_iff_iff]; simp [isW, spansL]; omega
end Go.Proofs.YthlikicgikoilaaDoor
