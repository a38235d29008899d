/- Layer 4 (flow): the example, and the first laws. No condition. -/
import Derived.Test.YtdnoealpchehlaaDoorFA
namespace Go.Proofs.YtdnoealpchehlaaDoor
set_option linter.unusedSimpArgs false
set_option linter.unusedVariables false
open Go Go.RowKit
attribute [local irreducible] AW AL AO QY Opd OpdN vA gvA tupA aggA slA slcA ipA rpA EqK LnK IxK LdK FaK FdK
set_option maxRecDepth 100000

set_option maxHeartbeats 2000000 in
theorem f_flows : AP Tryd.prog tab0 30 [] (B true) := by
  have c1 : AP Tryd.prog tab0 31 [I 3, I 0, slA i32T [97, 97, 20013, 98]] (tupA [slA i64T [0, 1, 3, 5], I 6, I 0]) := (f_Lay 3 0 [97, 97, 20013, 98]).to (congrArg lay3 (show layR 3 0 [97, 97, 20013, 98] = ([0, 1, 3, 5], 6, 0) by decide))
  have c2 : AP Tryd.prog tab0 34 [I 3, I 2, slA i32T [20013]] (tupA [slA cellT [(32, 0), (20013, 1), (20013, 2)], I 0]) := (f_flowCells 3 2 [20013]).to (congrArg cells2 (show cellsR 3 2 [20013] = ([(32, 0), (20013, 1), (20013, 2)], 0) by decide))
  have c3 : AP Tryd.prog tab0 28 [I 3, I 5, R 97] (tupA [I 5, I 6, I 0]) := (f_Next 3 5 97).to (congrArg next3 (show nextM 3 5 97 = (5, 6, 0) by decide))
  have c4 : AP Tryd.prog tab0 28 [I 1, I (-1), R 97] (tupA [I 0, I 0, I 4]) := (f_Next 1 (-1) 97).to (congrArg next3 (show nextM 1 (-1) 97 = (0, 0, 4) by decide))
  have c5 : AP Tryd.prog tab0 28 [I 3, I 10000, R 97] (tupA [I 0, I 0, I 1]) := (f_Next 3 10000 97).to (congrArg next3 (show nextM 3 10000 97 = (0, 0, 1) by decide))
  have c6 := (f_ref04Same [0, 1, 3, 5] [0, 1, 3, 5]).to (A' := B true) (congrArg B (by decide))
  have c7 := (f_ref02Same [(32, 0), (20013, 1), (20013, 2)] [(32, 0), (20013, 1), (20013, 2)]).to (A' := B true) (congrArg B (by decide))
  refine af_intro Tryd.func30 rfl (by decide) Tryd.ntmps30 rfl ?_
  repeat' (first
  | fail
  | refine aw_seq ?_
    | refine aw_region0 ?_
    | refine al_nil ?_
    | refine th_n ?_
    | refine th_e ?_
    | refine th_r ?_
    | refine ib_n ?_
    | refine ib_e rfl ?_
    | refine ib_e' rfl ?_
    | refine ib_r ?_
    | refine aw_block ?_
    | refine aw_exit ?_
    | refine aw_ret ?_
    | refine aw_skip ?_
    | refine aw_region1 (by kernel_rfl) (by kernel_rfl) ?_
    | (refine aw_cond rfl ?_ ?_ <;> intro hb <;> (try simp only [decide_eq_true_eq, decide_eq_false_iff_not, Bool.and_eq_true, Bool.or_eq_true, Bool.not_eq_true', Bool.and_eq_false_iff, Bool.or_eq_false_iff, Bool.not_eq_false'] at hb) <;> (first | (exfalso; omega) | skip))
  | (refine al_es rfl (ao_box rfl (by first | exact od rfl | exact og rfl (by assumption)) (by first | exact ca_agg | exact ca_v rfl | exact ca_sl)) rfl rfl (fun _ _ h => h.elim) ?_; rintro _ _ ⟨bb, rfl, rfl⟩)
  | (refine al_es rfl (ao_empty rfl un_ el_) rfl rfl (fun _ _ h => h.elim) ?_; rintro _ _ ⟨u, rfl, rfl⟩)
  | (refine al_es rfl (ao_append 0 rfl un_ el_ (by first | exact od rfl | exact og rfl (by assumption)) rfl (by first | exact od rfl | exact og rfl (by assumption)) (by omega) (by simp only [maxLen]; omega)) rfl rfl (fun _ _ h => h.elim) ?_; rintro _ _ ⟨u, rfl, rfl⟩)
  | (apply al_y
     case hy =>
      first
      | apply qy_plain rfl
      | apply qy_run rfl rfl (guard_b rfl) rfl
      | exact qy_skip rfl rfl (guard_b rfl) rfl
      | (apply qy_gv rfl rfl (by first | exact guard_b rfl | exact guard_gv rfl); intro hk; have hk2 := hk; (try simp only [Bool.true_and, Bool.and_eq_true, Bool.or_eq_true, beq_iff_eq, decide_eq_true_eq, decide_eq_false_iff_not, Bool.not_eq_true', Bool.not_eq_false', Bool.and_eq_false_iff, Bool.or_eq_false_iff] at hk2))
      first
      | exact AY.sub (ay_buildSlice (T := i32T) [97, 97, 20013, 98] rfl un_runes el_i32 rfl (by decide) ⟨_, (by repeat' (first | exact pa_nil | apply pa_any (by first | (refine og rfl ?_; (first | assumption | (refine gd ?_ ?_ <;> assumption) | (refine gd rfl ?_; assumption) | (apply gl; assumption) | (refine gd (by apply gl; assumption) ?_; assumption) | (simp_all; done))) | exact od rfl) (by first | exact ca_agg | exact ca_v rfl | exact ca_sl | fail) rfl rfl | fail)), rfl⟩) sub_slc
        | exact AY.sub (ay_buildSlice (T := i32T) [20013] rfl un_runes el_i32 rfl (by decide) ⟨_, (by repeat' (first | exact pa_nil | apply pa_any (by first | (refine og rfl ?_; (first | assumption | (refine gd ?_ ?_ <;> assumption) | (refine gd rfl ?_; assumption) | (apply gl; assumption) | (refine gd (by apply gl; assumption) ?_; assumption) | (simp_all; done))) | exact od rfl) (by first | exact ca_agg | exact ca_v rfl | exact ca_sl | fail) rfl rfl | fail)), rfl⟩) sub_slc
        | exact AY.sub (ay_buildSlice (T := i64T) [0, 1, 3, 5] rfl un_ints el_int rfl (by decide) ⟨_, (by repeat' (first | exact pa_nil | apply pa_any (by first | (refine og rfl ?_; (first | assumption | (refine gd ?_ ?_ <;> assumption) | (refine gd rfl ?_; assumption) | (apply gl; assumption) | (refine gd (by apply gl; assumption) ?_; assumption) | (simp_all; done))) | exact od rfl) (by first | exact ca_agg | exact ca_v rfl | exact ca_sl | fail) rfl rfl | fail)), rfl⟩) sub_slc
        | exact AY.sub (ay_buildSlice (T := cellT) [(32, 0), (20013, 1), (20013, 2)] rfl un_cells el_cell rfl (by decide) ⟨_, (by repeat' (first | exact pa_nil | apply pa_any (by first | (refine og rfl ?_; (first | assumption | (refine gd ?_ ?_ <;> assumption) | (refine gd rfl ?_; assumption) | (apply gl; assumption) | (refine gd (by apply gl; assumption) ?_; assumption) | (simp_all; done))) | exact od rfl) (by first | exact ca_agg | exact ca_v rfl | exact ca_sl | fail) rfl rfl | fail)), rfl⟩) sub_slc
      | ((first | apply ay_move rfl | apply ay_assign rfl | apply ay_not rfl | apply ay_lss rfl | apply ay_leq rfl | apply ay_gtr rfl | apply ay_geq rfl | apply k_eql rfl | apply k_neq rfl | apply ay_and rfl | apply ay_or rfl | apply ay_call rfl | apply k_len rfl | apply k_ix rfl | apply k_ld rfl | apply k_fa rfl | apply k_fd rfl | apply ay_build rfl st_ | apply ay_extract rfl | apply ay_slice rfl un_ el_ | apply bs_cell1 rfl un_ | apply bs_cell2 rfl un_ | apply kn_add rfl | apply kn_sub rfl | apply kn_mul rfl | apply kn_quo rfl | apply kn_rem rfl)
       <;> (repeat' (
        first
        | ((first | refine og rfl ?_ | refine ogn rfl ?_); (first | assumption | (refine gd ?_ ?_ <;> assumption) | (refine gd rfl ?_; assumption) | (apply gl; assumption) | (refine gd (by apply gl; assumption) ?_; assumption) | (simp_all; done))) | exact odln rfl (by with_reducible rfl) | exact odn rfl | exact od rfl
        | exact c1 | exact c2 | exact c3 | exact c4 | exact c5 | exact c6 | exact c7
        | exact un_ | exact el_ | exact agg_ | exact sz_ | exact sp_ | exact fl_ | exact st_
        | exact nk_sl un_ | exact nk_row 0 un_ rfl | exact ik_sl un_ el_ (List.getElem?_eq_getElem (by first | omega | (simp; omega))) | exact lk_el el_ | exact lk_1 agg_ | exact ak_ip fl_ sp_ | exact dk_1 fl_ agg_ rfl
        | exact lk_v1 0 agg_ rfl rfl | exact lk_v1 1 agg_ rfl rfl | exact lk_vn 0 agg_ sz_ rfl rfl | exact ak_var fl_ sp_
        | fail
        | exact ek_int | exact ek_bool un_ | exact ek_cell
        | exact fit64 (by omega) (by omega) | exact fit32 (by omega) (by omega) | exact fit8 (by omega) (by omega)
        | exact pa_nil | apply pk | exact ca_agg | exact ca_v rfl | exact ca_sl | exact sc_0 | apply SetC.here | apply SetC.next
        | exact opds0 | apply opds1 | exact lo_none | apply lo_k | exact hi_none | apply hi_k
        | exact rfl | omega | intro hp)); done)
      | ((first | apply ay_add rfl | apply ay_sub rfl | apply ay_mul rfl | apply ay_quo rfl | apply ay_rem rfl)
       <;> first | exact (by first | (refine og rfl ?_; (first | assumption | (refine gd ?_ ?_ <;> assumption) | (refine gd rfl ?_; assumption) | (apply gl; assumption) | (refine gd (by apply gl; assumption) ?_; assumption) | (simp_all; done))) | exact od rfl) | omega | exact (by first | exact fit64 (by omega) (by omega) | exact fit32 (by omega) (by omega) | exact fit8 (by omega) (by omega)))
     case hx => rfl
     case hd => rfl)
  | (refine al_last (by kernel_rfl) ?_)
  | (apply al_freezeF 0 rfl
     case hz => repeat' (first | exact fzf_nil | apply fzf_cons | exact fz_here | apply fz_agg | apply fz_tup | exact fz_keep | exact fzl_nil | apply fzl_cons | fail))
  | fail)
  exact ⟨_, [], (by first | exact res1 rfl rfl | exact res2 rfl rfl rfl | exact res3 rfl rfl rfl rfl | exact res0 rfl | fail), List.nil_sublist _, (by first | exact Sub.refl _ | exact sub_slc | (refine sub_tup ?_; repeat' (first | exact subl0 | refine subl1 (by first | exact Sub.refl _ | exact sub_slc | fail) ?_ | fail)) | fail), rfl⟩
end Go.Proofs.YtdnoealpchehlaaDoor
