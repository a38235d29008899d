/- Layer 3 (grid): the reference's new grid, its cell, and sameness. No condition. -/
import Derived.Test.YthlikicgikoilaaDoorG6
namespace Go.Proofs.YthlikicgikoilaaDoor
set_option linter.unusedSimpArgs false
set_option linter.unusedVariables false
open Go Go.RowKit
attribute [local irreducible] AW AL AO QY varO rowO rsA Opd OpdN vA gvA tupA aggA slA slcA ipA rpA EqK LnK IxK LdK FaK FdK
set_option maxRecDepth 100000
theorem f_ref03At (w h : Int) (l : List Cell) (hl : l.length ≤ 3000) (x y : Int) : AP Tryd.prog tab0 14 [gridA w h l, I x, I y] (at2 (atR w h l x y)) := by
  by_cases hc : okG w h l = true ∧ 0 ≤ x ∧ x < w ∧ 0 ≤ y ∧ y < h
  · have hc' := hc
    obtain ⟨hok, x1, x2, y1, y2⟩ := hc
    obtain ⟨w, h, rfl, rfl, h1, h2, h3, h4, hlen, _⟩ := okG_nat hok
    obtain ⟨x, rfl⟩ := Int.eq_ofNat_of_zero_le x1
    obtain ⟨y, rfl⟩ := Int.eq_ofNat_of_zero_le y1
    have hp := cell_pos (show x < w by omega) (show y < h by omega)
    have hb := side_le h2 h4
    have m3 : (0 : Int) ≤ ((y * w : Nat) : Int) := Int.natCast_nonneg _
    have hat := c_in (l := l) (i := y * w + x) (by omega)
    refine af_intro Tryd.func14 rfl (by decide) Tryd.ntmps14 rfl ?_
    repeat' (first
    | fail
    | refine aw_seq ?_
      | refine aw_region0 ?_
      | refine al_nil ?_
      | refine th_n ?_
      | refine th_e ?_
      | refine th_r ?_
      | refine ib_n ?_
      | refine ib_e rfl ?_
      | refine ib_e' rfl ?_
      | refine ib_r ?_
      | refine aw_block ?_
      | refine aw_exit ?_
      | refine aw_ret ?_
      | refine aw_skip ?_
      | refine aw_region1 (by kernel_rfl) (by kernel_rfl) ?_
      | (refine aw_cond rfl ?_ ?_ <;> intro hb <;> (try simp only [decide_eq_true_eq, decide_eq_false_iff_not, Bool.and_eq_true, Bool.or_eq_true, Bool.not_eq_true', Bool.and_eq_false_iff, Bool.or_eq_false_iff, Bool.not_eq_false'] at hb) <;> (first | (exfalso; omega) | skip))
    | (apply al_y
       case hy =>
        first
        | apply qy_plain rfl
        | apply qy_run rfl rfl (guard_b rfl) rfl
        | exact qy_skip rfl rfl (guard_b rfl) rfl
        | (apply qy_gv rfl rfl (by first | exact guard_b rfl | exact guard_gv rfl); intro hk; have hk2 := hk; (try simp only [Bool.true_and, Bool.and_eq_true, Bool.or_eq_true, beq_iff_eq, decide_eq_true_eq, decide_eq_false_iff_not, Bool.not_eq_true', Bool.not_eq_false', Bool.and_eq_false_iff, Bool.or_eq_false_iff] at hk2))
        first
        | fail
        | ((first | apply ay_move rfl | apply ay_assign rfl | apply ay_not rfl | apply ay_lss rfl | apply ay_leq rfl | apply ay_gtr rfl | apply ay_geq rfl | apply k_eql rfl | apply k_neq rfl | apply ay_and rfl | apply ay_or rfl | apply ay_call rfl | apply k_len rfl | apply k_ix rfl | apply k_ld rfl | apply k_fa rfl | apply k_fd rfl | apply ay_build rfl st_ | apply ay_extract rfl | apply ay_slice rfl un_ el_ | apply bs_cell1 rfl un_ | apply bs_cell2 rfl un_ | apply kn_add rfl | apply kn_sub rfl | apply kn_mul rfl | apply kn_quo rfl | apply kn_rem rfl | apply kn_min rfl)
         <;> (repeat' (
          first
          | ((first | refine og rfl ?_ | refine ogn rfl ?_); (first | assumption | (refine gd ?_ ?_ <;> assumption) | (refine gd rfl ?_; assumption) | (apply gl; assumption) | (refine gd (by apply gl; assumption) ?_; assumption))) | exact odln rfl (by with_reducible rfl) | exact odn rfl | exact od rfl
          | exact f_in _ _ _ _ _ hl
          | exact un_ | exact el_ | exact agg_ | exact sz_ | exact sp_ | exact fl_ | exact st_ | exact List.Mem.head _ | apply List.Mem.tail | exact SubC.nil | apply SubC.here | apply SubC.next
          | exact nk_sl un_ | apply mk_len un_ | exact nk_sub un_ | apply ik_sl un_ el_ | apply mk_ix un_ el_ | apply ik_sub un_ el_
          | exact lk_el el_ | exact lk_1 agg_ | apply v1_ | apply vn_ | apply mk_r el_ | apply r1_
          | exact ak_ip fl_ sp_ | exact ak_var fl_ sp_ | exact ak_row fl_ sp_ | exact dk_1 fl_ agg_ rfl | apply fn_
          | exact ek_int | exact ek_bool un_ | exact ek_cell
          | exact fit64 (by omega) (by omega) | exact fit32 (by omega) (by omega) | exact fit8 (by omega) (by omega)
          | exact pa_nil | apply pk | exact ca_agg | exact ca_v rfl | exact ca_v (by assumption) | exact ca_sl | exact sc_0 | apply SetC.here | apply SetC.next
          | exact opds0 | apply opds1 | exact lo_none | apply lo_k | exact hi_none | apply hi_k
          | exact rfl | omega | exact (by first | exact hat | exact c_in (by first | omega | (simp only [List.length_append, List.length_nil, List.length_cons, List.nil_append, List.length_replicate, List.length_set]; omega)) | exact List.getElem?_eq_getElem (by first | omega | (simp only [List.length_append, List.length_nil, List.length_cons, List.nil_append, List.length_replicate, List.length_set]; omega))) | (simp only [List.length_append, List.length_nil, List.length_cons, List.nil_append, List.length_replicate, List.length_set]; omega) | intro hp)); done)
        | (refine my_slice rfl un_ el_ (by first | exact od rfl | exact og rfl (by assumption)) (by repeat' (first | exact List.Mem.head _ | apply List.Mem.tail)) (by first | exact odln rfl (by with_reducible rfl) | exact odn rfl | exact ogn rfl (by assumption)) (by first | exact odln rfl (by with_reducible rfl) | exact odn rfl | exact ogn rfl (by assumption)) (by first | omega | (simp only [List.length_append, List.length_nil, List.length_cons, List.nil_append, List.length_replicate, List.length_set]; omega)) (by first | omega | (simp only [List.length_append, List.length_nil, List.length_cons, List.nil_append, List.length_replicate, List.length_set]; omega)))
        | ((first | apply ay_add rfl | apply ay_sub rfl | apply ay_mul rfl | apply ay_quo rfl | apply ay_rem rfl)
         <;> first | exact (by first | (refine og rfl ?_; (first | assumption | (refine gd ?_ ?_ <;> assumption) | (refine gd rfl ?_; assumption) | (apply gl; assumption) | (refine gd (by apply gl; assumption) ?_; assumption))) | exact od rfl) | omega | exact (by first | exact fit64 (by omega) (by omega) | exact fit32 (by omega) (by omega) | exact fit8 (by omega) (by omega)))
       case hx => rfl
       case hd => rfl)
    | (refine al_alloc rfl rfl rfl rfl al_ ?_; intro bb)
      | (refine al_box rfl rfl rfl rfl (by first | exact od rfl | exact og rfl (by assumption)) (by first | exact ca_agg | exact ca_v rfl | exact ca_v (by assumption) | exact ca_sl | exact ca_slc) ?_; intro bb)
      | (refine al_store_var rfl rfl rfl sz_ (by first | exact od rfl | exact og rfl (by assumption)) (by first | exact od rfl | exact og rfl (by assumption)) (by first | exact ca_agg | exact ca_v rfl | exact ca_v (by assumption) | exact ca_sl | exact ca_slc) rfl (by repeat' (first | exact ones0 | apply ones1 | exact one_v rfl | exact one_v (by assumption) | exact one_sl | exact one_slc)) (by repeat' (first | exact UpdF.here | apply UpdF.next)) (by repeat' (first | exact sc_0 | apply SetC.here | apply SetC.next)) ?_)
      | (refine al_store_row rfl rfl rfl el_ (by first | exact od rfl | exact og rfl (by assumption)) (by first | exact od rfl | exact og rfl (by assumption)) (by repeat' (first | exact UpdF.here | apply UpdF.next)) (by first | omega | (simp only [List.length_append, List.length_nil, List.length_cons, List.nil_append, List.length_replicate, List.length_set]; omega)) (by first | exact ca_cell | exact ca_v (by rfl)) ?_)
      | (refine al_empty rfl rfl rfl rfl un_ el_ ?_; intro u hu1 hu2)
      | (refine al_make rfl rfl rfl rfl un_ el_ (by first | exact odln rfl (by with_reducible rfl) | exact odn rfl | exact ogn rfl (by assumption)) (by first | exact odln rfl (by with_reducible rfl) | exact odn rfl | exact ogn rfl (by assumption)) (by omega) (by simp only [maxLen]; omega) ?_; intro u hu1 hu2)
      | (refine al_append rfl rfl rfl rfl un_ el_ (by first | exact od rfl | exact og rfl (by assumption)) (by first | exact od rfl | exact og rfl (by assumption)) (by repeat' (first | exact UpdF.here | apply UpdF.next)) ?h1 ?h2 ?_
         case h1 => (try simp only [List.length_append, List.length_nil, List.length_cons, List.nil_append, List.length_replicate, List.length_set]); omega
         case h2 => (try simp only [List.length_append, List.length_nil, List.length_cons, List.nil_append, List.length_replicate, List.length_set]); simp only [maxLen]; omega
         intro u hu1 hu2)
      | (refine al_copy_row rfl rfl rfl rfl un_ el_ (by first | exact od rfl | exact og rfl (by assumption)) (by first | exact od rfl | exact og rfl (by assumption)) (by repeat' (first | exact UpdF.here | apply UpdF.next)) ?_)
      | (refine al_copy_sub rfl rfl rfl rfl un_ el_ (by first | exact od rfl | exact og rfl (by assumption)) (by first | exact od rfl | exact og rfl (by assumption)) (by repeat' (first | exact UpdF.here | apply UpdF.next)) (by first | omega | (simp only [List.length_append, List.length_nil, List.length_cons, List.nil_append, List.length_replicate, List.length_set]; omega)) ?_)
    | (refine al_last (by kernel_rfl) ?_)
    | fail)
    all_goals first | (exfalso; simp [hok] at hb; omega) | (exfalso; exact hb hc') | skip
    refine ⟨_, [], (by first | exact res1 rfl rfl | exact res2 rfl rfl rfl | exact res3 rfl rfl rfl rfl | exact res0 rfl | ((first | apply resM1 rfl rfl | apply resM2 rfl rfl rfl) <;> (repeat' (first | exact List.Mem.head _ | apply List.Mem.tail | exact agg_ | exact sz_ | rfl)); done)), List.nil_sublist _, Sub.eq ?_, rfl⟩
    simp only [at2, atR, if_pos hc', Int.toNat_natCast]; rfl
  · refine af_intro Tryd.func14 rfl (by decide) Tryd.ntmps14 rfl ?_
    repeat' (first
    | fail
    | refine aw_seq ?_
      | refine aw_region0 ?_
      | refine al_nil ?_
      | refine th_n ?_
      | refine th_e ?_
      | refine th_r ?_
      | refine ib_n ?_
      | refine ib_e rfl ?_
      | refine ib_e' rfl ?_
      | refine ib_r ?_
      | refine aw_block ?_
      | refine aw_exit ?_
      | refine aw_ret ?_
      | refine aw_skip ?_
      | refine aw_region1 (by kernel_rfl) (by kernel_rfl) ?_
      | (refine aw_cond rfl ?_ ?_ <;> intro hb <;> (try simp only [decide_eq_true_eq, decide_eq_false_iff_not, Bool.and_eq_true, Bool.or_eq_true, Bool.not_eq_true', Bool.and_eq_false_iff, Bool.or_eq_false_iff, Bool.not_eq_false'] at hb) <;> (first | (exfalso; omega) | skip))
    | (apply al_y
       case hy =>
        first
        | apply qy_plain rfl
        | apply qy_run rfl rfl (guard_b rfl) rfl
        | exact qy_skip rfl rfl (guard_b rfl) rfl
        | (apply qy_gv rfl rfl (by first | exact guard_b rfl | exact guard_gv rfl); intro hk; have hk2 := hk; (try simp only [Bool.true_and, Bool.and_eq_true, Bool.or_eq_true, beq_iff_eq, decide_eq_true_eq, decide_eq_false_iff_not, Bool.not_eq_true', Bool.not_eq_false', Bool.and_eq_false_iff, Bool.or_eq_false_iff] at hk2))
        first
        | fail
        | ((first | apply ay_move rfl | apply ay_assign rfl | apply ay_not rfl | apply ay_lss rfl | apply ay_leq rfl | apply ay_gtr rfl | apply ay_geq rfl | apply k_eql rfl | apply k_neq rfl | apply ay_and rfl | apply ay_or rfl | apply ay_call rfl | apply k_len rfl | apply k_ix rfl | apply k_ld rfl | apply k_fa rfl | apply k_fd rfl | apply ay_build rfl st_ | apply ay_extract rfl | apply ay_slice rfl un_ el_ | apply bs_cell1 rfl un_ | apply bs_cell2 rfl un_ | apply kn_add rfl | apply kn_sub rfl | apply kn_mul rfl | apply kn_quo rfl | apply kn_rem rfl | apply kn_min rfl)
         <;> (repeat' (
          first
          | ((first | refine og rfl ?_ | refine ogn rfl ?_); (first | assumption | (refine gd ?_ ?_ <;> assumption) | (refine gd rfl ?_; assumption) | (apply gl; assumption) | (refine gd (by apply gl; assumption) ?_; assumption))) | exact odln rfl (by with_reducible rfl) | exact odn rfl | exact od rfl
          | exact f_in _ _ _ _ _ hl
          | exact un_ | exact el_ | exact agg_ | exact sz_ | exact sp_ | exact fl_ | exact st_ | exact List.Mem.head _ | apply List.Mem.tail | exact SubC.nil | apply SubC.here | apply SubC.next
          | exact nk_sl un_ | apply mk_len un_ | exact nk_sub un_ | apply ik_sl un_ el_ | apply mk_ix un_ el_ | apply ik_sub un_ el_
          | exact lk_el el_ | exact lk_1 agg_ | apply v1_ | apply vn_ | apply mk_r el_ | apply r1_
          | exact ak_ip fl_ sp_ | exact ak_var fl_ sp_ | exact ak_row fl_ sp_ | exact dk_1 fl_ agg_ rfl | apply fn_
          | exact ek_int | exact ek_bool un_ | exact ek_cell
          | exact fit64 (by omega) (by omega) | exact fit32 (by omega) (by omega) | exact fit8 (by omega) (by omega)
          | exact pa_nil | apply pk | exact ca_agg | exact ca_v rfl | exact ca_v (by assumption) | exact ca_sl | exact sc_0 | apply SetC.here | apply SetC.next
          | exact opds0 | apply opds1 | exact lo_none | apply lo_k | exact hi_none | apply hi_k
          | exact rfl | omega | exact (by first | exact hat | exact c_in (by first | omega | (simp only [List.length_append, List.length_nil, List.length_cons, List.nil_append, List.length_replicate, List.length_set]; omega)) | exact List.getElem?_eq_getElem (by first | omega | (simp only [List.length_append, List.length_nil, List.length_cons, List.nil_append, List.length_replicate, List.length_set]; omega))) | (simp only [List.length_append, List.length_nil, List.length_cons, List.nil_append, List.length_replicate, List.length_set]; omega) | intro hp)); done)
        | (refine my_slice rfl un_ el_ (by first | exact od rfl | exact og rfl (by assumption)) (by repeat' (first | exact List.Mem.head _ | apply List.Mem.tail)) (by first | exact odln rfl (by with_reducible rfl) | exact odn rfl | exact ogn rfl (by assumption)) (by first | exact odln rfl (by with_reducible rfl) | exact odn rfl | exact ogn rfl (by assumption)) (by first | omega | (simp only [List.length_append, List.length_nil, List.length_cons, List.nil_append, List.length_replicate, List.length_set]; omega)) (by first | omega | (simp only [List.length_append, List.length_nil, List.length_cons, List.nil_append, List.length_replicate, List.length_set]; omega)))
        | ((first | apply ay_add rfl | apply ay_sub rfl | apply ay_mul rfl | apply ay_quo rfl | apply ay_rem rfl)
         <;> first | exact (by first | (refine og rfl ?_; (first | assumption | (refine gd ?_ ?_ <;> assumption) | (refine gd rfl ?_; assumption) | (apply gl; assumption) | (refine gd (by apply gl; assumption) ?_; assumption))) | exact od rfl) | omega | exact (by first | exact fit64 (by omega) (by omega) | exact fit32 (by omega) (by omega) | exact fit8 (by omega) (by omega)))
       case hx => rfl
       case hd => rfl)
    | (refine al_alloc rfl rfl rfl rfl al_ ?_; intro bb)
      | (refine al_box rfl rfl rfl rfl (by first | exact od rfl | exact og rfl (by assumption)) (by first | exact ca_agg | exact ca_v rfl | exact ca_v (by assumption) | exact ca_sl | exact ca_slc) ?_; intro bb)
      | (refine al_store_var rfl rfl rfl sz_ (by first | exact od rfl | exact og rfl (by assumption)) (by first | exact od rfl | exact og rfl (by assumption)) (by first | exact ca_agg | exact ca_v rfl | exact ca_v (by assumption) | exact ca_sl | exact ca_slc) rfl (by repeat' (first | exact ones0 | apply ones1 | exact one_v rfl | exact one_v (by assumption) | exact one_sl | exact one_slc)) (by repeat' (first | exact UpdF.here | apply UpdF.next)) (by repeat' (first | exact sc_0 | apply SetC.here | apply SetC.next)) ?_)
      | (refine al_store_row rfl rfl rfl el_ (by first | exact od rfl | exact og rfl (by assumption)) (by first | exact od rfl | exact og rfl (by assumption)) (by repeat' (first | exact UpdF.here | apply UpdF.next)) (by first | omega | (simp only [List.length_append, List.length_nil, List.length_cons, List.nil_append, List.length_replicate, List.length_set]; omega)) (by first | exact ca_cell | exact ca_v (by rfl)) ?_)
      | (refine al_empty rfl rfl rfl rfl un_ el_ ?_; intro u hu1 hu2)
      | (refine al_make rfl rfl rfl rfl un_ el_ (by first | exact odln rfl (by with_reducible rfl) | exact odn rfl | exact ogn rfl (by assumption)) (by first | exact odln rfl (by with_reducible rfl) | exact odn rfl | exact ogn rfl (by assumption)) (by omega) (by simp only [maxLen]; omega) ?_; intro u hu1 hu2)
      | (refine al_append rfl rfl rfl rfl un_ el_ (by first | exact od rfl | exact og rfl (by assumption)) (by first | exact od rfl | exact og rfl (by assumption)) (by repeat' (first | exact UpdF.here | apply UpdF.next)) ?h1 ?h2 ?_
         case h1 => (try simp only [List.length_append, List.length_nil, List.length_cons, List.nil_append, List.length_replicate, List.length_set]); omega
         case h2 => (try simp only [List.length_append, List.length_nil, List.length_cons, List.nil_append, List.length_replicate, List.length_set]); simp only [maxLen]; omega
         intro u hu1 hu2)
      | (refine al_copy_row rfl rfl rfl rfl un_ el_ (by first | exact od rfl | exact og rfl (by assumption)) (by first | exact od rfl | exact og rfl (by assumption)) (by repeat' (first | exact UpdF.here | apply UpdF.next)) ?_)
      | (refine al_copy_sub rfl rfl rfl rfl un_ el_ (by first | exact od rfl | exact og rfl (by assumption)) (by first | exact od rfl | exact og rfl (by assumption)) (by repeat' (first | exact UpdF.here | apply UpdF.next)) (by first | omega | (simp only [List.length_append, List.length_nil, List.length_cons, List.nil_append, List.length_replicate, List.length_set]; omega)) ?_)
    | (refine al_last (by kernel_rfl) ?_)
    | fail)
    all_goals first | (exfalso; exact hc hb) | skip
    refine ⟨_, [], (by first | exact res1 rfl rfl | exact res2 rfl rfl rfl | exact res3 rfl rfl rfl rfl | exact res0 rfl | ((first | apply resM1 rfl rfl | apply resM2 rfl rfl rfl) <;> (repeat' (first | exact List.Mem.head _ | apply List.Mem.tail | exact agg_ | exact sz_ | rfl)); done)), List.nil_sublist _, Sub.eq ?_, rfl⟩
    simp only [at2, atR, if_neg hc]; rfl
theorem f_ref03Same (w h w' h' : Int) (l l' : List Cell) : AP Tryd.prog tab0 16 [gridA w h l, gridA w' h' l'] (B (decide (w = w' ∧ h = h' ∧ l = l'))) := by
  refine af_intro Tryd.func16 rfl (by decide) Tryd.ntmps16 rfl ?_
  repeat' (first
  | fail
  | refine aw_seq ?_
    | refine aw_region0 ?_
    | refine al_nil ?_
    | refine th_n ?_
    | refine th_e ?_
    | refine th_r ?_
    | refine ib_n ?_
    | refine ib_e rfl ?_
    | refine ib_e' rfl ?_
    | refine ib_r ?_
    | refine aw_block ?_
    | refine aw_exit ?_
    | refine aw_ret ?_
    | refine aw_skip ?_
    | refine aw_region1 (by kernel_rfl) (by kernel_rfl) ?_
    | (refine aw_cond rfl ?_ ?_ <;> intro hb <;> (try simp only [decide_eq_true_eq, decide_eq_false_iff_not, Bool.and_eq_true, Bool.or_eq_true, Bool.not_eq_true', Bool.and_eq_false_iff, Bool.or_eq_false_iff, Bool.not_eq_false'] at hb) <;> (first | (exfalso; omega) | skip))
  | (apply al_y
     case hy =>
      first
      | apply qy_plain rfl
      | apply qy_run rfl rfl (guard_b rfl) rfl
      | exact qy_skip rfl rfl (guard_b rfl) rfl
      | (apply qy_gv rfl rfl (by first | exact guard_b rfl | exact guard_gv rfl); intro hk; have hk2 := hk; (try simp only [Bool.true_and, Bool.and_eq_true, Bool.or_eq_true, beq_iff_eq, decide_eq_true_eq, decide_eq_false_iff_not, Bool.not_eq_true', Bool.not_eq_false', Bool.and_eq_false_iff, Bool.or_eq_false_iff] at hk2))
      first
      | fail
      | ((first | apply ay_move rfl | apply ay_assign rfl | apply ay_not rfl | apply ay_lss rfl | apply ay_leq rfl | apply ay_gtr rfl | apply ay_geq rfl | apply k_eql rfl | apply k_neq rfl | apply ay_and rfl | apply ay_or rfl | apply ay_call rfl | apply k_len rfl | apply k_ix rfl | apply k_ld rfl | apply k_fa rfl | apply k_fd rfl | apply ay_build rfl st_ | apply ay_extract rfl | apply ay_slice rfl un_ el_ | apply bs_cell1 rfl un_ | apply bs_cell2 rfl un_ | apply kn_add rfl | apply kn_sub rfl | apply kn_mul rfl | apply kn_quo rfl | apply kn_rem rfl | apply kn_min rfl)
       <;> (repeat' (
        first
        | ((first | refine og rfl ?_ | refine ogn rfl ?_); (first | assumption | (refine gd ?_ ?_ <;> assumption) | (refine gd rfl ?_; assumption) | (apply gl; assumption) | (refine gd (by apply gl; assumption) ?_; assumption))) | exact odln rfl (by with_reducible rfl) | exact odn rfl | exact od rfl
        | exact f_ref02Same _ _
        | exact un_ | exact el_ | exact agg_ | exact sz_ | exact sp_ | exact fl_ | exact st_ | exact List.Mem.head _ | apply List.Mem.tail | exact SubC.nil | apply SubC.here | apply SubC.next
        | exact nk_sl un_ | apply mk_len un_ | exact nk_sub un_ | apply ik_sl un_ el_ | apply mk_ix un_ el_ | apply ik_sub un_ el_
        | exact lk_el el_ | exact lk_1 agg_ | apply v1_ | apply vn_ | apply mk_r el_ | apply r1_
        | exact ak_ip fl_ sp_ | exact ak_var fl_ sp_ | exact ak_row fl_ sp_ | exact dk_1 fl_ agg_ rfl | apply fn_
        | exact ek_int | exact ek_bool un_ | exact ek_cell
        | exact fit64 (by omega) (by omega) | exact fit32 (by omega) (by omega) | exact fit8 (by omega) (by omega)
        | exact pa_nil | apply pk | exact ca_agg | exact ca_v rfl | exact ca_v (by assumption) | exact ca_sl | exact sc_0 | apply SetC.here | apply SetC.next
        | exact opds0 | apply opds1 | exact lo_none | apply lo_k | exact hi_none | apply hi_k
        | exact rfl | omega | exact (by first | exact hat | exact c_in (by first | omega | (simp only [List.length_append, List.length_nil, List.length_cons, List.nil_append, List.length_replicate, List.length_set]; omega)) | exact List.getElem?_eq_getElem (by first | omega | (simp only [List.length_append, List.length_nil, List.length_cons, List.nil_append, List.length_replicate, List.length_set]; omega))) | (simp only [List.length_append, List.length_nil, List.length_cons, List.nil_append, List.length_replicate, List.length_set]; omega) | intro hp)); done)
      | (refine my_slice rfl un_ el_ (by first | exact od rfl | exact og rfl (by assumption)) (by repeat' (first | exact List.Mem.head _ | apply List.Mem.tail)) (by first | exact odln rfl (by with_reducible rfl) | exact odn rfl | exact ogn rfl (by assumption)) (by first | exact odln rfl (by with_reducible rfl) | exact odn rfl | exact ogn rfl (by assumption)) (by first | omega | (simp only [List.length_append, List.length_nil, List.length_cons, List.nil_append, List.length_replicate, List.length_set]; omega)) (by first | omega | (simp only [List.length_append, List.length_nil, List.length_cons, List.nil_append, List.length_replicate, List.length_set]; omega)))
      | ((first | apply ay_add rfl | apply ay_sub rfl | apply ay_mul rfl | apply ay_quo rfl | apply ay_rem rfl)
       <;> first | exact (by first | (refine og rfl ?_; (first | assumption | (refine gd ?_ ?_ <;> assumption) | (refine gd rfl ?_; assumption) | (apply gl; assumption) | (refine gd (by apply gl; assumption) ?_; assumption))) | exact od rfl) | omega | exact (by first | exact fit64 (by omega) (by omega) | exact fit32 (by omega) (by omega) | exact fit8 (by omega) (by omega)))
     case hx => rfl
     case hd => rfl)
  | (refine al_alloc rfl rfl rfl rfl al_ ?_; intro bb)
    | (refine al_box rfl rfl rfl rfl (by first | exact od rfl | exact og rfl (by assumption)) (by first | exact ca_agg | exact ca_v rfl | exact ca_v (by assumption) | exact ca_sl | exact ca_slc) ?_; intro bb)
    | (refine al_store_var rfl rfl rfl sz_ (by first | exact od rfl | exact og rfl (by assumption)) (by first | exact od rfl | exact og rfl (by assumption)) (by first | exact ca_agg | exact ca_v rfl | exact ca_v (by assumption) | exact ca_sl | exact ca_slc) rfl (by repeat' (first | exact ones0 | apply ones1 | exact one_v rfl | exact one_v (by assumption) | exact one_sl | exact one_slc)) (by repeat' (first | exact UpdF.here | apply UpdF.next)) (by repeat' (first | exact sc_0 | apply SetC.here | apply SetC.next)) ?_)
    | (refine al_store_row rfl rfl rfl el_ (by first | exact od rfl | exact og rfl (by assumption)) (by first | exact od rfl | exact og rfl (by assumption)) (by repeat' (first | exact UpdF.here | apply UpdF.next)) (by first | omega | (simp only [List.length_append, List.length_nil, List.length_cons, List.nil_append, List.length_replicate, List.length_set]; omega)) (by first | exact ca_cell | exact ca_v (by rfl)) ?_)
    | (refine al_empty rfl rfl rfl rfl un_ el_ ?_; intro u hu1 hu2)
    | (refine al_make rfl rfl rfl rfl un_ el_ (by first | exact odln rfl (by with_reducible rfl) | exact odn rfl | exact ogn rfl (by assumption)) (by first | exact odln rfl (by with_reducible rfl) | exact odn rfl | exact ogn rfl (by assumption)) (by omega) (by simp only [maxLen]; omega) ?_; intro u hu1 hu2)
    | (refine al_append rfl rfl rfl rfl un_ el_ (by first | exact od rfl | exact og rfl (by assumption)) (by first | exact od rfl | exact og rfl (by assumption)) (by repeat' (first | exact UpdF.here | apply UpdF.next)) ?h1 ?h2 ?_
       case h1 => (try simp only [List.length_append, List.length_nil, List.length_cons, List.nil_append, List.length_replicate, List.length_set]); omega
       case h2 => (try simp only [List.length_append, List.length_nil, List.length_cons, List.nil_append, List.length_replicate, List.length_set]); simp only [maxLen]; omega
       intro u hu1 hu2)
    | (refine al_copy_row rfl rfl rfl rfl un_ el_ (by first | exact od rfl | exact og rfl (by assumption)) (by first | exact od rfl | exact og rfl (by assumption)) (by repeat' (first | exact UpdF.here | apply UpdF.next)) ?_)
    | (refine al_copy_sub rfl rfl rfl rfl un_ el_ (by first | exact od rfl | exact og rfl (by assumption)) (by first | exact od rfl | exact og rfl (by assumption)) (by repeat' (first | exact UpdF.here | apply UpdF.next)) (by first | omega | (simp only [List.length_append, List.length_nil, List.length_cons, List.nil_append, List.length_replicate, List.length_set]; omega)) ?_)
  | (refine al_last (by kernel_rfl) ?_)
  | fail)
  refine ⟨_, [], (by first | exact res1 rfl rfl | exact res2 rfl rfl rfl | exact res3 rfl rfl rfl rfl | exact res0 rfl | ((first | apply resM1 rfl rfl | apply resM2 rfl rfl rfl) <;> (repeat' (first | exact List.Mem.head _ | apply List.Mem.tail | exact agg_ | exact sz_ | rfl)); done)), List.nil_sublist _, Sub.eq (congrArg B ?_), rfl⟩
  rw [Bool.eq_iff_iff]; simp [and_assoc]
theorem f_big (w h : Int) (l : List Cell) : AP Tryd.prog tab0 10 [gridA w h l] (B (decide ((3000 : Int) < l.length))) := by
  refine af_intro Tryd.func10 rfl (by decide) Tryd.ntmps10 rfl ?_
  repeat' (first
  | fail
  | refine aw_seq ?_
    | refine aw_region0 ?_
    | refine al_nil ?_
    | refine th_n ?_
    | refine th_e ?_
    | refine th_r ?_
    | refine ib_n ?_
    | refine ib_e rfl ?_
    | refine ib_e' rfl ?_
    | refine ib_r ?_
    | refine aw_block ?_
    | refine aw_exit ?_
    | refine aw_ret ?_
    | refine aw_skip ?_
    | refine aw_region1 (by kernel_rfl) (by kernel_rfl) ?_
    | (refine aw_cond rfl ?_ ?_ <;> intro hb <;> (try simp only [decide_eq_true_eq, decide_eq_false_iff_not, Bool.and_eq_true, Bool.or_eq_true, Bool.not_eq_true', Bool.and_eq_false_iff, Bool.or_eq_false_iff, Bool.not_eq_false'] at hb) <;> (first | (exfalso; omega) | skip))
  | (apply al_y
     case hy =>
      first
      | apply qy_plain rfl
      | apply qy_run rfl rfl (guard_b rfl) rfl
      | exact qy_skip rfl rfl (guard_b rfl) rfl
      | (apply qy_gv rfl rfl (by first | exact guard_b rfl | exact guard_gv rfl); intro hk; have hk2 := hk; (try simp only [Bool.true_and, Bool.and_eq_true, Bool.or_eq_true, beq_iff_eq, decide_eq_true_eq, decide_eq_false_iff_not, Bool.not_eq_true', Bool.not_eq_false', Bool.and_eq_false_iff, Bool.or_eq_false_iff] at hk2))
      first
      | fail
      | ((first | apply ay_move rfl | apply ay_assign rfl | apply ay_not rfl | apply ay_lss rfl | apply ay_leq rfl | apply ay_gtr rfl | apply ay_geq rfl | apply k_eql rfl | apply k_neq rfl | apply ay_and rfl | apply ay_or rfl | apply ay_call rfl | apply k_len rfl | apply k_ix rfl | apply k_ld rfl | apply k_fa rfl | apply k_fd rfl | apply ay_build rfl st_ | apply ay_extract rfl | apply ay_slice rfl un_ el_ | apply bs_cell1 rfl un_ | apply bs_cell2 rfl un_ | apply kn_add rfl | apply kn_sub rfl | apply kn_mul rfl | apply kn_quo rfl | apply kn_rem rfl | apply kn_min rfl)
       <;> (repeat' (
        first
        | ((first | refine og rfl ?_ | refine ogn rfl ?_); (first | assumption | (refine gd ?_ ?_ <;> assumption) | (refine gd rfl ?_; assumption) | (apply gl; assumption) | (refine gd (by apply gl; assumption) ?_; assumption))) | exact odln rfl (by with_reducible rfl) | exact odn rfl | exact od rfl
        | exact f_ref02Same _ _
        | exact un_ | exact el_ | exact agg_ | exact sz_ | exact sp_ | exact fl_ | exact st_ | exact List.Mem.head _ | apply List.Mem.tail | exact SubC.nil | apply SubC.here | apply SubC.next
        | exact nk_sl un_ | apply mk_len un_ | exact nk_sub un_ | apply ik_sl un_ el_ | apply mk_ix un_ el_ | apply ik_sub un_ el_
        | exact lk_el el_ | exact lk_1 agg_ | apply v1_ | apply vn_ | apply mk_r el_ | apply r1_
        | exact ak_ip fl_ sp_ | exact ak_var fl_ sp_ | exact ak_row fl_ sp_ | exact dk_1 fl_ agg_ rfl | apply fn_
        | exact ek_int | exact ek_bool un_ | exact ek_cell
        | exact fit64 (by omega) (by omega) | exact fit32 (by omega) (by omega) | exact fit8 (by omega) (by omega)
        | exact pa_nil | apply pk | exact ca_agg | exact ca_v rfl | exact ca_v (by assumption) | exact ca_sl | exact sc_0 | apply SetC.here | apply SetC.next
        | exact opds0 | apply opds1 | exact lo_none | apply lo_k | exact hi_none | apply hi_k
        | exact rfl | omega | exact (by first | exact hat | exact c_in (by first | omega | (simp only [List.length_append, List.length_nil, List.length_cons, List.nil_append, List.length_replicate, List.length_set]; omega)) | exact List.getElem?_eq_getElem (by first | omega | (simp only [List.length_append, List.length_nil, List.length_cons, List.nil_append, List.length_replicate, List.length_set]; omega))) | (simp only [List.length_append, List.length_nil, List.length_cons, List.nil_append, List.length_replicate, List.length_set]; omega) | intro hp)); done)
      | (refine my_slice rfl un_ el_ (by first | exact od rfl | exact og rfl (by assumption)) (by repeat' (first | exact List.Mem.head _ | apply List.Mem.tail)) (by first | exact odln rfl (by with_reducible rfl) | exact odn rfl | exact ogn rfl (by assumption)) (by first | exact odln rfl (by with_reducible rfl) | exact odn rfl | exact ogn rfl (by assumption)) (by first | omega | (simp only [List.length_append, List.length_nil, List.length_cons, List.nil_append, List.length_replicate, List.length_set]; omega)) (by first | omega | (simp only [List.length_append, List.length_nil, List.length_cons, List.nil_append, List.length_replicate, List.length_set]; omega)))
      | ((first | apply ay_add rfl | apply ay_sub rfl | apply ay_mul rfl | apply ay_quo rfl | apply ay_rem rfl)
       <;> first | exact (by first | (refine og rfl ?_; (first | assumption | (refine gd ?_ ?_ <;> assumption) | (refine gd rfl ?_; assumption) | (apply gl; assumption) | (refine gd (by apply gl; assumption) ?_; assumption))) | exact od rfl) | omega | exact (by first | exact fit64 (by omega) (by omega) | exact fit32 (by omega) (by omega) | exact fit8 (by omega) (by omega)))
     case hx => rfl
     case hd => rfl)
  | (refine al_alloc rfl rfl rfl rfl al_ ?_; intro bb)
    | (refine al_box rfl rfl rfl rfl (by first | exact od rfl | exact og rfl (by assumption)) (by first | exact ca_agg | exact ca_v rfl | exact ca_v (by assumption) | exact ca_sl | exact ca_slc) ?_; intro bb)
    | (refine al_store_var rfl rfl rfl sz_ (by first | exact od rfl | exact og rfl (by assumption)) (by first | exact od rfl | exact og rfl (by assumption)) (by first | exact ca_agg | exact ca_v rfl | exact ca_v (by assumption) | exact ca_sl | exact ca_slc) rfl (by repeat' (first | exact ones0 | apply ones1 | exact one_v rfl | exact one_v (by assumption) | exact one_sl | exact one_slc)) (by repeat' (first | exact UpdF.here | apply UpdF.next)) (by repeat' (first | exact sc_0 | apply SetC.here | apply SetC.next)) ?_)
    | (refine al_store_row rfl rfl rfl el_ (by first | exact od rfl | exact og rfl (by assumption)) (by first | exact od rfl | exact og rfl (by assumption)) (by repeat' (first | exact UpdF.here | apply UpdF.next)) (by first | omega | (simp only [List.length_append, List.length_nil, List.length_cons, List.nil_append, List.length_replicate, List.length_set]; omega)) (by first | exact ca_cell | exact ca_v (by rfl)) ?_)
    | (refine al_empty rfl rfl rfl rfl un_ el_ ?_; intro u hu1 hu2)
    | (refine al_make rfl rfl rfl rfl un_ el_ (by first | exact odln rfl (by with_reducible rfl) | exact odn rfl | exact ogn rfl (by assumption)) (by first | exact odln rfl (by with_reducible rfl) | exact odn rfl | exact ogn rfl (by assumption)) (by omega) (by simp only [maxLen]; omega) ?_; intro u hu1 hu2)
    | (refine al_append rfl rfl rfl rfl un_ el_ (by first | exact od rfl | exact og rfl (by assumption)) (by first | exact od rfl | exact og rfl (by assumption)) (by repeat' (first | exact UpdF.here | apply UpdF.next)) ?h1 ?h2 ?_
       case h1 => (try simp only [List.length_append, List.length_nil, List.length_cons, List.nil_append, List.length_replicate, List.length_set]); omega
       case h2 => (try simp only [List.length_append, List.length_nil, List.length_cons, List.nil_append, List.length_replicate, List.length_set]); simp only [maxLen]; omega
       intro u hu1 hu2)
    | (refine al_copy_row rfl rfl rfl rfl un_ el_ (by first | exact od rfl | exact og rfl (by assumption)) (by first | exact od rfl | exact og rfl (by assumption)) (by repeat' (first | exact UpdF.here | apply UpdF.next)) ?_)
    | (refine al_copy_sub rfl rfl rfl rfl un_ el_ (by first | exact od rfl | exact og rfl (by assumption)) (by first | exact od rfl | exact og rfl (by assumption)) (by repeat' (first | exact UpdF.here | apply UpdF.next)) (by first | omega | (simp only [List.length_append, List.length_nil, List.length_cons, List.nil_append, List.length_replicate, List.length_set]; omega)) ?_)
  | (refine al_last (by kernel_rfl) ?_)
  | fail)
  exact ⟨_, [], (by first | exact res1 rfl rfl | exact res2 rfl rfl rfl | exact res3 rfl rfl rfl rfl | exact res0 rfl | ((first | apply resM1 rfl rfl | apply resM2 rfl rfl rfl) <;> (repeat' (first | exact List.Mem.head _ | apply List.Mem.tail | exact agg_ | exact sz_ | rfl)); done)), List.nil_sublist _, Sub.refl _, rfl⟩
theorem f_ref03NewO (w h : Nat) (h1 : 2 ≤ w) (h2 : w ≤ 80) (h3 : 1 ≤ h) (h4 : h ≤ 24) : AF Tryd.prog tab0 12 [I w, I h] [] (fun A M' => ∃ u, A = tupA [aggA [I w, I h, vA u], I 0] ∧ M' = [rowO cellT 30 u (List.replicate (w * h) (32, 0))]) := by
  have hb := side_le h2 h4
  have hnn : (0 : Int) ≤ ((w * h : Nat) : Int) := Int.natCast_nonneg _
  have hs : sidesM w h = true := by simp [sidesM]; omega
  refine af_intro Tryd.func12 rfl (by decide) Tryd.ntmps12 rfl ?_
  repeat' (first
  | fail
  | refine aw_seq ?_
    | refine aw_region0 ?_
    | refine al_nil ?_
    | refine th_n ?_
    | refine th_e ?_
    | refine th_r ?_
    | refine ib_n ?_
    | refine ib_e rfl ?_
    | refine ib_e' rfl ?_
    | refine ib_r ?_
    | refine aw_block ?_
    | refine aw_exit ?_
    | refine aw_ret ?_
    | refine aw_skip ?_
    | refine aw_region1 (by kernel_rfl) (by kernel_rfl) ?_
    | (refine aw_cond rfl ?_ ?_ <;> intro hb <;> (try simp only [decide_eq_true_eq, decide_eq_false_iff_not, Bool.and_eq_true, Bool.or_eq_true, Bool.not_eq_true', Bool.and_eq_false_iff, Bool.or_eq_false_iff, Bool.not_eq_false'] at hb) <;> (first | (exfalso; omega) | skip))
  | (apply al_y
     case hy =>
      first
      | apply qy_plain rfl
      | apply qy_run rfl rfl (guard_b rfl) rfl
      | exact qy_skip rfl rfl (guard_b rfl) rfl
      | (apply qy_gv rfl rfl (by first | exact guard_b rfl | exact guard_gv rfl); intro hk; have hk2 := hk; (try simp only [Bool.true_and, Bool.and_eq_true, Bool.or_eq_true, beq_iff_eq, decide_eq_true_eq, decide_eq_false_iff_not, Bool.not_eq_true', Bool.not_eq_false', Bool.and_eq_false_iff, Bool.or_eq_false_iff] at hk2))
      first
      | fail
      | ((first | apply ay_move rfl | apply ay_assign rfl | apply ay_not rfl | apply ay_lss rfl | apply ay_leq rfl | apply ay_gtr rfl | apply ay_geq rfl | apply k_eql rfl | apply k_neq rfl | apply ay_and rfl | apply ay_or rfl | apply ay_call rfl | apply k_len rfl | apply k_ix rfl | apply k_ld rfl | apply k_fa rfl | apply k_fd rfl | apply ay_build rfl st_ | apply ay_extract rfl | apply ay_slice rfl un_ el_ | apply bs_cell1 rfl un_ | apply bs_cell2 rfl un_ | apply kn_add rfl | apply kn_sub rfl | apply kn_mul rfl | apply kn_quo rfl | apply kn_rem rfl | apply kn_min rfl)
       <;> (repeat' (
        first
        | ((first | refine og rfl ?_ | refine ogn rfl ?_); (first | assumption | (refine gd ?_ ?_ <;> assumption) | (refine gd rfl ?_; assumption) | (apply gl; assumption) | (refine gd (by apply gl; assumption) ?_; assumption))) | exact odln rfl (by with_reducible rfl) | exact odn rfl | exact od rfl
        | exact f_ref03Sides _ _
        | exact un_ | exact el_ | exact agg_ | exact sz_ | exact sp_ | exact fl_ | exact st_ | exact List.Mem.head _ | apply List.Mem.tail | exact SubC.nil | apply SubC.here | apply SubC.next
        | exact nk_sl un_ | apply mk_len un_ | exact nk_sub un_ | apply ik_sl un_ el_ | apply mk_ix un_ el_ | apply ik_sub un_ el_
        | exact lk_el el_ | exact lk_1 agg_ | apply v1_ | apply vn_ | apply mk_r el_ | apply r1_
        | exact ak_ip fl_ sp_ | exact ak_var fl_ sp_ | exact ak_row fl_ sp_ | exact dk_1 fl_ agg_ rfl | apply fn_
        | exact ek_int | exact ek_bool un_ | exact ek_cell
        | exact fit64 (by omega) (by omega) | exact fit32 (by omega) (by omega) | exact fit8 (by omega) (by omega)
        | exact pa_nil | apply pk | exact ca_agg | exact ca_v rfl | exact ca_v (by assumption) | exact ca_sl | exact sc_0 | apply SetC.here | apply SetC.next
        | exact opds0 | apply opds1 | exact lo_none | apply lo_k | exact hi_none | apply hi_k
        | exact rfl | omega | exact (by first | exact hat | exact c_in (by first | omega | (simp only [List.length_append, List.length_nil, List.length_cons, List.nil_append, List.length_replicate, List.length_set]; omega)) | exact List.getElem?_eq_getElem (by first | omega | (simp only [List.length_append, List.length_nil, List.length_cons, List.nil_append, List.length_replicate, List.length_set]; omega))) | (simp only [List.length_append, List.length_nil, List.length_cons, List.nil_append, List.length_replicate, List.length_set]; omega) | intro hp)); done)
      | (refine my_slice rfl un_ el_ (by first | exact od rfl | exact og rfl (by assumption)) (by repeat' (first | exact List.Mem.head _ | apply List.Mem.tail)) (by first | exact odln rfl (by with_reducible rfl) | exact odn rfl | exact ogn rfl (by assumption)) (by first | exact odln rfl (by with_reducible rfl) | exact odn rfl | exact ogn rfl (by assumption)) (by first | omega | (simp only [List.length_append, List.length_nil, List.length_cons, List.nil_append, List.length_replicate, List.length_set]; omega)) (by first | omega | (simp only [List.length_append, List.length_nil, List.length_cons, List.nil_append, List.length_replicate, List.length_set]; omega)))
      | ((first | apply ay_add rfl | apply ay_sub rfl | apply ay_mul rfl | apply ay_quo rfl | apply ay_rem rfl)
       <;> first | exact (by first | (refine og rfl ?_; (first | assumption | (refine gd ?_ ?_ <;> assumption) | (refine gd rfl ?_; assumption) | (apply gl; assumption) | (refine gd (by apply gl; assumption) ?_; assumption))) | exact od rfl) | omega | exact (by first | exact fit64 (by omega) (by omega) | exact fit32 (by omega) (by omega) | exact fit8 (by omega) (by omega)))
     case hx => rfl
     case hd => rfl)
  | (refine al_alloc rfl rfl rfl rfl al_ ?_; intro bb)
    | (refine al_box rfl rfl rfl rfl (by first | exact od rfl | exact og rfl (by assumption)) (by first | exact ca_agg | exact ca_v rfl | exact ca_v (by assumption) | exact ca_sl | exact ca_slc) ?_; intro bb)
    | (refine al_store_var rfl rfl rfl sz_ (by first | exact od rfl | exact og rfl (by assumption)) (by first | exact od rfl | exact og rfl (by assumption)) (by first | exact ca_agg | exact ca_v rfl | exact ca_v (by assumption) | exact ca_sl | exact ca_slc) rfl (by repeat' (first | exact ones0 | apply ones1 | exact one_v rfl | exact one_v (by assumption) | exact one_sl | exact one_slc)) (by repeat' (first | exact UpdF.here | apply UpdF.next)) (by repeat' (first | exact sc_0 | apply SetC.here | apply SetC.next)) ?_)
    | (refine al_store_row rfl rfl rfl el_ (by first | exact od rfl | exact og rfl (by assumption)) (by first | exact od rfl | exact og rfl (by assumption)) (by repeat' (first | exact UpdF.here | apply UpdF.next)) (by first | omega | (simp only [List.length_append, List.length_nil, List.length_cons, List.nil_append, List.length_replicate, List.length_set]; omega)) (by first | exact ca_cell | exact ca_v (by rfl)) ?_)
    | (refine al_empty rfl rfl rfl rfl un_ el_ ?_; intro u hu1 hu2)
    | (refine al_make rfl rfl rfl rfl un_ el_ (by first | exact odln rfl (by with_reducible rfl) | exact odn rfl | exact ogn rfl (by assumption)) (by first | exact odln rfl (by with_reducible rfl) | exact odn rfl | exact ogn rfl (by assumption)) (by omega) (by simp only [maxLen]; omega) ?_; intro u hu1 hu2)
    | (refine al_append rfl rfl rfl rfl un_ el_ (by first | exact od rfl | exact og rfl (by assumption)) (by first | exact od rfl | exact og rfl (by assumption)) (by repeat' (first | exact UpdF.here | apply UpdF.next)) ?h1 ?h2 ?_
       case h1 => (try simp only [List.length_append, List.length_nil, List.length_cons, List.nil_append, List.length_replicate, List.length_set]); omega
       case h2 => (try simp only [List.length_append, List.length_nil, List.length_cons, List.nil_append, List.length_replicate, List.length_set]); simp only [maxLen]; omega
       intro u hu1 hu2)
    | (refine al_copy_row rfl rfl rfl rfl un_ el_ (by first | exact od rfl | exact og rfl (by assumption)) (by first | exact od rfl | exact og rfl (by assumption)) (by repeat' (first | exact UpdF.here | apply UpdF.next)) ?_)
    | (refine al_copy_sub rfl rfl rfl rfl un_ el_ (by first | exact od rfl | exact og rfl (by assumption)) (by first | exact od rfl | exact og rfl (by assumption)) (by repeat' (first | exact UpdF.here | apply UpdF.next)) (by first | omega | (simp only [List.length_append, List.length_nil, List.length_cons, List.nil_append, List.length_replicate, List.length_set]; omega)) ?_)
  | (refine al_last (by kernel_rfl) ?_)
  | fail)
  all_goals first | (exfalso; simp [hs] at hb; done) | skip
  rename_i b4
  refine aw_nil cellT 30 ?_
  refine aw_fl2 (fun (k : Nat) (u : Value) => [(0, I w), (1, I h), (4, vA (.pointer (some ⟨b4, 0, none⟩))), (6, vA (.pointer (some ⟨bb, 0, none⟩))), (7, I k)]) (fun k u => [rowO cellT 30 u (List.replicate k (32, 0)), varO bb 24 [I w, I h, vA u], varO b4 24 [I 0, I 0, vA (.slice none 0 0)]]) (fun k _ => k ≤ w * h) (fun k _ => w * h - k) 0 _ (Nat.zero_le _) (by repeat' (first | exact weak_nil | refine weak_cons rfl ?_ | fail)) (List.Sublist.refl _) ?_
  rintro k u i1
  refine aw_rowc (List.Mem.head _) fun hu1 hu2 => ?_
  by_cases hlt : k < w * h
  · repeat' (first
    | fail
    | refine aw_seq ?_
      | refine aw_region0 ?_
      | refine al_nil ?_
      | refine th_n ?_
      | refine th_e ?_
      | refine th_r ?_
      | refine ib_n ?_
      | refine ib_e rfl ?_
      | refine ib_e' rfl ?_
      | refine ib_r ?_
      | refine aw_block ?_
      | refine aw_exit ?_
      | refine aw_ret ?_
      | refine aw_skip ?_
      | refine aw_region1 (by kernel_rfl) (by kernel_rfl) ?_
      | (refine aw_cond rfl ?_ ?_ <;> intro hb <;> (try simp only [decide_eq_true_eq, decide_eq_false_iff_not, Bool.and_eq_true, Bool.or_eq_true, Bool.not_eq_true', Bool.and_eq_false_iff, Bool.or_eq_false_iff, Bool.not_eq_false'] at hb) <;> (first | (exfalso; omega) | skip))
    | (apply al_y
       case hy =>
        first
        | apply qy_plain rfl
        | apply qy_run rfl rfl (guard_b rfl) rfl
        | exact qy_skip rfl rfl (guard_b rfl) rfl
        | (apply qy_gv rfl rfl (by first | exact guard_b rfl | exact guard_gv rfl); intro hk; have hk2 := hk; (try simp only [Bool.true_and, Bool.and_eq_true, Bool.or_eq_true, beq_iff_eq, decide_eq_true_eq, decide_eq_false_iff_not, Bool.not_eq_true', Bool.not_eq_false', Bool.and_eq_false_iff, Bool.or_eq_false_iff] at hk2))
        first
        | fail
        | ((first | apply ay_move rfl | apply ay_assign rfl | apply ay_not rfl | apply ay_lss rfl | apply ay_leq rfl | apply ay_gtr rfl | apply ay_geq rfl | apply k_eql rfl | apply k_neq rfl | apply ay_and rfl | apply ay_or rfl | apply ay_call rfl | apply k_len rfl | apply k_ix rfl | apply k_ld rfl | apply k_fa rfl | apply k_fd rfl | apply ay_build rfl st_ | apply ay_extract rfl | apply ay_slice rfl un_ el_ | apply bs_cell1 rfl un_ | apply bs_cell2 rfl un_ | apply kn_add rfl | apply kn_sub rfl | apply kn_mul rfl | apply kn_quo rfl | apply kn_rem rfl | apply kn_min rfl)
         <;> (repeat' (
          first
          | ((first | refine og rfl ?_ | refine ogn rfl ?_); (first | assumption | (refine gd ?_ ?_ <;> assumption) | (refine gd rfl ?_; assumption) | (apply gl; assumption) | (refine gd (by apply gl; assumption) ?_; assumption))) | exact odln rfl (by with_reducible rfl) | exact odn rfl | exact od rfl
          | exact f_ref03Sides _ _
          | exact un_ | exact el_ | exact agg_ | exact sz_ | exact sp_ | exact fl_ | exact st_ | exact List.Mem.head _ | apply List.Mem.tail | exact SubC.nil | apply SubC.here | apply SubC.next
          | exact nk_sl un_ | apply mk_len un_ | exact nk_sub un_ | apply ik_sl un_ el_ | apply mk_ix un_ el_ | apply ik_sub un_ el_
          | exact lk_el el_ | exact lk_1 agg_ | apply v1_ | apply vn_ | apply mk_r el_ | apply r1_
          | exact ak_ip fl_ sp_ | exact ak_var fl_ sp_ | exact ak_row fl_ sp_ | exact dk_1 fl_ agg_ rfl | apply fn_
          | exact ek_int | exact ek_bool un_ | exact ek_cell
          | exact fit64 (by omega) (by omega) | exact fit32 (by omega) (by omega) | exact fit8 (by omega) (by omega)
          | exact pa_nil | apply pk | exact ca_agg | exact ca_v rfl | exact ca_v (by assumption) | exact ca_sl | exact sc_0 | apply SetC.here | apply SetC.next
          | exact opds0 | apply opds1 | exact lo_none | apply lo_k | exact hi_none | apply hi_k
          | exact rfl | omega | exact (by first | exact hat | exact c_in (by first | omega | (simp only [List.length_append, List.length_nil, List.length_cons, List.nil_append, List.length_replicate, List.length_set]; omega)) | exact List.getElem?_eq_getElem (by first | omega | (simp only [List.length_append, List.length_nil, List.length_cons, List.nil_append, List.length_replicate, List.length_set]; omega))) | (simp only [List.length_append, List.length_nil, List.length_cons, List.nil_append, List.length_replicate, List.length_set]; omega) | intro hp)); done)
        | (refine my_slice rfl un_ el_ (by first | exact od rfl | exact og rfl (by assumption)) (by repeat' (first | exact List.Mem.head _ | apply List.Mem.tail)) (by first | exact odln rfl (by with_reducible rfl) | exact odn rfl | exact ogn rfl (by assumption)) (by first | exact odln rfl (by with_reducible rfl) | exact odn rfl | exact ogn rfl (by assumption)) (by first | omega | (simp only [List.length_append, List.length_nil, List.length_cons, List.nil_append, List.length_replicate, List.length_set]; omega)) (by first | omega | (simp only [List.length_append, List.length_nil, List.length_cons, List.nil_append, List.length_replicate, List.length_set]; omega)))
        | ((first | apply ay_add rfl | apply ay_sub rfl | apply ay_mul rfl | apply ay_quo rfl | apply ay_rem rfl)
         <;> first | exact (by first | (refine og rfl ?_; (first | assumption | (refine gd ?_ ?_ <;> assumption) | (refine gd rfl ?_; assumption) | (apply gl; assumption) | (refine gd (by apply gl; assumption) ?_; assumption))) | exact od rfl) | omega | exact (by first | exact fit64 (by omega) (by omega) | exact fit32 (by omega) (by omega) | exact fit8 (by omega) (by omega)))
       case hx => rfl
       case hd => rfl)
    | (refine al_alloc rfl rfl rfl rfl al_ ?_; intro bb)
      | (refine al_box rfl rfl rfl rfl (by first | exact od rfl | exact og rfl (by assumption)) (by first | exact ca_agg | exact ca_v rfl | exact ca_v (by assumption) | exact ca_sl | exact ca_slc) ?_; intro bb)
      | (refine al_store_var rfl rfl rfl sz_ (by first | exact od rfl | exact og rfl (by assumption)) (by first | exact od rfl | exact og rfl (by assumption)) (by first | exact ca_agg | exact ca_v rfl | exact ca_v (by assumption) | exact ca_sl | exact ca_slc) rfl (by repeat' (first | exact ones0 | apply ones1 | exact one_v rfl | exact one_v (by assumption) | exact one_sl | exact one_slc)) (by repeat' (first | exact UpdF.here | apply UpdF.next)) (by repeat' (first | exact sc_0 | apply SetC.here | apply SetC.next)) ?_)
      | (refine al_store_row rfl rfl rfl el_ (by first | exact od rfl | exact og rfl (by assumption)) (by first | exact od rfl | exact og rfl (by assumption)) (by repeat' (first | exact UpdF.here | apply UpdF.next)) (by first | omega | (simp only [List.length_append, List.length_nil, List.length_cons, List.nil_append, List.length_replicate, List.length_set]; omega)) (by first | exact ca_cell | exact ca_v (by rfl)) ?_)
      | (refine al_empty rfl rfl rfl rfl un_ el_ ?_; intro u hu1 hu2)
      | (refine al_make rfl rfl rfl rfl un_ el_ (by first | exact odln rfl (by with_reducible rfl) | exact odn rfl | exact ogn rfl (by assumption)) (by first | exact odln rfl (by with_reducible rfl) | exact odn rfl | exact ogn rfl (by assumption)) (by omega) (by simp only [maxLen]; omega) ?_; intro u hu1 hu2)
      | (refine al_append rfl rfl rfl rfl un_ el_ (by first | exact od rfl | exact og rfl (by assumption)) (by first | exact od rfl | exact og rfl (by assumption)) (by repeat' (first | exact UpdF.here | apply UpdF.next)) ?h1 ?h2 ?_
         case h1 => (try simp only [List.length_append, List.length_nil, List.length_cons, List.nil_append, List.length_replicate, List.length_set]); omega
         case h2 => (try simp only [List.length_append, List.length_nil, List.length_cons, List.nil_append, List.length_replicate, List.length_set]); simp only [maxLen]; omega
         intro u hu1 hu2)
      | (refine al_copy_row rfl rfl rfl rfl un_ el_ (by first | exact od rfl | exact og rfl (by assumption)) (by first | exact od rfl | exact og rfl (by assumption)) (by repeat' (first | exact UpdF.here | apply UpdF.next)) ?_)
      | (refine al_copy_sub rfl rfl rfl rfl un_ el_ (by first | exact od rfl | exact og rfl (by assumption)) (by first | exact od rfl | exact og rfl (by assumption)) (by repeat' (first | exact UpdF.here | apply UpdF.next)) (by first | omega | (simp only [List.length_append, List.length_nil, List.length_cons, List.nil_append, List.length_replicate, List.length_set]; omega)) ?_)
    | (refine al_last (by kernel_rfl) ?_)
    | fail)
    exact ⟨k + 1, _, by omega, by omega, (by repeat' (first | exact weak_nil | refine weak_cons rfl ?_ | fail)), by rw [List.replicate_succ']; exact List.Sublist.refl _⟩
  · repeat' (first
    | fail
    | refine aw_seq ?_
      | refine aw_region0 ?_
      | refine al_nil ?_
      | refine th_n ?_
      | refine th_e ?_
      | refine th_r ?_
      | refine ib_n ?_
      | refine ib_e rfl ?_
      | refine ib_e' rfl ?_
      | refine ib_r ?_
      | refine aw_block ?_
      | refine aw_exit ?_
      | refine aw_ret ?_
      | refine aw_skip ?_
      | refine aw_region1 (by kernel_rfl) (by kernel_rfl) ?_
      | (refine aw_cond rfl ?_ ?_ <;> intro hb <;> (try simp only [decide_eq_true_eq, decide_eq_false_iff_not, Bool.and_eq_true, Bool.or_eq_true, Bool.not_eq_true', Bool.and_eq_false_iff, Bool.or_eq_false_iff, Bool.not_eq_false'] at hb) <;> (first | (exfalso; omega) | skip))
    | (apply al_y
       case hy =>
        first
        | apply qy_plain rfl
        | apply qy_run rfl rfl (guard_b rfl) rfl
        | exact qy_skip rfl rfl (guard_b rfl) rfl
        | (apply qy_gv rfl rfl (by first | exact guard_b rfl | exact guard_gv rfl); intro hk; have hk2 := hk; (try simp only [Bool.true_and, Bool.and_eq_true, Bool.or_eq_true, beq_iff_eq, decide_eq_true_eq, decide_eq_false_iff_not, Bool.not_eq_true', Bool.not_eq_false', Bool.and_eq_false_iff, Bool.or_eq_false_iff] at hk2))
        first
        | fail
        | ((first | apply ay_move rfl | apply ay_assign rfl | apply ay_not rfl | apply ay_lss rfl | apply ay_leq rfl | apply ay_gtr rfl | apply ay_geq rfl | apply k_eql rfl | apply k_neq rfl | apply ay_and rfl | apply ay_or rfl | apply ay_call rfl | apply k_len rfl | apply k_ix rfl | apply k_ld rfl | apply k_fa rfl | apply k_fd rfl | apply ay_build rfl st_ | apply ay_extract rfl | apply ay_slice rfl un_ el_ | apply bs_cell1 rfl un_ | apply bs_cell2 rfl un_ | apply kn_add rfl | apply kn_sub rfl | apply kn_mul rfl | apply kn_quo rfl | apply kn_rem rfl | apply kn_min rfl)
         <;> (repeat' (
          first
          | ((first | refine og rfl ?_ | refine ogn rfl ?_); (first | assumption | (refine gd ?_ ?_ <;> assumption) | (refine gd rfl ?_; assumption) | (apply gl; assumption) | (refine gd (by apply gl; assumption) ?_; assumption))) | exact odln rfl (by with_reducible rfl) | exact odn rfl | exact od rfl
          | exact f_ref03Sides _ _
          | exact un_ | exact el_ | exact agg_ | exact sz_ | exact sp_ | exact fl_ | exact st_ | exact List.Mem.head _ | apply List.Mem.tail | exact SubC.nil | apply SubC.here | apply SubC.next
          | exact nk_sl un_ | apply mk_len un_ | exact nk_sub un_ | apply ik_sl un_ el_ | apply mk_ix un_ el_ | apply ik_sub un_ el_
          | exact lk_el el_ | exact lk_1 agg_ | apply v1_ | apply vn_ | apply mk_r el_ | apply r1_
          | exact ak_ip fl_ sp_ | exact ak_var fl_ sp_ | exact ak_row fl_ sp_ | exact dk_1 fl_ agg_ rfl | apply fn_
          | exact ek_int | exact ek_bool un_ | exact ek_cell
          | exact fit64 (by omega) (by omega) | exact fit32 (by omega) (by omega) | exact fit8 (by omega) (by omega)
          | exact pa_nil | apply pk | exact ca_agg | exact ca_v rfl | exact ca_v (by assumption) | exact ca_sl | exact sc_0 | apply SetC.here | apply SetC.next
          | exact opds0 | apply opds1 | exact lo_none | apply lo_k | exact hi_none | apply hi_k
          | exact rfl | omega | exact (by first | exact hat | exact c_in (by first | omega | (simp only [List.length_append, List.length_nil, List.length_cons, List.nil_append, List.length_replicate, List.length_set]; omega)) | exact List.getElem?_eq_getElem (by first | omega | (simp only [List.length_append, List.length_nil, List.length_cons, List.nil_append, List.length_replicate, List.length_set]; omega))) | (simp only [List.length_append, List.length_nil, List.length_cons, List.nil_append, List.length_replicate, List.length_set]; omega) | intro hp)); done)
        | (refine my_slice rfl un_ el_ (by first | exact od rfl | exact og rfl (by assumption)) (by repeat' (first | exact List.Mem.head _ | apply List.Mem.tail)) (by first | exact odln rfl (by with_reducible rfl) | exact odn rfl | exact ogn rfl (by assumption)) (by first | exact odln rfl (by with_reducible rfl) | exact odn rfl | exact ogn rfl (by assumption)) (by first | omega | (simp only [List.length_append, List.length_nil, List.length_cons, List.nil_append, List.length_replicate, List.length_set]; omega)) (by first | omega | (simp only [List.length_append, List.length_nil, List.length_cons, List.nil_append, List.length_replicate, List.length_set]; omega)))
        | ((first | apply ay_add rfl | apply ay_sub rfl | apply ay_mul rfl | apply ay_quo rfl | apply ay_rem rfl)
         <;> first | exact (by first | (refine og rfl ?_; (first | assumption | (refine gd ?_ ?_ <;> assumption) | (refine gd rfl ?_; assumption) | (apply gl; assumption) | (refine gd (by apply gl; assumption) ?_; assumption))) | exact od rfl) | omega | exact (by first | exact fit64 (by omega) (by omega) | exact fit32 (by omega) (by omega) | exact fit8 (by omega) (by omega)))
       case hx => rfl
       case hd => rfl)
    | (refine al_alloc rfl rfl rfl rfl al_ ?_; intro bb)
      | (refine al_box rfl rfl rfl rfl (by first | exact od rfl | exact og rfl (by assumption)) (by first | exact ca_agg | exact ca_v rfl | exact ca_v (by assumption) | exact ca_sl | exact ca_slc) ?_; intro bb)
      | (refine al_store_var rfl rfl rfl sz_ (by first | exact od rfl | exact og rfl (by assumption)) (by first | exact od rfl | exact og rfl (by assumption)) (by first | exact ca_agg | exact ca_v rfl | exact ca_v (by assumption) | exact ca_sl | exact ca_slc) rfl (by repeat' (first | exact ones0 | apply ones1 | exact one_v rfl | exact one_v (by assumption) | exact one_sl | exact one_slc)) (by repeat' (first | exact UpdF.here | apply UpdF.next)) (by repeat' (first | exact sc_0 | apply SetC.here | apply SetC.next)) ?_)
      | (refine al_store_row rfl rfl rfl el_ (by first | exact od rfl | exact og rfl (by assumption)) (by first | exact od rfl | exact og rfl (by assumption)) (by repeat' (first | exact UpdF.here | apply UpdF.next)) (by first | omega | (simp only [List.length_append, List.length_nil, List.length_cons, List.nil_append, List.length_replicate, List.length_set]; omega)) (by first | exact ca_cell | exact ca_v (by rfl)) ?_)
      | (refine al_empty rfl rfl rfl rfl un_ el_ ?_; intro u hu1 hu2)
      | (refine al_make rfl rfl rfl rfl un_ el_ (by first | exact odln rfl (by with_reducible rfl) | exact odn rfl | exact ogn rfl (by assumption)) (by first | exact odln rfl (by with_reducible rfl) | exact odn rfl | exact ogn rfl (by assumption)) (by omega) (by simp only [maxLen]; omega) ?_; intro u hu1 hu2)
      | (refine al_append rfl rfl rfl rfl un_ el_ (by first | exact od rfl | exact og rfl (by assumption)) (by first | exact od rfl | exact og rfl (by assumption)) (by repeat' (first | exact UpdF.here | apply UpdF.next)) ?h1 ?h2 ?_
         case h1 => (try simp only [List.length_append, List.length_nil, List.length_cons, List.nil_append, List.length_replicate, List.length_set]); omega
         case h2 => (try simp only [List.length_append, List.length_nil, List.length_cons, List.nil_append, List.length_replicate, List.length_set]); simp only [maxLen]; omega
         intro u hu1 hu2)
      | (refine al_copy_row rfl rfl rfl rfl un_ el_ (by first | exact od rfl | exact og rfl (by assumption)) (by first | exact od rfl | exact og rfl (by assumption)) (by repeat' (first | exact UpdF.here | apply UpdF.next)) ?_)
      | (refine al_copy_sub rfl rfl rfl rfl un_ el_ (by first | exact od rfl | exact og rfl (by assumption)) (by first | exact od rfl | exact og rfl (by assumption)) (by repeat' (first | exact UpdF.here | apply UpdF.next)) (by first | omega | (simp only [List.length_append, List.length_nil, List.length_cons, List.nil_append, List.length_replicate, List.length_set]; omega)) ?_)
    | (refine al_last (by kernel_rfl) ?_)
    | fail)
    exact ⟨_, [rowO cellT 30 u (List.replicate k (32, 0))], (by first | exact res1 rfl rfl | exact res2 rfl rfl rfl | exact res3 rfl rfl rfl rfl | exact res0 rfl | ((first | apply resM1 rfl rfl | apply resM2 rfl rfl rfl) <;> (repeat' (first | exact List.Mem.head _ | apply List.Mem.tail | exact agg_ | exact sz_ | rfl)); done)), (by repeat' (first | exact List.nil_sublist _ | apply List.Sublist.cons_cons | apply List.Sublist.cons)), u, rfl, by rw [show k = w * h by omega]⟩
theorem f_ref03New (w h : Int) : AP Tryd.prog tab0 12 [I w, I h] (grid2 (newR w h)) := by
  by_cases hs : sidesM w h = true
  · obtain ⟨w, h, rfl, rfl, h1, h2, h3, h4⟩ := sides_nat hs
    have := (f_ref03NewO w h h1 h2 h3 h4).frz1 (by intro u; repeat' (first | exact fz_here | apply fz_agg | apply fz_tup | exact fzl_nil | apply fzl_cons | exact fz_keep))
    simpa only [newR, hs, if_true, grid2, Int.toNat_natCast] using this
  · have hs2 : sidesM w h = false := by simpa using hs
    refine af_intro Tryd.func12 rfl (by decide) Tryd.ntmps12 rfl ?_
    repeat' (first
    | fail
    | refine aw_seq ?_
      | refine aw_region0 ?_
      | refine al_nil ?_
      | refine th_n ?_
      | refine th_e ?_
      | refine th_r ?_
      | refine ib_n ?_
      | refine ib_e rfl ?_
      | refine ib_e' rfl ?_
      | refine ib_r ?_
      | refine aw_block ?_
      | refine aw_exit ?_
      | refine aw_ret ?_
      | refine aw_skip ?_
      | refine aw_region1 (by kernel_rfl) (by kernel_rfl) ?_
      | (refine aw_cond rfl ?_ ?_ <;> intro hb <;> (try simp only [decide_eq_true_eq, decide_eq_false_iff_not, Bool.and_eq_true, Bool.or_eq_true, Bool.not_eq_true', Bool.and_eq_false_iff, Bool.or_eq_false_iff, Bool.not_eq_false'] at hb) <;> (first | (exfalso; omega) | skip))
    | (apply al_y
       case hy =>
        first
        | apply qy_plain rfl
        | apply qy_run rfl rfl (guard_b rfl) rfl
        | exact qy_skip rfl rfl (guard_b rfl) rfl
        | (apply qy_gv rfl rfl (by first | exact guard_b rfl | exact guard_gv rfl); intro hk; have hk2 := hk; (try simp only [Bool.true_and, Bool.and_eq_true, Bool.or_eq_true, beq_iff_eq, decide_eq_true_eq, decide_eq_false_iff_not, Bool.not_eq_true', Bool.not_eq_false', Bool.and_eq_false_iff, Bool.or_eq_false_iff] at hk2))
        first
        | fail
        | ((first | apply ay_move rfl | apply ay_assign rfl | apply ay_not rfl | apply ay_lss rfl | apply ay_leq rfl | apply ay_gtr rfl | apply ay_geq rfl | apply k_eql rfl | apply k_neq rfl | apply ay_and rfl | apply ay_or rfl | apply ay_call rfl | apply k_len rfl | apply k_ix rfl | apply k_ld rfl | apply k_fa rfl | apply k_fd rfl | apply ay_build rfl st_ | apply ay_extract rfl | apply ay_slice rfl un_ el_ | apply bs_cell1 rfl un_ | apply bs_cell2 rfl un_ | apply kn_add rfl | apply kn_sub rfl | apply kn_mul rfl | apply kn_quo rfl | apply kn_rem rfl | apply kn_min rfl)
         <;> (repeat' (
          first
          | ((first | refine og rfl ?_ | refine ogn rfl ?_); (first | assumption | (refine gd ?_ ?_ <;> assumption) | (refine gd rfl ?_; assumption) | (apply gl; assumption) | (refine gd (by apply gl; assumption) ?_; assumption))) | exact odln rfl (by with_reducible rfl) | exact odn rfl | exact od rfl
          | exact f_ref03Sides _ _
          | exact un_ | exact el_ | exact agg_ | exact sz_ | exact sp_ | exact fl_ | exact st_ | exact List.Mem.head _ | apply List.Mem.tail | exact SubC.nil | apply SubC.here | apply SubC.next
          | exact nk_sl un_ | apply mk_len un_ | exact nk_sub un_ | apply ik_sl un_ el_ | apply mk_ix un_ el_ | apply ik_sub un_ el_
          | exact lk_el el_ | exact lk_1 agg_ | apply v1_ | apply vn_ | apply mk_r el_ | apply r1_
          | exact ak_ip fl_ sp_ | exact ak_var fl_ sp_ | exact ak_row fl_ sp_ | exact dk_1 fl_ agg_ rfl | apply fn_
          | exact ek_int | exact ek_bool un_ | exact ek_cell
          | exact fit64 (by omega) (by omega) | exact fit32 (by omega) (by omega) | exact fit8 (by omega) (by omega)
          | exact pa_nil | apply pk | exact ca_agg | exact ca_v rfl | exact ca_v (by assumption) | exact ca_sl | exact sc_0 | apply SetC.here | apply SetC.next
          | exact opds0 | apply opds1 | exact lo_none | apply lo_k | exact hi_none | apply hi_k
          | exact rfl | omega | exact (by first | exact hat | exact c_in (by first | omega | (simp only [List.length_append, List.length_nil, List.length_cons, List.nil_append, List.length_replicate, List.length_set]; omega)) | exact List.getElem?_eq_getElem (by first | omega | (simp only [List.length_append, List.length_nil, List.length_cons, List.nil_append, List.length_replicate, List.length_set]; omega))) | (simp only [List.length_append, List.length_nil, List.length_cons, List.nil_append, List.length_replicate, List.length_set]; omega) | intro hp)); done)
        | (refine my_slice rfl un_ el_ (by first | exact od rfl | exact og rfl (by assumption)) (by repeat' (first | exact List.Mem.head _ | apply List.Mem.tail)) (by first | exact odln rfl (by with_reducible rfl) | exact odn rfl | exact ogn rfl (by assumption)) (by first | exact odln rfl (by with_reducible rfl) | exact odn rfl | exact ogn rfl (by assumption)) (by first | omega | (simp only [List.length_append, List.length_nil, List.length_cons, List.nil_append, List.length_replicate, List.length_set]; omega)) (by first | omega | (simp only [List.length_append, List.length_nil, List.length_cons, List.nil_append, List.length_replicate, List.length_set]; omega)))
        | ((first | apply ay_add rfl | apply ay_sub rfl | apply ay_mul rfl | apply ay_quo rfl | apply ay_rem rfl)
         <;> first | exact (by first | (refine og rfl ?_; (first | assumption | (refine gd ?_ ?_ <;> assumption) | (refine gd rfl ?_; assumption) | (apply gl; assumption) | (refine gd (by apply gl; assumption) ?_; assumption))) | exact od rfl) | omega | exact (by first | exact fit64 (by omega) (by omega) | exact fit32 (by omega) (by omega) | exact fit8 (by omega) (by omega)))
       case hx => rfl
       case hd => rfl)
    | (refine al_alloc rfl rfl rfl rfl al_ ?_; intro bb)
      | (refine al_box rfl rfl rfl rfl (by first | exact od rfl | exact og rfl (by assumption)) (by first | exact ca_agg | exact ca_v rfl | exact ca_v (by assumption) | exact ca_sl | exact ca_slc) ?_; intro bb)
      | (refine al_store_var rfl rfl rfl sz_ (by first | exact od rfl | exact og rfl (by assumption)) (by first | exact od rfl | exact og rfl (by assumption)) (by first | exact ca_agg | exact ca_v rfl | exact ca_v (by assumption) | exact ca_sl | exact ca_slc) rfl (by repeat' (first | exact ones0 | apply ones1 | exact one_v rfl | exact one_v (by assumption) | exact one_sl | exact one_slc)) (by repeat' (first | exact UpdF.here | apply UpdF.next)) (by repeat' (first | exact sc_0 | apply SetC.here | apply SetC.next)) ?_)
      | (refine al_store_row rfl rfl rfl el_ (by first | exact od rfl | exact og rfl (by assumption)) (by first | exact od rfl | exact og rfl (by assumption)) (by repeat' (first | exact UpdF.here | apply UpdF.next)) (by first | omega | (simp only [List.length_append, List.length_nil, List.length_cons, List.nil_append, List.length_replicate, List.length_set]; omega)) (by first | exact ca_cell | exact ca_v (by rfl)) ?_)
      | (refine al_empty rfl rfl rfl rfl un_ el_ ?_; intro u hu1 hu2)
      | (refine al_make rfl rfl rfl rfl un_ el_ (by first | exact odln rfl (by with_reducible rfl) | exact odn rfl | exact ogn rfl (by assumption)) (by first | exact odln rfl (by with_reducible rfl) | exact odn rfl | exact ogn rfl (by assumption)) (by omega) (by simp only [maxLen]; omega) ?_; intro u hu1 hu2)
      | (refine al_append rfl rfl rfl rfl un_ el_ (by first | exact od rfl | exact og rfl (by assumption)) (by first | exact od rfl | exact og rfl (by assumption)) (by repeat' (first | exact UpdF.here | apply UpdF.next)) ?h1 ?h2 ?_
         case h1 => (try simp only [List.length_append, List.length_nil, List.length_cons, List.nil_append, List.length_replicate, List.length_set]); omega
         case h2 => (try simp only [List.length_append, List.length_nil, List.length_cons, List.nil_append, List.length_replicate, List.length_set]); simp only [maxLen]; omega
         intro u hu1 hu2)
      | (refine al_copy_row rfl rfl rfl rfl un_ el_ (by first | exact od rfl | exact og rfl (by assumption)) (by first | exact od rfl | exact og rfl (by assumption)) (by repeat' (first | exact UpdF.here | apply UpdF.next)) ?_)
      | (refine al_copy_sub rfl rfl rfl rfl un_ el_ (by first | exact od rfl | exact og rfl (by assumption)) (by first | exact od rfl | exact og rfl (by assumption)) (by repeat' (first | exact UpdF.here | apply UpdF.next)) (by first | omega | (simp only [List.length_append, List.length_nil, List.length_cons, List.nil_append, List.length_replicate, List.length_set]; omega)) ?_)
    | (refine al_last (by kernel_rfl) ?_)
    | fail)
    all_goals first | (exfalso; simp [hs2] at hb; done) | skip
    · refine ⟨_, [], (by first | exact res1 rfl rfl | exact res2 rfl rfl rfl | exact res3 rfl rfl rfl rfl | exact res0 rfl | ((first | apply resM1 rfl rfl | apply resM2 rfl rfl rfl) <;> (repeat' (first | exact List.Mem.head _ | apply List.Mem.tail | exact agg_ | exact sz_ | rfl)); done)), List.nil_sublist _, ?_, rfl⟩
      simp only [newR, hs, grid2]; exact sub_noG
end Go.Proofs.YthlikicgikoilaaDoor
