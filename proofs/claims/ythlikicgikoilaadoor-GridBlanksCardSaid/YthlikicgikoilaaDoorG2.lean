/- Layer 3 (grid): the program's makers of grids, and whether a grid is right. No condition. -/
import Derived.Test.YthlikicgikoilaaDoorG1
namespace Go.Proofs.YthlikicgikoilaaDoor
set_option linter.unusedSimpArgs false
set_option linter.unusedVariables false
open Go Go.RowKit
attribute [local irreducible] AW AL AO QY varO rowO rsA Opd OpdN vA gvA tupA aggA slA slcA ipA rpA EqK LnK IxK LdK FaK FdK
set_option maxRecDepth 100000
theorem set_next (p : List Cell) (n k : Nat) (z d : Cell) (hp : p.length = k) (h : k < n) : (p ++ List.replicate (n - k) d).set k z = (p ++ [z]) ++ List.replicate (n - (k + 1)) d := by
  have e : n - k = (n - (k + 1)) + 1 := by omega
  subst hp
  rw [e, List.replicate_succ, List.set_append_right _ _ (Nat.le_refl _), Nat.sub_self, List.set_cons_zero, List.append_assoc]; rfl
theorem f_blank : AP Tryd.prog tab0 44 [] (cellA (32, 0)) := by
  refine af_intro Tryd.func44 rfl (by decide) Tryd.ntmps44 rfl ?_
  repeat' (first
  | fail
  | refine aw_seq ?_
    | refine aw_region0 ?_
    | refine al_nil ?_
    | refine th_n ?_
    | refine th_e ?_
    | refine th_r ?_
    | refine ib_n ?_
    | refine ib_e rfl ?_
    | refine ib_e' rfl ?_
    | refine ib_r ?_
    | refine aw_block ?_
    | refine aw_exit ?_
    | refine aw_ret ?_
    | refine aw_skip ?_
    | refine aw_region1 (by kernel_rfl) (by kernel_rfl) ?_
    | (refine aw_cond rfl ?_ ?_ <;> intro hb <;> (try simp only [decide_eq_true_eq, decide_eq_false_iff_not, Bool.and_eq_true, Bool.or_eq_true, Bool.not_eq_true', Bool.and_eq_false_iff, Bool.or_eq_false_iff, Bool.not_eq_false'] at hb) <;> (first | (exfalso; omega) | skip))
  | (apply al_y
     case hy =>
      first
      | apply qy_plain rfl
      | apply qy_run rfl rfl (guard_b rfl) rfl
      | exact qy_skip rfl rfl (guard_b rfl) rfl
      | (apply qy_gv rfl rfl (by first | exact guard_b rfl | exact guard_gv rfl); intro hk; have hk2 := hk; (try simp only [Bool.true_and, Bool.and_eq_true, Bool.or_eq_true, beq_iff_eq, decide_eq_true_eq, decide_eq_false_iff_not, Bool.not_eq_true', Bool.not_eq_false', Bool.and_eq_false_iff, Bool.or_eq_false_iff] at hk2))
      first
      | fail
      | ((first | apply ay_move rfl | apply ay_assign rfl | apply ay_not rfl | apply ay_lss rfl | apply ay_leq rfl | apply ay_gtr rfl | apply ay_geq rfl | apply k_eql rfl | apply k_neq rfl | apply ay_and rfl | apply ay_or rfl | apply ay_call rfl | apply k_len rfl | apply k_ix rfl | apply k_ld rfl | apply k_fa rfl | apply k_fd rfl | apply ay_build rfl st_ | apply ay_extract rfl | apply ay_slice rfl un_ el_ | apply bs_cell1 rfl un_ | apply bs_cell2 rfl un_ | apply kn_add rfl | apply kn_sub rfl | apply kn_mul rfl | apply kn_quo rfl | apply kn_rem rfl | apply kn_min rfl)
       <;> (repeat' (
        first
        | ((first | refine og rfl ?_ | refine ogn rfl ?_); (first | assumption | (refine gd ?_ ?_ <;> assumption) | (refine gd rfl ?_; assumption) | (apply gl; assumption) | (refine gd (by apply gl; assumption) ?_; assumption) | (simp_all; done))) | exact odln rfl (by with_reducible rfl) | exact odn rfl | exact od rfl
        | fail
        | exact un_ | exact el_ | exact agg_ | exact sz_ | exact sp_ | exact fl_ | exact st_ | exact List.Mem.head _ | apply List.Mem.tail | exact SubC.nil | apply SubC.here | apply SubC.next
        | exact nk_sl un_ | apply mk_len un_ | exact nk_sub un_ | apply ik_sl un_ el_ | apply mk_ix un_ el_ | apply ik_sub un_ el_
        | exact lk_el el_ | exact lk_1 agg_ | apply v1_ | apply vn_ | apply mk_r el_ | apply r1_
        | exact ak_ip fl_ sp_ | exact ak_var fl_ sp_ | exact ak_row fl_ sp_ | exact dk_1 fl_ agg_ rfl | apply fn_
        | exact ek_int | exact ek_bool un_ | exact ek_cell
        | exact fit64 (by omega) (by omega) | exact fit32 (by omega) (by omega) | exact fit8 (by omega) (by omega)
        | exact pa_nil | apply pk | exact ca_agg | exact ca_v rfl | exact ca_v (by assumption) | exact ca_sl | exact sc_0 | apply SetC.here | apply SetC.next
        | exact opds0 | apply opds1 | exact lo_none | apply lo_k | exact hi_none | apply hi_k
        | exact rfl | omega | exact (by first | exact hat | exact c_in (by first | omega | (simp only [List.length_append, List.length_nil, List.length_cons, List.nil_append, List.length_replicate, List.length_set]; omega)) | exact List.getElem?_eq_getElem (by first | omega | (simp only [List.length_append, List.length_nil, List.length_cons, List.nil_append, List.length_replicate, List.length_set]; omega))) | (simp only [List.length_append, List.length_nil, List.length_cons, List.nil_append, List.length_replicate, List.length_set]; omega) | intro hp)); done)
      | (refine my_slice rfl un_ el_ (by first | exact od rfl | exact og rfl (by assumption)) (by repeat' (first | exact List.Mem.head _ | apply List.Mem.tail)) (by first | exact odln rfl (by with_reducible rfl) | exact odn rfl | exact ogn rfl (by assumption)) (by first | exact odln rfl (by with_reducible rfl) | exact odn rfl | exact ogn rfl (by assumption)) (by first | omega | (simp only [List.length_append, List.length_nil, List.length_cons, List.nil_append, List.length_replicate, List.length_set]; omega)) (by first | omega | (simp only [List.length_append, List.length_nil, List.length_cons, List.nil_append, List.length_replicate, List.length_set]; omega)))
      | ((first | apply ay_add rfl | apply ay_sub rfl | apply ay_mul rfl | apply ay_quo rfl | apply ay_rem rfl)
       <;> first | exact (by first | (refine og rfl ?_; (first | assumption | (refine gd ?_ ?_ <;> assumption) | (refine gd rfl ?_; assumption) | (apply gl; assumption) | (refine gd (by apply gl; assumption) ?_; assumption) | (simp_all; done))) | exact od rfl) | omega | exact (by first | exact fit64 (by omega) (by omega) | exact fit32 (by omega) (by omega) | exact fit8 (by omega) (by omega)))
     case hx => rfl
     case hd => rfl)
  | (refine al_alloc rfl rfl rfl rfl al_ ?_; intro bb)
    | (refine al_box rfl rfl rfl rfl (by first | exact od rfl | exact og rfl (by assumption)) (by first | exact ca_agg | exact ca_v rfl | exact ca_v (by assumption) | exact ca_sl | exact ca_slc) ?_; intro bb)
    | (refine al_store_var rfl rfl rfl sz_ (by first | exact od rfl | exact og rfl (by assumption)) (by first | exact od rfl | exact og rfl (by assumption)) (by first | exact ca_agg | exact ca_v rfl | exact ca_v (by assumption) | exact ca_sl | exact ca_slc) rfl (by repeat' (first | exact ones0 | apply ones1 | exact one_v rfl | exact one_v (by assumption) | exact one_sl | exact one_slc)) (by repeat' (first | exact UpdF.here | apply UpdF.next)) (by repeat' (first | exact sc_0 | apply SetC.here | apply SetC.next)) ?_)
    | (refine al_store_row rfl rfl rfl el_ (by first | exact od rfl | exact og rfl (by assumption)) (by first | exact od rfl | exact og rfl (by assumption)) (by repeat' (first | exact UpdF.here | apply UpdF.next)) (by first | omega | (simp only [List.length_append, List.length_nil, List.length_cons, List.nil_append, List.length_replicate, List.length_set]; omega)) (by first | exact ca_cell | exact ca_v (by rfl)) ?_)
    | (refine al_empty rfl rfl rfl rfl un_ el_ ?_; intro u hu1 hu2)
    | (refine al_make rfl rfl rfl rfl un_ el_ (by first | exact odln rfl (by with_reducible rfl) | exact odn rfl | exact ogn rfl (by assumption)) (by first | exact odln rfl (by with_reducible rfl) | exact odn rfl | exact ogn rfl (by assumption)) (by omega) (by simp only [maxLen]; omega) ?_; intro u hu1 hu2)
    | (refine al_append rfl rfl rfl rfl un_ el_ (by first | exact od rfl | exact og rfl (by assumption)) (by first | exact od rfl | exact og rfl (by assumption)) (by repeat' (first | exact UpdF.here | apply UpdF.next)) ?h1 ?h2 ?_
       case h1 => (try simp only [List.length_append, List.length_nil, List.length_cons, List.nil_append, List.length_replicate, List.length_set]); omega
       case h2 => (try simp only [List.length_append, List.length_nil, List.length_cons, List.nil_append, List.length_replicate, List.length_set]); simp only [maxLen]; omega
       intro u hu1 hu2)
    | (refine al_copy_row rfl rfl rfl rfl un_ el_ (by first | exact od rfl | exact og rfl (by assumption)) (by first | exact od rfl | exact og rfl (by assumption)) (by repeat' (first | exact UpdF.here | apply UpdF.next)) ?_)
    | (refine al_copy_sub rfl rfl rfl rfl un_ el_ (by first | exact od rfl | exact og rfl (by assumption)) (by first | exact od rfl | exact og rfl (by assumption)) (by repeat' (first | exact UpdF.here | apply UpdF.next)) (by first | omega | (simp only [List.length_append, List.length_nil, List.length_cons, List.nil_append, List.length_replicate, List.length_set]; omega)) ?_)
  | (refine al_last (by kernel_rfl) ?_)
  | fail)
  exact ⟨_, [], (by first | exact res1 rfl rfl | exact res2 rfl rfl rfl | exact res3 rfl rfl rfl rfl | exact res0 rfl | ((first | apply resM1 rfl rfl | apply resM2 rfl rfl rfl) <;> (repeat' (first | exact List.Mem.head _ | apply List.Mem.tail | exact agg_ | exact sz_ | rfl)); done)), List.nil_sublist _, Sub.refl _, rfl⟩
theorem f_fill (w h : Nat) (hb : w * h ≤ 100000) : AF Tryd.prog tab0 29 [I w, I h] [] (fun A M' => ∃ u, A = aggA [I w, I h, vA u] ∧ M' = [rowO cellT 30 u (List.replicate (w * h) (32, 0))]) := by
  have hnn : (0 : Int) ≤ ((w * h : Nat) : Int) := Int.natCast_nonneg _
  refine af_intro Tryd.func29 rfl (by decide) Tryd.ntmps29 rfl ?_
  repeat' (first
  | fail
  | refine aw_seq ?_
    | refine aw_region0 ?_
    | refine al_nil ?_
    | refine th_n ?_
    | refine th_e ?_
    | refine th_r ?_
    | refine ib_n ?_
    | refine ib_e rfl ?_
    | refine ib_e' rfl ?_
    | refine ib_r ?_
    | refine aw_block ?_
    | refine aw_exit ?_
    | refine aw_ret ?_
    | refine aw_skip ?_
    | refine aw_region1 (by kernel_rfl) (by kernel_rfl) ?_
    | (refine aw_cond rfl ?_ ?_ <;> intro hb <;> (try simp only [decide_eq_true_eq, decide_eq_false_iff_not, Bool.and_eq_true, Bool.or_eq_true, Bool.not_eq_true', Bool.and_eq_false_iff, Bool.or_eq_false_iff, Bool.not_eq_false'] at hb) <;> (first | (exfalso; omega) | skip))
  | (apply al_y
     case hy =>
      first
      | apply qy_plain rfl
      | apply qy_run rfl rfl (guard_b rfl) rfl
      | exact qy_skip rfl rfl (guard_b rfl) rfl
      | (apply qy_gv rfl rfl (by first | exact guard_b rfl | exact guard_gv rfl); intro hk; have hk2 := hk; (try simp only [Bool.true_and, Bool.and_eq_true, Bool.or_eq_true, beq_iff_eq, decide_eq_true_eq, decide_eq_false_iff_not, Bool.not_eq_true', Bool.not_eq_false', Bool.and_eq_false_iff, Bool.or_eq_false_iff] at hk2))
      first
      | fail
      | ((first | apply ay_move rfl | apply ay_assign rfl | apply ay_not rfl | apply ay_lss rfl | apply ay_leq rfl | apply ay_gtr rfl | apply ay_geq rfl | apply k_eql rfl | apply k_neq rfl | apply ay_and rfl | apply ay_or rfl | apply ay_call rfl | apply k_len rfl | apply k_ix rfl | apply k_ld rfl | apply k_fa rfl | apply k_fd rfl | apply ay_build rfl st_ | apply ay_extract rfl | apply ay_slice rfl un_ el_ | apply bs_cell1 rfl un_ | apply bs_cell2 rfl un_ | apply kn_add rfl | apply kn_sub rfl | apply kn_mul rfl | apply kn_quo rfl | apply kn_rem rfl | apply kn_min rfl)
       <;> (repeat' (
        first
        | ((first | refine og rfl ?_ | refine ogn rfl ?_); (first | assumption | (refine gd ?_ ?_ <;> assumption) | (refine gd rfl ?_; assumption) | (apply gl; assumption) | (refine gd (by apply gl; assumption) ?_; assumption) | (simp_all; done))) | exact odln rfl (by with_reducible rfl) | exact odn rfl | exact od rfl
        | exact f_blank
        | exact un_ | exact el_ | exact agg_ | exact sz_ | exact sp_ | exact fl_ | exact st_ | exact List.Mem.head _ | apply List.Mem.tail | exact SubC.nil | apply SubC.here | apply SubC.next
        | exact nk_sl un_ | apply mk_len un_ | exact nk_sub un_ | apply ik_sl un_ el_ | apply mk_ix un_ el_ | apply ik_sub un_ el_
        | exact lk_el el_ | exact lk_1 agg_ | apply v1_ | apply vn_ | apply mk_r el_ | apply r1_
        | exact ak_ip fl_ sp_ | exact ak_var fl_ sp_ | exact ak_row fl_ sp_ | exact dk_1 fl_ agg_ rfl | apply fn_
        | exact ek_int | exact ek_bool un_ | exact ek_cell
        | exact fit64 (by omega) (by omega) | exact fit32 (by omega) (by omega) | exact fit8 (by omega) (by omega)
        | exact pa_nil | apply pk | exact ca_agg | exact ca_v rfl | exact ca_v (by assumption) | exact ca_sl | exact sc_0 | apply SetC.here | apply SetC.next
        | exact opds0 | apply opds1 | exact lo_none | apply lo_k | exact hi_none | apply hi_k
        | exact rfl | omega | exact (by first | exact hat | exact c_in (by first | omega | (simp only [List.length_append, List.length_nil, List.length_cons, List.nil_append, List.length_replicate, List.length_set]; omega)) | exact List.getElem?_eq_getElem (by first | omega | (simp only [List.length_append, List.length_nil, List.length_cons, List.nil_append, List.length_replicate, List.length_set]; omega))) | (simp only [List.length_append, List.length_nil, List.length_cons, List.nil_append, List.length_replicate, List.length_set]; omega) | intro hp)); done)
      | (refine my_slice rfl un_ el_ (by first | exact od rfl | exact og rfl (by assumption)) (by repeat' (first | exact List.Mem.head _ | apply List.Mem.tail)) (by first | exact odln rfl (by with_reducible rfl) | exact odn rfl | exact ogn rfl (by assumption)) (by first | exact odln rfl (by with_reducible rfl) | exact odn rfl | exact ogn rfl (by assumption)) (by first | omega | (simp only [List.length_append, List.length_nil, List.length_cons, List.nil_append, List.length_replicate, List.length_set]; omega)) (by first | omega | (simp only [List.length_append, List.length_nil, List.length_cons, List.nil_append, List.length_replicate, List.length_set]; omega)))
      | ((first | apply ay_add rfl | apply ay_sub rfl | apply ay_mul rfl | apply ay_quo rfl | apply ay_rem rfl)
       <;> first | exact (by first | (refine og rfl ?_; (first | assumption | (refine gd ?_ ?_ <;> assumption) | (refine gd rfl ?_; assumption) | (apply gl; assumption) | (refine gd (by apply gl; assumption) ?_; assumption) | (simp_all; done))) | exact od rfl) | omega | exact (by first | exact fit64 (by omega) (by omega) | exact fit32 (by omega) (by omega) | exact fit8 (by omega) (by omega)))
     case hx => rfl
     case hd => rfl)
  | (refine al_alloc rfl rfl rfl rfl al_ ?_; intro bb)
    | (refine al_box rfl rfl rfl rfl (by first | exact od rfl | exact og rfl (by assumption)) (by first | exact ca_agg | exact ca_v rfl | exact ca_v (by assumption) | exact ca_sl | exact ca_slc) ?_; intro bb)
    | (refine al_store_var rfl rfl rfl sz_ (by first | exact od rfl | exact og rfl (by assumption)) (by first | exact od rfl | exact og rfl (by assumption)) (by first | exact ca_agg | exact ca_v rfl | exact ca_v (by assumption) | exact ca_sl | exact ca_slc) rfl (by repeat' (first | exact ones0 | apply ones1 | exact one_v rfl | exact one_v (by assumption) | exact one_sl | exact one_slc)) (by repeat' (first | exact UpdF.here | apply UpdF.next)) (by repeat' (first | exact sc_0 | apply SetC.here | apply SetC.next)) ?_)
    | (refine al_store_row rfl rfl rfl el_ (by first | exact od rfl | exact og rfl (by assumption)) (by first | exact od rfl | exact og rfl (by assumption)) (by repeat' (first | exact UpdF.here | apply UpdF.next)) (by first | omega | (simp only [List.length_append, List.length_nil, List.length_cons, List.nil_append, List.length_replicate, List.length_set]; omega)) (by first | exact ca_cell | exact ca_v (by rfl)) ?_)
    | (refine al_empty rfl rfl rfl rfl un_ el_ ?_; intro u hu1 hu2)
    | (refine al_make rfl rfl rfl rfl un_ el_ (by first | exact odln rfl (by with_reducible rfl) | exact odn rfl | exact ogn rfl (by assumption)) (by first | exact odln rfl (by with_reducible rfl) | exact odn rfl | exact ogn rfl (by assumption)) (by omega) (by simp only [maxLen]; omega) ?_; intro u hu1 hu2)
    | (refine al_append rfl rfl rfl rfl un_ el_ (by first | exact od rfl | exact og rfl (by assumption)) (by first | exact od rfl | exact og rfl (by assumption)) (by repeat' (first | exact UpdF.here | apply UpdF.next)) ?h1 ?h2 ?_
       case h1 => (try simp only [List.length_append, List.length_nil, List.length_cons, List.nil_append, List.length_replicate, List.length_set]); omega
       case h2 => (try simp only [List.length_append, List.length_nil, List.length_cons, List.nil_append, List.length_replicate, List.length_set]); simp only [maxLen]; omega
       intro u hu1 hu2)
    | (refine al_copy_row rfl rfl rfl rfl un_ el_ (by first | exact od rfl | exact og rfl (by assumption)) (by first | exact od rfl | exact og rfl (by assumption)) (by repeat' (first | exact UpdF.here | apply UpdF.next)) ?_)
    | (refine al_copy_sub rfl rfl rfl rfl un_ el_ (by first | exact od rfl | exact og rfl (by assumption)) (by first | exact od rfl | exact og rfl (by assumption)) (by repeat' (first | exact UpdF.here | apply UpdF.next)) (by first | omega | (simp only [List.length_append, List.length_nil, List.length_cons, List.nil_append, List.length_replicate, List.length_set]; omega)) ?_)
  | (refine al_last (by kernel_rfl) ?_)
  | fail)
  simp only [List.length_replicate]
  refine aw_for (fun k : Nat => [(0, I w), (1, I h), (4, vA (.pointer (some ⟨bb, 0, none⟩))), (5, vA u), (12, I (w * h : Nat)), (13, I k)]) (fun k => [rowO cellT 30 u (List.replicate k (32, 0) ++ List.replicate (w * h - k) (0, 0)), varO bb 24 [I 0, I 0, vA (.slice none 0 0)]]) (fun k => k ≤ w * h) (fun k => w * h - k) 0 (Nat.zero_le _) (by repeat' (first | exact weak_nil | refine weak_cons rfl ?_ | fail)) rfl ?_
  rintro k h1
  by_cases hlt : k < w * h
  · repeat' (first
    | fail
    | refine aw_seq ?_
      | refine aw_region0 ?_
      | refine al_nil ?_
      | refine th_n ?_
      | refine th_e ?_
      | refine th_r ?_
      | refine ib_n ?_
      | refine ib_e rfl ?_
      | refine ib_e' rfl ?_
      | refine ib_r ?_
      | refine aw_block ?_
      | refine aw_exit ?_
      | refine aw_ret ?_
      | refine aw_skip ?_
      | refine aw_region1 (by kernel_rfl) (by kernel_rfl) ?_
      | (refine aw_cond rfl ?_ ?_ <;> intro hb <;> (try simp only [decide_eq_true_eq, decide_eq_false_iff_not, Bool.and_eq_true, Bool.or_eq_true, Bool.not_eq_true', Bool.and_eq_false_iff, Bool.or_eq_false_iff, Bool.not_eq_false'] at hb) <;> (first | (exfalso; omega) | skip))
    | (apply al_y
       case hy =>
        first
        | apply qy_plain rfl
        | apply qy_run rfl rfl (guard_b rfl) rfl
        | exact qy_skip rfl rfl (guard_b rfl) rfl
        | (apply qy_gv rfl rfl (by first | exact guard_b rfl | exact guard_gv rfl); intro hk; have hk2 := hk; (try simp only [Bool.true_and, Bool.and_eq_true, Bool.or_eq_true, beq_iff_eq, decide_eq_true_eq, decide_eq_false_iff_not, Bool.not_eq_true', Bool.not_eq_false', Bool.and_eq_false_iff, Bool.or_eq_false_iff] at hk2))
        first
        | fail
        | ((first | apply ay_move rfl | apply ay_assign rfl | apply ay_not rfl | apply ay_lss rfl | apply ay_leq rfl | apply ay_gtr rfl | apply ay_geq rfl | apply k_eql rfl | apply k_neq rfl | apply ay_and rfl | apply ay_or rfl | apply ay_call rfl | apply k_len rfl | apply k_ix rfl | apply k_ld rfl | apply k_fa rfl | apply k_fd rfl | apply ay_build rfl st_ | apply ay_extract rfl | apply ay_slice rfl un_ el_ | apply bs_cell1 rfl un_ | apply bs_cell2 rfl un_ | apply kn_add rfl | apply kn_sub rfl | apply kn_mul rfl | apply kn_quo rfl | apply kn_rem rfl | apply kn_min rfl)
         <;> (repeat' (
          first
          | ((first | refine og rfl ?_ | refine ogn rfl ?_); (first | assumption | (refine gd ?_ ?_ <;> assumption) | (refine gd rfl ?_; assumption) | (apply gl; assumption) | (refine gd (by apply gl; assumption) ?_; assumption) | (simp_all; done))) | exact odln rfl (by with_reducible rfl) | exact odn rfl | exact od rfl
          | exact f_blank
          | exact un_ | exact el_ | exact agg_ | exact sz_ | exact sp_ | exact fl_ | exact st_ | exact List.Mem.head _ | apply List.Mem.tail | exact SubC.nil | apply SubC.here | apply SubC.next
          | exact nk_sl un_ | apply mk_len un_ | exact nk_sub un_ | apply ik_sl un_ el_ | apply mk_ix un_ el_ | apply ik_sub un_ el_
          | exact lk_el el_ | exact lk_1 agg_ | apply v1_ | apply vn_ | apply mk_r el_ | apply r1_
          | exact ak_ip fl_ sp_ | exact ak_var fl_ sp_ | exact ak_row fl_ sp_ | exact dk_1 fl_ agg_ rfl | apply fn_
          | exact ek_int | exact ek_bool un_ | exact ek_cell
          | exact fit64 (by omega) (by omega) | exact fit32 (by omega) (by omega) | exact fit8 (by omega) (by omega)
          | exact pa_nil | apply pk | exact ca_agg | exact ca_v rfl | exact ca_v (by assumption) | exact ca_sl | exact sc_0 | apply SetC.here | apply SetC.next
          | exact opds0 | apply opds1 | exact lo_none | apply lo_k | exact hi_none | apply hi_k
          | exact rfl | omega | exact (by first | exact hat | exact c_in (by first | omega | (simp only [List.length_append, List.length_nil, List.length_cons, List.nil_append, List.length_replicate, List.length_set]; omega)) | exact List.getElem?_eq_getElem (by first | omega | (simp only [List.length_append, List.length_nil, List.length_cons, List.nil_append, List.length_replicate, List.length_set]; omega))) | (simp only [List.length_append, List.length_nil, List.length_cons, List.nil_append, List.length_replicate, List.length_set]; omega) | intro hp)); done)
        | (refine my_slice rfl un_ el_ (by first | exact od rfl | exact og rfl (by assumption)) (by repeat' (first | exact List.Mem.head _ | apply List.Mem.tail)) (by first | exact odln rfl (by with_reducible rfl) | exact odn rfl | exact ogn rfl (by assumption)) (by first | exact odln rfl (by with_reducible rfl) | exact odn rfl | exact ogn rfl (by assumption)) (by first | omega | (simp only [List.length_append, List.length_nil, List.length_cons, List.nil_append, List.length_replicate, List.length_set]; omega)) (by first | omega | (simp only [List.length_append, List.length_nil, List.length_cons, List.nil_append, List.length_replicate, List.length_set]; omega)))
        | ((first | apply ay_add rfl | apply ay_sub rfl | apply ay_mul rfl | apply ay_quo rfl | apply ay_rem rfl)
         <;> first | exact (by first | (refine og rfl ?_; (first | assumption | (refine gd ?_ ?_ <;> assumption) | (refine gd rfl ?_; assumption) | (apply gl; assumption) | (refine gd (by apply gl; assumption) ?_; assumption) | (simp_all; done))) | exact od rfl) | omega | exact (by first | exact fit64 (by omega) (by omega) | exact fit32 (by omega) (by omega) | exact fit8 (by omega) (by omega)))
       case hx => rfl
       case hd => rfl)
    | (refine al_alloc rfl rfl rfl rfl al_ ?_; intro bb)
      | (refine al_box rfl rfl rfl rfl (by first | exact od rfl | exact og rfl (by assumption)) (by first | exact ca_agg | exact ca_v rfl | exact ca_v (by assumption) | exact ca_sl | exact ca_slc) ?_; intro bb)
      | (refine al_store_var rfl rfl rfl sz_ (by first | exact od rfl | exact og rfl (by assumption)) (by first | exact od rfl | exact og rfl (by assumption)) (by first | exact ca_agg | exact ca_v rfl | exact ca_v (by assumption) | exact ca_sl | exact ca_slc) rfl (by repeat' (first | exact ones0 | apply ones1 | exact one_v rfl | exact one_v (by assumption) | exact one_sl | exact one_slc)) (by repeat' (first | exact UpdF.here | apply UpdF.next)) (by repeat' (first | exact sc_0 | apply SetC.here | apply SetC.next)) ?_)
      | (refine al_store_row rfl rfl rfl el_ (by first | exact od rfl | exact og rfl (by assumption)) (by first | exact od rfl | exact og rfl (by assumption)) (by repeat' (first | exact UpdF.here | apply UpdF.next)) (by first | omega | (simp only [List.length_append, List.length_nil, List.length_cons, List.nil_append, List.length_replicate, List.length_set]; omega)) (by first | exact ca_cell | exact ca_v (by rfl)) ?_)
      | (refine al_empty rfl rfl rfl rfl un_ el_ ?_; intro u hu1 hu2)
      | (refine al_make rfl rfl rfl rfl un_ el_ (by first | exact odln rfl (by with_reducible rfl) | exact odn rfl | exact ogn rfl (by assumption)) (by first | exact odln rfl (by with_reducible rfl) | exact odn rfl | exact ogn rfl (by assumption)) (by omega) (by simp only [maxLen]; omega) ?_; intro u hu1 hu2)
      | (refine al_append rfl rfl rfl rfl un_ el_ (by first | exact od rfl | exact og rfl (by assumption)) (by first | exact od rfl | exact og rfl (by assumption)) (by repeat' (first | exact UpdF.here | apply UpdF.next)) ?h1 ?h2 ?_
         case h1 => (try simp only [List.length_append, List.length_nil, List.length_cons, List.nil_append, List.length_replicate, List.length_set]); omega
         case h2 => (try simp only [List.length_append, List.length_nil, List.length_cons, List.nil_append, List.length_replicate, List.length_set]); simp only [maxLen]; omega
         intro u hu1 hu2)
      | (refine al_copy_row rfl rfl rfl rfl un_ el_ (by first | exact od rfl | exact og rfl (by assumption)) (by first | exact od rfl | exact og rfl (by assumption)) (by repeat' (first | exact UpdF.here | apply UpdF.next)) ?_)
      | (refine al_copy_sub rfl rfl rfl rfl un_ el_ (by first | exact od rfl | exact og rfl (by assumption)) (by first | exact od rfl | exact og rfl (by assumption)) (by repeat' (first | exact UpdF.here | apply UpdF.next)) (by first | omega | (simp only [List.length_append, List.length_nil, List.length_cons, List.nil_append, List.length_replicate, List.length_set]; omega)) ?_)
    | (refine al_last (by kernel_rfl) ?_)
    | fail)
    refine ⟨k + 1, by omega, by omega, (by repeat' (first | exact weak_nil | refine weak_cons rfl ?_ | fail)), ?_⟩
    rw [set_next _ _ _ _ _ (by simp) hlt, List.replicate_succ']
  · repeat' (first
    | fail
    | refine aw_seq ?_
      | refine aw_region0 ?_
      | refine al_nil ?_
      | refine th_n ?_
      | refine th_e ?_
      | refine th_r ?_
      | refine ib_n ?_
      | refine ib_e rfl ?_
      | refine ib_e' rfl ?_
      | refine ib_r ?_
      | refine aw_block ?_
      | refine aw_exit ?_
      | refine aw_ret ?_
      | refine aw_skip ?_
      | refine aw_region1 (by kernel_rfl) (by kernel_rfl) ?_
      | (refine aw_cond rfl ?_ ?_ <;> intro hb <;> (try simp only [decide_eq_true_eq, decide_eq_false_iff_not, Bool.and_eq_true, Bool.or_eq_true, Bool.not_eq_true', Bool.and_eq_false_iff, Bool.or_eq_false_iff, Bool.not_eq_false'] at hb) <;> (first | (exfalso; omega) | skip))
    | (apply al_y
       case hy =>
        first
        | apply qy_plain rfl
        | apply qy_run rfl rfl (guard_b rfl) rfl
        | exact qy_skip rfl rfl (guard_b rfl) rfl
        | (apply qy_gv rfl rfl (by first | exact guard_b rfl | exact guard_gv rfl); intro hk; have hk2 := hk; (try simp only [Bool.true_and, Bool.and_eq_true, Bool.or_eq_true, beq_iff_eq, decide_eq_true_eq, decide_eq_false_iff_not, Bool.not_eq_true', Bool.not_eq_false', Bool.and_eq_false_iff, Bool.or_eq_false_iff] at hk2))
        first
        | fail
        | ((first | apply ay_move rfl | apply ay_assign rfl | apply ay_not rfl | apply ay_lss rfl | apply ay_leq rfl | apply ay_gtr rfl | apply ay_geq rfl | apply k_eql rfl | apply k_neq rfl | apply ay_and rfl | apply ay_or rfl | apply ay_call rfl | apply k_len rfl | apply k_ix rfl | apply k_ld rfl | apply k_fa rfl | apply k_fd rfl | apply ay_build rfl st_ | apply ay_extract rfl | apply ay_slice rfl un_ el_ | apply bs_cell1 rfl un_ | apply bs_cell2 rfl un_ | apply kn_add rfl | apply kn_sub rfl | apply kn_mul rfl | apply kn_quo rfl | apply kn_rem rfl | apply kn_min rfl)
         <;> (repeat' (
          first
          | ((first | refine og rfl ?_ | refine ogn rfl ?_); (first | assumption | (refine gd ?_ ?_ <;> assumption) | (refine gd rfl ?_; assumption) | (apply gl; assumption) | (refine gd (by apply gl; assumption) ?_; assumption) | (simp_all; done))) | exact odln rfl (by with_reducible rfl) | exact odn rfl | exact od rfl
          | exact f_blank
          | exact un_ | exact el_ | exact agg_ | exact sz_ | exact sp_ | exact fl_ | exact st_ | exact List.Mem.head _ | apply List.Mem.tail | exact SubC.nil | apply SubC.here | apply SubC.next
          | exact nk_sl un_ | apply mk_len un_ | exact nk_sub un_ | apply ik_sl un_ el_ | apply mk_ix un_ el_ | apply ik_sub un_ el_
          | exact lk_el el_ | exact lk_1 agg_ | apply v1_ | apply vn_ | apply mk_r el_ | apply r1_
          | exact ak_ip fl_ sp_ | exact ak_var fl_ sp_ | exact ak_row fl_ sp_ | exact dk_1 fl_ agg_ rfl | apply fn_
          | exact ek_int | exact ek_bool un_ | exact ek_cell
          | exact fit64 (by omega) (by omega) | exact fit32 (by omega) (by omega) | exact fit8 (by omega) (by omega)
          | exact pa_nil | apply pk | exact ca_agg | exact ca_v rfl | exact ca_v (by assumption) | exact ca_sl | exact sc_0 | apply SetC.here | apply SetC.next
          | exact opds0 | apply opds1 | exact lo_none | apply lo_k | exact hi_none | apply hi_k
          | exact rfl | omega | exact (by first | exact hat | exact c_in (by first | omega | (simp only [List.length_append, List.length_nil, List.length_cons, List.nil_append, List.length_replicate, List.length_set]; omega)) | exact List.getElem?_eq_getElem (by first | omega | (simp only [List.length_append, List.length_nil, List.length_cons, List.nil_append, List.length_replicate, List.length_set]; omega))) | (simp only [List.length_append, List.length_nil, List.length_cons, List.nil_append, List.length_replicate, List.length_set]; omega) | intro hp)); done)
        | (refine my_slice rfl un_ el_ (by first | exact od rfl | exact og rfl (by assumption)) (by repeat' (first | exact List.Mem.head _ | apply List.Mem.tail)) (by first | exact odln rfl (by with_reducible rfl) | exact odn rfl | exact ogn rfl (by assumption)) (by first | exact odln rfl (by with_reducible rfl) | exact odn rfl | exact ogn rfl (by assumption)) (by first | omega | (simp only [List.length_append, List.length_nil, List.length_cons, List.nil_append, List.length_replicate, List.length_set]; omega)) (by first | omega | (simp only [List.length_append, List.length_nil, List.length_cons, List.nil_append, List.length_replicate, List.length_set]; omega)))
        | ((first | apply ay_add rfl | apply ay_sub rfl | apply ay_mul rfl | apply ay_quo rfl | apply ay_rem rfl)
         <;> first | exact (by first | (refine og rfl ?_; (first | assumption | (refine gd ?_ ?_ <;> assumption) | (refine gd rfl ?_; assumption) | (apply gl; assumption) | (refine gd (by apply gl; assumption) ?_; assumption) | (simp_all; done))) | exact od rfl) | omega | exact (by first | exact fit64 (by omega) (by omega) | exact fit32 (by omega) (by omega) | exact fit8 (by omega) (by omega)))
       case hx => rfl
       case hd => rfl)
    | (refine al_alloc rfl rfl rfl rfl al_ ?_; intro bb)
      | (refine al_box rfl rfl rfl rfl (by first | exact od rfl | exact og rfl (by assumption)) (by first | exact ca_agg | exact ca_v rfl | exact ca_v (by assumption) | exact ca_sl | exact ca_slc) ?_; intro bb)
      | (refine al_store_var rfl rfl rfl sz_ (by first | exact od rfl | exact og rfl (by assumption)) (by first | exact od rfl | exact og rfl (by assumption)) (by first | exact ca_agg | exact ca_v rfl | exact ca_v (by assumption) | exact ca_sl | exact ca_slc) rfl (by repeat' (first | exact ones0 | apply ones1 | exact one_v rfl | exact one_v (by assumption) | exact one_sl | exact one_slc)) (by repeat' (first | exact UpdF.here | apply UpdF.next)) (by repeat' (first | exact sc_0 | apply SetC.here | apply SetC.next)) ?_)
      | (refine al_store_row rfl rfl rfl el_ (by first | exact od rfl | exact og rfl (by assumption)) (by first | exact od rfl | exact og rfl (by assumption)) (by repeat' (first | exact UpdF.here | apply UpdF.next)) (by first | omega | (simp only [List.length_append, List.length_nil, List.length_cons, List.nil_append, List.length_replicate, List.length_set]; omega)) (by first | exact ca_cell | exact ca_v (by rfl)) ?_)
      | (refine al_empty rfl rfl rfl rfl un_ el_ ?_; intro u hu1 hu2)
      | (refine al_make rfl rfl rfl rfl un_ el_ (by first | exact odln rfl (by with_reducible rfl) | exact odn rfl | exact ogn rfl (by assumption)) (by first | exact odln rfl (by with_reducible rfl) | exact odn rfl | exact ogn rfl (by assumption)) (by omega) (by simp only [maxLen]; omega) ?_; intro u hu1 hu2)
      | (refine al_append rfl rfl rfl rfl un_ el_ (by first | exact od rfl | exact og rfl (by assumption)) (by first | exact od rfl | exact og rfl (by assumption)) (by repeat' (first | exact UpdF.here | apply UpdF.next)) ?h1 ?h2 ?_
         case h1 => (try simp only [List.length_append, List.length_nil, List.length_cons, List.nil_append, List.length_replicate, List.length_set]); omega
         case h2 => (try simp only [List.length_append, List.length_nil, List.length_cons, List.nil_append, List.length_replicate, List.length_set]); simp only [maxLen]; omega
         intro u hu1 hu2)
      | (refine al_copy_row rfl rfl rfl rfl un_ el_ (by first | exact od rfl | exact og rfl (by assumption)) (by first | exact od rfl | exact og rfl (by assumption)) (by repeat' (first | exact UpdF.here | apply UpdF.next)) ?_)
      | (refine al_copy_sub rfl rfl rfl rfl un_ el_ (by first | exact od rfl | exact og rfl (by assumption)) (by first | exact od rfl | exact og rfl (by assumption)) (by repeat' (first | exact UpdF.here | apply UpdF.next)) (by first | omega | (simp only [List.length_append, List.length_nil, List.length_cons, List.nil_append, List.length_replicate, List.length_set]; omega)) ?_)
    | (refine al_last (by kernel_rfl) ?_)
    | fail)
    refine ⟨_, _, (by first | exact res1 rfl rfl | exact res2 rfl rfl rfl | exact res3 rfl rfl rfl rfl | exact res0 rfl | ((first | apply resM1 rfl rfl | apply resM2 rfl rfl rfl) <;> (repeat' (first | exact List.Mem.head _ | apply List.Mem.tail | exact agg_ | exact sz_ | rfl)); done)), (List.Sublist.cons_cons _ (List.nil_sublist _)), u, rfl, ?_⟩
    rw [show w * h - k = 0 by omega, show k = w * h by omega, List.replicate_zero, List.append_nil]
theorem f_own (w h : Int) (l : List Cell) (hl : l.length ≤ 100000) : AF Tryd.prog tab0 37 [gridA w h l] [] (fun A M' => ∃ u, A = aggA [I w, I h, vA u] ∧ M' = [rowO cellT 30 u l]) := by
  refine af_intro Tryd.func37 rfl (by decide) Tryd.ntmps37 rfl ?_
  repeat' (first
  | fail
  | refine aw_seq ?_
    | refine aw_region0 ?_
    | refine al_nil ?_
    | refine th_n ?_
    | refine th_e ?_
    | refine th_r ?_
    | refine ib_n ?_
    | refine ib_e rfl ?_
    | refine ib_e' rfl ?_
    | refine ib_r ?_
    | refine aw_block ?_
    | refine aw_exit ?_
    | refine aw_ret ?_
    | refine aw_skip ?_
    | refine aw_region1 (by kernel_rfl) (by kernel_rfl) ?_
    | (refine aw_cond rfl ?_ ?_ <;> intro hb <;> (try simp only [decide_eq_true_eq, decide_eq_false_iff_not, Bool.and_eq_true, Bool.or_eq_true, Bool.not_eq_true', Bool.and_eq_false_iff, Bool.or_eq_false_iff, Bool.not_eq_false'] at hb) <;> (first | (exfalso; omega) | skip))
  | (apply al_y
     case hy =>
      first
      | apply qy_plain rfl
      | apply qy_run rfl rfl (guard_b rfl) rfl
      | exact qy_skip rfl rfl (guard_b rfl) rfl
      | (apply qy_gv rfl rfl (by first | exact guard_b rfl | exact guard_gv rfl); intro hk; have hk2 := hk; (try simp only [Bool.true_and, Bool.and_eq_true, Bool.or_eq_true, beq_iff_eq, decide_eq_true_eq, decide_eq_false_iff_not, Bool.not_eq_true', Bool.not_eq_false', Bool.and_eq_false_iff, Bool.or_eq_false_iff] at hk2))
      first
      | fail
      | ((first | apply ay_move rfl | apply ay_assign rfl | apply ay_not rfl | apply ay_lss rfl | apply ay_leq rfl | apply ay_gtr rfl | apply ay_geq rfl | apply k_eql rfl | apply k_neq rfl | apply ay_and rfl | apply ay_or rfl | apply ay_call rfl | apply k_len rfl | apply k_ix rfl | apply k_ld rfl | apply k_fa rfl | apply k_fd rfl | apply ay_build rfl st_ | apply ay_extract rfl | apply ay_slice rfl un_ el_ | apply bs_cell1 rfl un_ | apply bs_cell2 rfl un_ | apply kn_add rfl | apply kn_sub rfl | apply kn_mul rfl | apply kn_quo rfl | apply kn_rem rfl | apply kn_min rfl)
       <;> (repeat' (
        first
        | ((first | refine og rfl ?_ | refine ogn rfl ?_); (first | assumption | (refine gd ?_ ?_ <;> assumption) | (refine gd rfl ?_; assumption) | (apply gl; assumption) | (refine gd (by apply gl; assumption) ?_; assumption) | (simp_all; done))) | exact odln rfl (by with_reducible rfl) | exact odn rfl | exact od rfl
        | exact f_blank
        | exact un_ | exact el_ | exact agg_ | exact sz_ | exact sp_ | exact fl_ | exact st_ | exact List.Mem.head _ | apply List.Mem.tail | exact SubC.nil | apply SubC.here | apply SubC.next
        | exact nk_sl un_ | apply mk_len un_ | exact nk_sub un_ | apply ik_sl un_ el_ | apply mk_ix un_ el_ | apply ik_sub un_ el_
        | exact lk_el el_ | exact lk_1 agg_ | apply v1_ | apply vn_ | apply mk_r el_ | apply r1_
        | exact ak_ip fl_ sp_ | exact ak_var fl_ sp_ | exact ak_row fl_ sp_ | exact dk_1 fl_ agg_ rfl | apply fn_
        | exact ek_int | exact ek_bool un_ | exact ek_cell
        | exact fit64 (by omega) (by omega) | exact fit32 (by omega) (by omega) | exact fit8 (by omega) (by omega)
        | exact pa_nil | apply pk | exact ca_agg | exact ca_v rfl | exact ca_v (by assumption) | exact ca_sl | exact sc_0 | apply SetC.here | apply SetC.next
        | exact opds0 | apply opds1 | exact lo_none | apply lo_k | exact hi_none | apply hi_k
        | exact rfl | omega | exact (by first | exact hat | exact c_in (by first | omega | (simp only [List.length_append, List.length_nil, List.length_cons, List.nil_append, List.length_replicate, List.length_set]; omega)) | exact List.getElem?_eq_getElem (by first | omega | (simp only [List.length_append, List.length_nil, List.length_cons, List.nil_append, List.length_replicate, List.length_set]; omega))) | (simp only [List.length_append, List.length_nil, List.length_cons, List.nil_append, List.length_replicate, List.length_set]; omega) | intro hp)); done)
      | (refine my_slice rfl un_ el_ (by first | exact od rfl | exact og rfl (by assumption)) (by repeat' (first | exact List.Mem.head _ | apply List.Mem.tail)) (by first | exact odln rfl (by with_reducible rfl) | exact odn rfl | exact ogn rfl (by assumption)) (by first | exact odln rfl (by with_reducible rfl) | exact odn rfl | exact ogn rfl (by assumption)) (by first | omega | (simp only [List.length_append, List.length_nil, List.length_cons, List.nil_append, List.length_replicate, List.length_set]; omega)) (by first | omega | (simp only [List.length_append, List.length_nil, List.length_cons, List.nil_append, List.length_replicate, List.length_set]; omega)))
      | ((first | apply ay_add rfl | apply ay_sub rfl | apply ay_mul rfl | apply ay_quo rfl | apply ay_rem rfl)
       <;> first | exact (by first | (refine og rfl ?_; (first | assumption | (refine gd ?_ ?_ <;> assumption) | (refine gd rfl ?_; assumption) | (apply gl; assumption) | (refine gd (by apply gl; assumption) ?_; assumption) | (simp_all; done))) | exact od rfl) | omega | exact (by first | exact fit64 (by omega) (by omega) | exact fit32 (by omega) (by omega) | exact fit8 (by omega) (by omega)))
     case hx => rfl
     case hd => rfl)
  | (refine al_alloc rfl rfl rfl rfl al_ ?_; intro bb)
    | (refine al_box rfl rfl rfl rfl (by first | exact od rfl | exact og rfl (by assumption)) (by first | exact ca_agg | exact ca_v rfl | exact ca_v (by assumption) | exact ca_sl | exact ca_slc) ?_; intro bb)
    | (refine al_store_var rfl rfl rfl sz_ (by first | exact od rfl | exact og rfl (by assumption)) (by first | exact od rfl | exact og rfl (by assumption)) (by first | exact ca_agg | exact ca_v rfl | exact ca_v (by assumption) | exact ca_sl | exact ca_slc) rfl (by repeat' (first | exact ones0 | apply ones1 | exact one_v rfl | exact one_v (by assumption) | exact one_sl | exact one_slc)) (by repeat' (first | exact UpdF.here | apply UpdF.next)) (by repeat' (first | exact sc_0 | apply SetC.here | apply SetC.next)) ?_)
    | (refine al_store_row rfl rfl rfl el_ (by first | exact od rfl | exact og rfl (by assumption)) (by first | exact od rfl | exact og rfl (by assumption)) (by repeat' (first | exact UpdF.here | apply UpdF.next)) (by first | omega | (simp only [List.length_append, List.length_nil, List.length_cons, List.nil_append, List.length_replicate, List.length_set]; omega)) (by first | exact ca_cell | exact ca_v (by rfl)) ?_)
    | (refine al_empty rfl rfl rfl rfl un_ el_ ?_; intro u hu1 hu2)
    | (refine al_make rfl rfl rfl rfl un_ el_ (by first | exact odln rfl (by with_reducible rfl) | exact odn rfl | exact ogn rfl (by assumption)) (by first | exact odln rfl (by with_reducible rfl) | exact odn rfl | exact ogn rfl (by assumption)) (by omega) (by simp only [maxLen]; omega) ?_; intro u hu1 hu2)
    | (refine al_append rfl rfl rfl rfl un_ el_ (by first | exact od rfl | exact og rfl (by assumption)) (by first | exact od rfl | exact og rfl (by assumption)) (by repeat' (first | exact UpdF.here | apply UpdF.next)) ?h1 ?h2 ?_
       case h1 => (try simp only [List.length_append, List.length_nil, List.length_cons, List.nil_append, List.length_replicate, List.length_set]); omega
       case h2 => (try simp only [List.length_append, List.length_nil, List.length_cons, List.nil_append, List.length_replicate, List.length_set]); simp only [maxLen]; omega
       intro u hu1 hu2)
    | (refine al_copy_row rfl rfl rfl rfl un_ el_ (by first | exact od rfl | exact og rfl (by assumption)) (by first | exact od rfl | exact og rfl (by assumption)) (by repeat' (first | exact UpdF.here | apply UpdF.next)) ?_)
    | (refine al_copy_sub rfl rfl rfl rfl un_ el_ (by first | exact od rfl | exact og rfl (by assumption)) (by first | exact od rfl | exact og rfl (by assumption)) (by repeat' (first | exact UpdF.here | apply UpdF.next)) (by first | omega | (simp only [List.length_append, List.length_nil, List.length_cons, List.nil_append, List.length_replicate, List.length_set]; omega)) ?_)
  | (refine al_last (by kernel_rfl) ?_)
  | fail)
  refine ⟨_, _, (by first | exact res1 rfl rfl | exact res2 rfl rfl rfl | exact res3 rfl rfl rfl rfl | exact res0 rfl | ((first | apply resM1 rfl rfl | apply resM2 rfl rfl rfl) <;> (repeat' (first | exact List.Mem.head _ | apply List.Mem.tail | exact agg_ | exact sz_ | rfl)); done)), (List.Sublist.cons_cons _ (List.nil_sublist _)), u, rfl, ?_⟩
  rw [List.length_replicate, List.take_length, show ovr (List.replicate l.length ((0, 0) : Cell)) 0 l = l by simp [ovr]]
def newR (w h : Int) : (Int × Int × List Cell) × Int := if sidesM w h then ((w, h, List.replicate (w.toNat * h.toNat) (32, 0)), 0) else ((0, 0, []), 4)
def grid2 (x : (Int × Int × List Cell) × Int) : AV := tupA [gridA x.1.1 x.1.2.1 x.1.2.2, I x.2]
theorem side_le {w h : Nat} (hw : w ≤ 80) (hh : h ≤ 24) : w * h ≤ 1920 := Nat.mul_le_mul hw hh
theorem sides_nat {w h : Int} (hs : sidesM w h = true) : ∃ w' h' : Nat, w = w' ∧ h = h' ∧ 2 ≤ w' ∧ w' ≤ 80 ∧ 1 ≤ h' ∧ h' ≤ 24 := by
  simp [sidesM] at hs
  exact ⟨w.toNat, h.toNat, by omega, by omega, by omega, by omega, by omega, by omega⟩
theorem f_NewO (w h : Nat) (h1 : 2 ≤ w) (h2 : w ≤ 80) (h3 : 1 ≤ h) (h4 : h ≤ 24) : AF Tryd.prog tab0 11 [I w, I h] [] (fun A M' => ∃ u, A = tupA [aggA [I w, I h, vA u], I 0] ∧ M' = [rowO cellT 30 u (List.replicate (w * h) (32, 0))]) := by
  have hb := side_le h2 h4
  refine af_intro Tryd.func11 rfl (by decide) Tryd.ntmps11 rfl ?_
  repeat' (first
  | (refine al_call0 rfl rfl rfl rfl (by repeat' (first | exact opds0 | apply opds1 (by first | (refine og rfl ?_; (first | assumption | (refine gd ?_ ?_ <;> assumption) | (refine gd rfl ?_; assumption) | (apply gl; assumption) | (refine gd (by apply gl; assumption) ?_; assumption) | (simp_all; done))) | exact od rfl) | fail)) (f_fill _ _ (by omega)) ?_; rintro _ _ ⟨u, rfl, rfl⟩; refine al_rowc (List.Mem.head _) fun hu1 hu2 => ?_)
  | refine aw_seq ?_
    | refine aw_region0 ?_
    | refine al_nil ?_
    | refine th_n ?_
    | refine th_e ?_
    | refine th_r ?_
    | refine ib_n ?_
    | refine ib_e rfl ?_
    | refine ib_e' rfl ?_
    | refine ib_r ?_
    | refine aw_block ?_
    | refine aw_exit ?_
    | refine aw_ret ?_
    | refine aw_skip ?_
    | refine aw_region1 (by kernel_rfl) (by kernel_rfl) ?_
    | (refine aw_cond rfl ?_ ?_ <;> intro hb <;> (try simp only [decide_eq_true_eq, decide_eq_false_iff_not, Bool.and_eq_true, Bool.or_eq_true, Bool.not_eq_true', Bool.and_eq_false_iff, Bool.or_eq_false_iff, Bool.not_eq_false'] at hb) <;> (first | (exfalso; omega) | skip))
  | (apply al_y
     case hy =>
      first
      | apply qy_plain rfl
      | apply qy_run rfl rfl (guard_b rfl) rfl
      | exact qy_skip rfl rfl (guard_b rfl) rfl
      | (apply qy_gv rfl rfl (by first | exact guard_b rfl | exact guard_gv rfl); intro hk; have hk2 := hk; (try simp only [Bool.true_and, Bool.and_eq_true, Bool.or_eq_true, beq_iff_eq, decide_eq_true_eq, decide_eq_false_iff_not, Bool.not_eq_true', Bool.not_eq_false', Bool.and_eq_false_iff, Bool.or_eq_false_iff] at hk2))
      first
      | fail
      | ((first | apply ay_move rfl | apply ay_assign rfl | apply ay_not rfl | apply ay_lss rfl | apply ay_leq rfl | apply ay_gtr rfl | apply ay_geq rfl | apply k_eql rfl | apply k_neq rfl | apply ay_and rfl | apply ay_or rfl | apply ay_call rfl | apply k_len rfl | apply k_ix rfl | apply k_ld rfl | apply k_fa rfl | apply k_fd rfl | apply ay_build rfl st_ | apply ay_extract rfl | apply ay_slice rfl un_ el_ | apply bs_cell1 rfl un_ | apply bs_cell2 rfl un_ | apply kn_add rfl | apply kn_sub rfl | apply kn_mul rfl | apply kn_quo rfl | apply kn_rem rfl | apply kn_min rfl)
       <;> (repeat' (
        first
        | ((first | refine og rfl ?_ | refine ogn rfl ?_); (first | assumption | (refine gd ?_ ?_ <;> assumption) | (refine gd rfl ?_; assumption) | (apply gl; assumption) | (refine gd (by apply gl; assumption) ?_; assumption) | (simp_all; done))) | exact odln rfl (by with_reducible rfl) | exact odn rfl | exact od rfl
        | fail
        | exact un_ | exact el_ | exact agg_ | exact sz_ | exact sp_ | exact fl_ | exact st_ | exact List.Mem.head _ | apply List.Mem.tail | exact SubC.nil | apply SubC.here | apply SubC.next
        | exact nk_sl un_ | apply mk_len un_ | exact nk_sub un_ | apply ik_sl un_ el_ | apply mk_ix un_ el_ | apply ik_sub un_ el_
        | exact lk_el el_ | exact lk_1 agg_ | apply v1_ | apply vn_ | apply mk_r el_ | apply r1_
        | exact ak_ip fl_ sp_ | exact ak_var fl_ sp_ | exact ak_row fl_ sp_ | exact dk_1 fl_ agg_ rfl | apply fn_
        | exact ek_int | exact ek_bool un_ | exact ek_cell
        | exact fit64 (by omega) (by omega) | exact fit32 (by omega) (by omega) | exact fit8 (by omega) (by omega)
        | exact pa_nil | apply pk | exact ca_agg | exact ca_v rfl | exact ca_v (by assumption) | exact ca_sl | exact sc_0 | apply SetC.here | apply SetC.next
        | exact opds0 | apply opds1 | exact lo_none | apply lo_k | exact hi_none | apply hi_k
        | exact rfl | omega | exact (by first | exact hat | exact c_in (by first | omega | (simp only [List.length_append, List.length_nil, List.length_cons, List.nil_append, List.length_replicate, List.length_set]; omega)) | exact List.getElem?_eq_getElem (by first | omega | (simp only [List.length_append, List.length_nil, List.length_cons, List.nil_append, List.length_replicate, List.length_set]; omega))) | (simp only [List.length_append, List.length_nil, List.length_cons, List.nil_append, List.length_replicate, List.length_set]; omega) | intro hp)); done)
      | (refine my_slice rfl un_ el_ (by first | exact od rfl | exact og rfl (by assumption)) (by repeat' (first | exact List.Mem.head _ | apply List.Mem.tail)) (by first | exact odln rfl (by with_reducible rfl) | exact odn rfl | exact ogn rfl (by assumption)) (by first | exact odln rfl (by with_reducible rfl) | exact odn rfl | exact ogn rfl (by assumption)) (by first | omega | (simp only [List.length_append, List.length_nil, List.length_cons, List.nil_append, List.length_replicate, List.length_set]; omega)) (by first | omega | (simp only [List.length_append, List.length_nil, List.length_cons, List.nil_append, List.length_replicate, List.length_set]; omega)))
      | ((first | apply ay_add rfl | apply ay_sub rfl | apply ay_mul rfl | apply ay_quo rfl | apply ay_rem rfl)
       <;> first | exact (by first | (refine og rfl ?_; (first | assumption | (refine gd ?_ ?_ <;> assumption) | (refine gd rfl ?_; assumption) | (apply gl; assumption) | (refine gd (by apply gl; assumption) ?_; assumption) | (simp_all; done))) | exact od rfl) | omega | exact (by first | exact fit64 (by omega) (by omega) | exact fit32 (by omega) (by omega) | exact fit8 (by omega) (by omega)))
     case hx => rfl
     case hd => rfl)
  | (refine al_alloc rfl rfl rfl rfl al_ ?_; intro bb)
    | (refine al_box rfl rfl rfl rfl (by first | exact od rfl | exact og rfl (by assumption)) (by first | exact ca_agg | exact ca_v rfl | exact ca_v (by assumption) | exact ca_sl | exact ca_slc) ?_; intro bb)
    | (refine al_store_var rfl rfl rfl sz_ (by first | exact od rfl | exact og rfl (by assumption)) (by first | exact od rfl | exact og rfl (by assumption)) (by first | exact ca_agg | exact ca_v rfl | exact ca_v (by assumption) | exact ca_sl | exact ca_slc) rfl (by repeat' (first | exact ones0 | apply ones1 | exact one_v rfl | exact one_v (by assumption) | exact one_sl | exact one_slc)) (by repeat' (first | exact UpdF.here | apply UpdF.next)) (by repeat' (first | exact sc_0 | apply SetC.here | apply SetC.next)) ?_)
    | (refine al_store_row rfl rfl rfl el_ (by first | exact od rfl | exact og rfl (by assumption)) (by first | exact od rfl | exact og rfl (by assumption)) (by repeat' (first | exact UpdF.here | apply UpdF.next)) (by first | omega | (simp only [List.length_append, List.length_nil, List.length_cons, List.nil_append, List.length_replicate, List.length_set]; omega)) (by first | exact ca_cell | exact ca_v (by rfl)) ?_)
    | (refine al_empty rfl rfl rfl rfl un_ el_ ?_; intro u hu1 hu2)
    | (refine al_make rfl rfl rfl rfl un_ el_ (by first | exact odln rfl (by with_reducible rfl) | exact odn rfl | exact ogn rfl (by assumption)) (by first | exact odln rfl (by with_reducible rfl) | exact odn rfl | exact ogn rfl (by assumption)) (by omega) (by simp only [maxLen]; omega) ?_; intro u hu1 hu2)
    | (refine al_append rfl rfl rfl rfl un_ el_ (by first | exact od rfl | exact og rfl (by assumption)) (by first | exact od rfl | exact og rfl (by assumption)) (by repeat' (first | exact UpdF.here | apply UpdF.next)) ?h1 ?h2 ?_
       case h1 => (try simp only [List.length_append, List.length_nil, List.length_cons, List.nil_append, List.length_replicate, List.length_set]); omega
       case h2 => (try simp only [List.length_append, List.length_nil, List.length_cons, List.nil_append, List.length_replicate, List.length_set]); simp only [maxLen]; omega
       intro u hu1 hu2)
    | (refine al_copy_row rfl rfl rfl rfl un_ el_ (by first | exact od rfl | exact og rfl (by assumption)) (by first | exact od rfl | exact og rfl (by assumption)) (by repeat' (first | exact UpdF.here | apply UpdF.next)) ?_)
    | (refine al_copy_sub rfl rfl rfl rfl un_ el_ (by first | exact od rfl | exact og rfl (by assumption)) (by first | exact od rfl | exact og rfl (by assumption)) (by repeat' (first | exact UpdF.here | apply UpdF.next)) (by first | omega | (simp only [List.length_append, List.length_nil, List.length_cons, List.nil_append, List.length_replicate, List.length_set]; omega)) ?_)
  | (refine al_last (by kernel_rfl) ?_)
  | fail)
  exact ⟨_, _, (by first | exact res1 rfl rfl | exact res2 rfl rfl rfl | exact res3 rfl rfl rfl rfl | exact res0 rfl | ((first | apply resM1 rfl rfl | apply resM2 rfl rfl rfl) <;> (repeat' (first | exact List.Mem.head _ | apply List.Mem.tail | exact agg_ | exact sz_ | rfl)); done)), (by repeat' (first | exact List.nil_sublist _ | apply List.Sublist.cons_cons | apply List.Sublist.cons)), u, rfl, rfl⟩
theorem f_New (w h : Int) : AP Tryd.prog tab0 11 [I w, I h] (grid2 (newR w h)) := by
  by_cases hs : sidesM w h = true
  · obtain ⟨w, h, rfl, rfl, h1, h2, h3, h4⟩ := sides_nat hs
    have := (f_NewO w h h1 h2 h3 h4).frz1 (by intro u; repeat' (first | exact fz_here | apply fz_agg | apply fz_tup | exact fzl_nil | apply fzl_cons | exact fz_keep))
    simpa only [newR, hs, if_true, grid2, Int.toNat_natCast] using this
  · have hs' : ¬ (2 ≤ w ∧ w ≤ 80 ∧ 1 ≤ h ∧ h ≤ 24) := by simpa [sidesM, and_assoc] using hs
    refine af_intro Tryd.func11 rfl (by decide) Tryd.ntmps11 rfl ?_
    repeat' (first
    | (refine al_call0 rfl rfl rfl rfl (by repeat' (first | exact opds0 | apply opds1 (by first | (refine og rfl ?_; (first | assumption | (refine gd ?_ ?_ <;> assumption) | (refine gd rfl ?_; assumption) | (apply gl; assumption) | (refine gd (by apply gl; assumption) ?_; assumption) | (simp_all; done))) | exact od rfl) | fail)) (f_fill _ _ (by omega)) ?_; rintro _ _ ⟨u, rfl, rfl⟩; refine al_rowc (List.Mem.head _) fun hu1 hu2 => ?_)
    | refine aw_seq ?_
      | refine aw_region0 ?_
      | refine al_nil ?_
      | refine th_n ?_
      | refine th_e ?_
      | refine th_r ?_
      | refine ib_n ?_
      | refine ib_e rfl ?_
      | refine ib_e' rfl ?_
      | refine ib_r ?_
      | refine aw_block ?_
      | refine aw_exit ?_
      | refine aw_ret ?_
      | refine aw_skip ?_
      | refine aw_region1 (by kernel_rfl) (by kernel_rfl) ?_
      | (refine aw_cond rfl ?_ ?_ <;> intro hb <;> (try simp only [decide_eq_true_eq, decide_eq_false_iff_not, Bool.and_eq_true, Bool.or_eq_true, Bool.not_eq_true', Bool.and_eq_false_iff, Bool.or_eq_false_iff, Bool.not_eq_false'] at hb) <;> (first | (exfalso; omega) | skip))
    | (apply al_y
       case hy =>
        first
        | apply qy_plain rfl
        | apply qy_run rfl rfl (guard_b rfl) rfl
        | exact qy_skip rfl rfl (guard_b rfl) rfl
        | (apply qy_gv rfl rfl (by first | exact guard_b rfl | exact guard_gv rfl); intro hk; have hk2 := hk; (try simp only [Bool.true_and, Bool.and_eq_true, Bool.or_eq_true, beq_iff_eq, decide_eq_true_eq, decide_eq_false_iff_not, Bool.not_eq_true', Bool.not_eq_false', Bool.and_eq_false_iff, Bool.or_eq_false_iff] at hk2))
        first
        | fail
        | ((first | apply ay_move rfl | apply ay_assign rfl | apply ay_not rfl | apply ay_lss rfl | apply ay_leq rfl | apply ay_gtr rfl | apply ay_geq rfl | apply k_eql rfl | apply k_neq rfl | apply ay_and rfl | apply ay_or rfl | apply ay_call rfl | apply k_len rfl | apply k_ix rfl | apply k_ld rfl | apply k_fa rfl | apply k_fd rfl | apply ay_build rfl st_ | apply ay_extract rfl | apply ay_slice rfl un_ el_ | apply bs_cell1 rfl un_ | apply bs_cell2 rfl un_ | apply kn_add rfl | apply kn_sub rfl | apply kn_mul rfl | apply kn_quo rfl | apply kn_rem rfl | apply kn_min rfl)
         <;> (repeat' (
          first
          | ((first | refine og rfl ?_ | refine ogn rfl ?_); (first | assumption | (refine gd ?_ ?_ <;> assumption) | (refine gd rfl ?_; assumption) | (apply gl; assumption) | (refine gd (by apply gl; assumption) ?_; assumption) | (simp_all; done))) | exact odln rfl (by with_reducible rfl) | exact odn rfl | exact od rfl
          | fail
          | exact un_ | exact el_ | exact agg_ | exact sz_ | exact sp_ | exact fl_ | exact st_ | exact List.Mem.head _ | apply List.Mem.tail | exact SubC.nil | apply SubC.here | apply SubC.next
          | exact nk_sl un_ | apply mk_len un_ | exact nk_sub un_ | apply ik_sl un_ el_ | apply mk_ix un_ el_ | apply ik_sub un_ el_
          | exact lk_el el_ | exact lk_1 agg_ | apply v1_ | apply vn_ | apply mk_r el_ | apply r1_
          | exact ak_ip fl_ sp_ | exact ak_var fl_ sp_ | exact ak_row fl_ sp_ | exact dk_1 fl_ agg_ rfl | apply fn_
          | exact ek_int | exact ek_bool un_ | exact ek_cell
          | exact fit64 (by omega) (by omega) | exact fit32 (by omega) (by omega) | exact fit8 (by omega) (by omega)
          | exact pa_nil | apply pk | exact ca_agg | exact ca_v rfl | exact ca_v (by assumption) | exact ca_sl | exact sc_0 | apply SetC.here | apply SetC.next
          | exact opds0 | apply opds1 | exact lo_none | apply lo_k | exact hi_none | apply hi_k
          | exact rfl | omega | exact (by first | exact hat | exact c_in (by first | omega | (simp only [List.length_append, List.length_nil, List.length_cons, List.nil_append, List.length_replicate, List.length_set]; omega)) | exact List.getElem?_eq_getElem (by first | omega | (simp only [List.length_append, List.length_nil, List.length_cons, List.nil_append, List.length_replicate, List.length_set]; omega))) | (simp only [List.length_append, List.length_nil, List.length_cons, List.nil_append, List.length_replicate, List.length_set]; omega) | intro hp)); done)
        | (refine my_slice rfl un_ el_ (by first | exact od rfl | exact og rfl (by assumption)) (by repeat' (first | exact List.Mem.head _ | apply List.Mem.tail)) (by first | exact odln rfl (by with_reducible rfl) | exact odn rfl | exact ogn rfl (by assumption)) (by first | exact odln rfl (by with_reducible rfl) | exact odn rfl | exact ogn rfl (by assumption)) (by first | omega | (simp only [List.length_append, List.length_nil, List.length_cons, List.nil_append, List.length_replicate, List.length_set]; omega)) (by first | omega | (simp only [List.length_append, List.length_nil, List.length_cons, List.nil_append, List.length_replicate, List.length_set]; omega)))
        | ((first | apply ay_add rfl | apply ay_sub rfl | apply ay_mul rfl | apply ay_quo rfl | apply ay_rem rfl)
         <;> first | exact (by first | (refine og rfl ?_; (first | assumption | (refine gd ?_ ?_ <;> assumption) | (refine gd rfl ?_; assumption) | (apply gl; assumption) | (refine gd (by apply gl; assumption) ?_; assumption) | (simp_all; done))) | exact od rfl) | omega | exact (by first | exact fit64 (by omega) (by omega) | exact fit32 (by omega) (by omega) | exact fit8 (by omega) (by omega)))
       case hx => rfl
       case hd => rfl)
    | (refine al_alloc rfl rfl rfl rfl al_ ?_; intro bb)
      | (refine al_box rfl rfl rfl rfl (by first | exact od rfl | exact og rfl (by assumption)) (by first | exact ca_agg | exact ca_v rfl | exact ca_v (by assumption) | exact ca_sl | exact ca_slc) ?_; intro bb)
      | (refine al_store_var rfl rfl rfl sz_ (by first | exact od rfl | exact og rfl (by assumption)) (by first | exact od rfl | exact og rfl (by assumption)) (by first | exact ca_agg | exact ca_v rfl | exact ca_v (by assumption) | exact ca_sl | exact ca_slc) rfl (by repeat' (first | exact ones0 | apply ones1 | exact one_v rfl | exact one_v (by assumption) | exact one_sl | exact one_slc)) (by repeat' (first | exact UpdF.here | apply UpdF.next)) (by repeat' (first | exact sc_0 | apply SetC.here | apply SetC.next)) ?_)
      | (refine al_store_row rfl rfl rfl el_ (by first | exact od rfl | exact og rfl (by assumption)) (by first | exact od rfl | exact og rfl (by assumption)) (by repeat' (first | exact UpdF.here | apply UpdF.next)) (by first | omega | (simp only [List.length_append, List.length_nil, List.length_cons, List.nil_append, List.length_replicate, List.length_set]; omega)) (by first | exact ca_cell | exact ca_v (by rfl)) ?_)
      | (refine al_empty rfl rfl rfl rfl un_ el_ ?_; intro u hu1 hu2)
      | (refine al_make rfl rfl rfl rfl un_ el_ (by first | exact odln rfl (by with_reducible rfl) | exact odn rfl | exact ogn rfl (by assumption)) (by first | exact odln rfl (by with_reducible rfl) | exact odn rfl | exact ogn rfl (by assumption)) (by omega) (by simp only [maxLen]; omega) ?_; intro u hu1 hu2)
      | (refine al_append rfl rfl rfl rfl un_ el_ (by first | exact od rfl | exact og rfl (by assumption)) (by first | exact od rfl | exact og rfl (by assumption)) (by repeat' (first | exact UpdF.here | apply UpdF.next)) ?h1 ?h2 ?_
         case h1 => (try simp only [List.length_append, List.length_nil, List.length_cons, List.nil_append, List.length_replicate, List.length_set]); omega
         case h2 => (try simp only [List.length_append, List.length_nil, List.length_cons, List.nil_append, List.length_replicate, List.length_set]); simp only [maxLen]; omega
         intro u hu1 hu2)
      | (refine al_copy_row rfl rfl rfl rfl un_ el_ (by first | exact od rfl | exact og rfl (by assumption)) (by first | exact od rfl | exact og rfl (by assumption)) (by repeat' (first | exact UpdF.here | apply UpdF.next)) ?_)
      | (refine al_copy_sub rfl rfl rfl rfl un_ el_ (by first | exact od rfl | exact og rfl (by assumption)) (by first | exact od rfl | exact og rfl (by assumption)) (by repeat' (first | exact UpdF.here | apply UpdF.next)) (by first | omega | (simp only [List.length_append, List.length_nil, List.length_cons, List.nil_append, List.length_replicate, List.length_set]; omega)) ?_)
    | (refine al_last (by kernel_rfl) ?_)
    | fail)
    refine ⟨_, [], (by first | exact res1 rfl rfl | exact res2 rfl rfl rfl | exact res3 rfl rfl rfl rfl | exact res0 rfl | ((first | apply resM1 rfl rfl | apply resM2 rfl rfl rfl) <;> (repeat' (first | exact List.Mem.head _ | apply List.Mem.tail | exact agg_ | exact sz_ | rfl)); done)), List.nil_sublist _, ?_, rfl⟩
    simp only [newR, hs, grid2]; exact sub_noG
end Go.Proofs.YthlikicgikoilaaDoor
