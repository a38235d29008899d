/- Layer 3 (grid): scroll; the reference's small functions. No condition. -/
import Derived.Test.YthlikicgikoilaaDoorG5
namespace Go.Proofs.YthlikicgikoilaaDoor
set_option linter.unusedSimpArgs false
set_option linter.unusedVariables false
open Go Go.RowKit
attribute [local irreducible] AW AL AO QY varO rowO rsA Opd OpdN vA gvA tupA aggA slA slcA ipA rpA EqK LnK IxK LdK FaK FdK
set_option maxRecDepth 100000
noncomputable def scrollR (w h : Int) (l : List Cell) : List Cell := if okG w h l = true then l.drop w.toNat ++ List.replicate w.toNat (32, 0) else l
theorem f_ScrollO (w h : Nat) (l : List Cell) (hl : l.length ≤ 3000) (hc : okG w h l = true) : AF Tryd.prog tab0 23 [gridA w h l] [] (fun A M' => ∃ u, A = aggA [I w, I h, vA u] ∧ M' = [rowO cellT 30 u (l.drop w ++ List.replicate w (32, 0))]) := by
  obtain ⟨w', h', e1, e2, h1, h2, h3, h4, hlen, hall⟩ := okG_nat hc
  obtain rfl : w = w' := by omega
  obtain rfl : h = h' := by omega
  have hb := side_le h2 h4
  have hwl : w ≤ l.length := by rw [hlen]; exact Nat.le_mul_of_pos_right w h3
  have c1 : AP Tryd.prog tab0 17 [gridA w h l] (B true) := hc ▸ f_Is w h l hl
  have co := f_fill w h (by omega)
  clear hall
  refine af_intro Tryd.func23 rfl (by decide) Tryd.ntmps23 rfl ?_
  repeat' (first
  | (apply al_call0 rfl rfl rfl rfl (c := co)
     case ha => repeat' (first | exact opds0 | apply opds1 (by first | (refine og rfl ?_; (first | assumption | (refine gd ?_ ?_ <;> assumption) | (refine gd rfl ?_; assumption) | (apply gl; assumption) | (refine gd (by apply gl; assumption) ?_; assumption))) | exact od rfl))
     rintro _ _ ⟨u, rfl, rfl⟩; refine al_rowc (List.Mem.head _) fun hu1 hu2 => ?_)
  | refine aw_seq ?_
    | refine aw_region0 ?_
    | refine al_nil ?_
    | refine th_n ?_
    | refine th_e ?_
    | refine th_r ?_
    | refine ib_n ?_
    | refine ib_e rfl ?_
    | refine ib_e' rfl ?_
    | refine ib_r ?_
    | refine aw_block ?_
    | refine aw_exit ?_
    | refine aw_ret ?_
    | refine aw_skip ?_
    | refine aw_region1 (by kernel_rfl) (by kernel_rfl) ?_
    | (refine aw_cond rfl ?_ ?_ <;> intro hb <;> (try simp only [decide_eq_true_eq, decide_eq_false_iff_not, Bool.and_eq_true, Bool.or_eq_true, Bool.not_eq_true', Bool.and_eq_false_iff, Bool.or_eq_false_iff, Bool.not_eq_false'] at hb) <;> (first | (exfalso; omega) | skip))
  | (apply al_y
     case hy =>
      first
      | apply qy_plain rfl
      | apply qy_run rfl rfl (guard_b rfl) rfl
      | exact qy_skip rfl rfl (guard_b rfl) rfl
      | (apply qy_gv rfl rfl (by first | exact guard_b rfl | exact guard_gv rfl); intro hk; have hk2 := hk; (try simp only [Bool.true_and, Bool.and_eq_true, Bool.or_eq_true, beq_iff_eq, decide_eq_true_eq, decide_eq_false_iff_not, Bool.not_eq_true', Bool.not_eq_false', Bool.and_eq_false_iff, Bool.or_eq_false_iff] at hk2))
      first
      | fail
      | ((first | apply ay_move rfl | apply ay_assign rfl | apply ay_not rfl | apply ay_lss rfl | apply ay_leq rfl | apply ay_gtr rfl | apply ay_geq rfl | apply k_eql rfl | apply k_neq rfl | apply ay_and rfl | apply ay_or rfl | apply ay_call rfl | apply k_len rfl | apply k_ix rfl | apply k_ld rfl | apply k_fa rfl | apply k_fd rfl | apply ay_build rfl st_ | apply ay_extract rfl | apply ay_slice rfl un_ el_ | apply bs_cell1 rfl un_ | apply bs_cell2 rfl un_ | apply kn_add rfl | apply kn_sub rfl | apply kn_mul rfl | apply kn_quo rfl | apply kn_rem rfl | apply kn_min rfl)
       <;> (repeat' (
        first
        | ((first | refine og rfl ?_ | refine ogn rfl ?_); (first | assumption | (refine gd ?_ ?_ <;> assumption) | (refine gd rfl ?_; assumption) | (apply gl; assumption) | (refine gd (by apply gl; assumption) ?_; assumption))) | exact odln rfl (by with_reducible rfl) | exact odn rfl | exact od rfl
        | exact c1
        | exact un_ | exact el_ | exact agg_ | exact sz_ | exact sp_ | exact fl_ | exact st_ | exact List.Mem.head _ | apply List.Mem.tail | exact SubC.nil | apply SubC.here | apply SubC.next
        | exact nk_sl un_ | apply mk_len un_ | exact nk_sub un_ | apply ik_sl un_ el_ | apply mk_ix un_ el_ | apply ik_sub un_ el_
        | exact lk_el el_ | exact lk_1 agg_ | apply v1_ | apply vn_ | apply mk_r el_ | apply r1_
        | exact ak_ip fl_ sp_ | exact ak_var fl_ sp_ | exact ak_row fl_ sp_ | exact dk_1 fl_ agg_ rfl | apply fn_
        | exact ek_int | exact ek_bool un_ | exact ek_cell
        | exact fit64 (by omega) (by omega) | exact fit32 (by omega) (by omega) | exact fit8 (by omega) (by omega)
        | exact pa_nil | apply pk | exact ca_agg | exact ca_v rfl | exact ca_v (by assumption) | exact ca_sl | exact sc_0 | apply SetC.here | apply SetC.next
        | exact opds0 | apply opds1 | exact lo_none | apply lo_k | exact hi_none | apply hi_k
        | exact rfl | omega | exact (by first | exact hat | exact c_in (by first | omega | (simp only [List.length_append, List.length_nil, List.length_cons, List.nil_append, List.length_replicate, List.length_set]; omega)) | exact List.getElem?_eq_getElem (by first | omega | (simp only [List.length_append, List.length_nil, List.length_cons, List.nil_append, List.length_replicate, List.length_set]; omega))) | (simp only [List.length_append, List.length_nil, List.length_cons, List.nil_append, List.length_replicate, List.length_set]; omega) | intro hp)); done)
      | (refine my_slice rfl un_ el_ (by first | exact od rfl | exact og rfl (by assumption)) (by repeat' (first | exact List.Mem.head _ | apply List.Mem.tail)) (by first | exact odln rfl (by with_reducible rfl) | exact odn rfl | exact ogn rfl (by assumption)) (by first | exact odln rfl (by with_reducible rfl) | exact odn rfl | exact ogn rfl (by assumption)) (by first | omega | (simp only [List.length_append, List.length_nil, List.length_cons, List.nil_append, List.length_replicate, List.length_set]; omega)) (by first | omega | (simp only [List.length_append, List.length_nil, List.length_cons, List.nil_append, List.length_replicate, List.length_set]; omega)))
      | ((first | apply ay_add rfl | apply ay_sub rfl | apply ay_mul rfl | apply ay_quo rfl | apply ay_rem rfl)
       <;> first | exact (by first | (refine og rfl ?_; (first | assumption | (refine gd ?_ ?_ <;> assumption) | (refine gd rfl ?_; assumption) | (apply gl; assumption) | (refine gd (by apply gl; assumption) ?_; assumption))) | exact od rfl) | omega | exact (by first | exact fit64 (by omega) (by omega) | exact fit32 (by omega) (by omega) | exact fit8 (by omega) (by omega)))
     case hx => rfl
     case hd => rfl)
  | (refine al_alloc rfl rfl rfl rfl al_ ?_; intro bb)
    | (refine al_box rfl rfl rfl rfl (by first | exact od rfl | exact og rfl (by assumption)) (by first | exact ca_agg | exact ca_v rfl | exact ca_v (by assumption) | exact ca_sl | exact ca_slc) ?_; intro bb)
    | (refine al_store_var rfl rfl rfl sz_ (by first | exact od rfl | exact og rfl (by assumption)) (by first | exact od rfl | exact og rfl (by assumption)) (by first | exact ca_agg | exact ca_v rfl | exact ca_v (by assumption) | exact ca_sl | exact ca_slc) rfl (by repeat' (first | exact ones0 | apply ones1 | exact one_v rfl | exact one_v (by assumption) | exact one_sl | exact one_slc)) (by repeat' (first | exact UpdF.here | apply UpdF.next)) (by repeat' (first | exact sc_0 | apply SetC.here | apply SetC.next)) ?_)
    | (refine al_store_row rfl rfl rfl el_ (by first | exact od rfl | exact og rfl (by assumption)) (by first | exact od rfl | exact og rfl (by assumption)) (by repeat' (first | exact UpdF.here | apply UpdF.next)) (by first | omega | (simp only [List.length_append, List.length_nil, List.length_cons, List.nil_append, List.length_replicate, List.length_set]; omega)) (by first | exact ca_cell | exact ca_v (by rfl)) ?_)
    | (refine al_empty rfl rfl rfl rfl un_ el_ ?_; intro u hu1 hu2)
    | (refine al_make rfl rfl rfl rfl un_ el_ (by first | exact odln rfl (by with_reducible rfl) | exact odn rfl | exact ogn rfl (by assumption)) (by first | exact odln rfl (by with_reducible rfl) | exact odn rfl | exact ogn rfl (by assumption)) (by omega) (by simp only [maxLen]; omega) ?_; intro u hu1 hu2)
    | (refine al_append rfl rfl rfl rfl un_ el_ (by first | exact od rfl | exact og rfl (by assumption)) (by first | exact od rfl | exact og rfl (by assumption)) (by repeat' (first | exact UpdF.here | apply UpdF.next)) ?h1 ?h2 ?_
       case h1 => (try simp only [List.length_append, List.length_nil, List.length_cons, List.nil_append, List.length_replicate, List.length_set]); omega
       case h2 => (try simp only [List.length_append, List.length_nil, List.length_cons, List.nil_append, List.length_replicate, List.length_set]); simp only [maxLen]; omega
       intro u hu1 hu2)
    | (refine al_copy_row rfl rfl rfl rfl un_ el_ (by first | exact od rfl | exact og rfl (by assumption)) (by first | exact od rfl | exact og rfl (by assumption)) (by repeat' (first | exact UpdF.here | apply UpdF.next)) ?_)
    | (refine al_copy_sub rfl rfl rfl rfl un_ el_ (by first | exact od rfl | exact og rfl (by assumption)) (by first | exact od rfl | exact og rfl (by assumption)) (by repeat' (first | exact UpdF.here | apply UpdF.next)) (by first | omega | (simp only [List.length_append, List.length_nil, List.length_cons, List.nil_append, List.length_replicate, List.length_set]; omega)) ?_)
  | (refine al_last (by kernel_rfl) ?_)
  | fail)
  all_goals first | (exfalso; simp at hb; done) | skip
  have e : ovr (List.replicate (w * h) ((32, 0) : Cell)) 0 (((l.drop w).take (l.length - w)).take (List.replicate (w * h) ((32, 0) : Cell)).length) = l.drop w ++ List.replicate w (32, 0) := by
    rw [List.length_replicate, List.take_of_length_le (i := w * h) (by rw [List.length_take]; omega), List.take_of_length_le (by rw [List.length_drop]; omega)]
    simp only [ovr, List.take_zero, List.nil_append, List.length_drop, List.drop_replicate, Nat.zero_add]
    rw [show w * h - (l.length - w) = w by omega]
  exact ⟨_, [rowO cellT 30 u (ovr (List.replicate (w * h) ((32, 0) : Cell)) 0 (((l.drop w).take (l.length - w)).take (List.replicate (w * h) ((32, 0) : Cell)).length))], (by first | exact res1 rfl rfl | exact res2 rfl rfl rfl | exact res3 rfl rfl rfl rfl | exact res0 rfl | ((first | apply resM1 rfl rfl | apply resM2 rfl rfl rfl) <;> (repeat' (first | exact List.Mem.head _ | apply List.Mem.tail | exact agg_ | exact sz_ | rfl)); done)), (by repeat' (first | exact List.nil_sublist _ | apply List.Sublist.cons_cons | apply List.Sublist.cons)), u, rfl, by rw [e]⟩
theorem f_Scroll (w h : Int) (l : List Cell) (hl : l.length ≤ 3000) : AP Tryd.prog tab0 23 [gridA w h l] (gridA w h (scrollR w h l)) := by
  by_cases hc : okG w h l = true
  · obtain ⟨w, h, rfl, rfl, _⟩ := okG_nat hc
    have := (f_ScrollO w h l hl hc).frz1 (by intro u; repeat' (first | exact fz_here | apply fz_agg | apply fz_tup | exact fzl_nil | apply fzl_cons | exact fz_keep))
    simpa only [scrollR, if_pos hc, Int.toNat_natCast] using this
  · have hc' : okG w h l = false := by simpa using hc
    have c1 : AP Tryd.prog tab0 17 [gridA w h l] (B false) := hc' ▸ f_Is w h l hl
    refine af_intro Tryd.func23 rfl (by decide) Tryd.ntmps23 rfl ?_
    repeat' (first
    | fail
    | refine aw_seq ?_
      | refine aw_region0 ?_
      | refine al_nil ?_
      | refine th_n ?_
      | refine th_e ?_
      | refine th_r ?_
      | refine ib_n ?_
      | refine ib_e rfl ?_
      | refine ib_e' rfl ?_
      | refine ib_r ?_
      | refine aw_block ?_
      | refine aw_exit ?_
      | refine aw_ret ?_
      | refine aw_skip ?_
      | refine aw_region1 (by kernel_rfl) (by kernel_rfl) ?_
      | (refine aw_cond rfl ?_ ?_ <;> intro hb <;> (try simp only [decide_eq_true_eq, decide_eq_false_iff_not, Bool.and_eq_true, Bool.or_eq_true, Bool.not_eq_true', Bool.and_eq_false_iff, Bool.or_eq_false_iff, Bool.not_eq_false'] at hb) <;> (first | (exfalso; omega) | skip))
    | (apply al_y
       case hy =>
        first
        | apply qy_plain rfl
        | apply qy_run rfl rfl (guard_b rfl) rfl
        | exact qy_skip rfl rfl (guard_b rfl) rfl
        | (apply qy_gv rfl rfl (by first | exact guard_b rfl | exact guard_gv rfl); intro hk; have hk2 := hk; (try simp only [Bool.true_and, Bool.and_eq_true, Bool.or_eq_true, beq_iff_eq, decide_eq_true_eq, decide_eq_false_iff_not, Bool.not_eq_true', Bool.not_eq_false', Bool.and_eq_false_iff, Bool.or_eq_false_iff] at hk2))
        first
        | fail
        | ((first | apply ay_move rfl | apply ay_assign rfl | apply ay_not rfl | apply ay_lss rfl | apply ay_leq rfl | apply ay_gtr rfl | apply ay_geq rfl | apply k_eql rfl | apply k_neq rfl | apply ay_and rfl | apply ay_or rfl | apply ay_call rfl | apply k_len rfl | apply k_ix rfl | apply k_ld rfl | apply k_fa rfl | apply k_fd rfl | apply ay_build rfl st_ | apply ay_extract rfl | apply ay_slice rfl un_ el_ | apply bs_cell1 rfl un_ | apply bs_cell2 rfl un_ | apply kn_add rfl | apply kn_sub rfl | apply kn_mul rfl | apply kn_quo rfl | apply kn_rem rfl | apply kn_min rfl)
         <;> (repeat' (
          first
          | ((first | refine og rfl ?_ | refine ogn rfl ?_); (first | assumption | (refine gd ?_ ?_ <;> assumption) | (refine gd rfl ?_; assumption) | (apply gl; assumption) | (refine gd (by apply gl; assumption) ?_; assumption))) | exact odln rfl (by with_reducible rfl) | exact odn rfl | exact od rfl
          | exact c1
          | exact un_ | exact el_ | exact agg_ | exact sz_ | exact sp_ | exact fl_ | exact st_ | exact List.Mem.head _ | apply List.Mem.tail | exact SubC.nil | apply SubC.here | apply SubC.next
          | exact nk_sl un_ | apply mk_len un_ | exact nk_sub un_ | apply ik_sl un_ el_ | apply mk_ix un_ el_ | apply ik_sub un_ el_
          | exact lk_el el_ | exact lk_1 agg_ | apply v1_ | apply vn_ | apply mk_r el_ | apply r1_
          | exact ak_ip fl_ sp_ | exact ak_var fl_ sp_ | exact ak_row fl_ sp_ | exact dk_1 fl_ agg_ rfl | apply fn_
          | exact ek_int | exact ek_bool un_ | exact ek_cell
          | exact fit64 (by omega) (by omega) | exact fit32 (by omega) (by omega) | exact fit8 (by omega) (by omega)
          | exact pa_nil | apply pk | exact ca_agg | exact ca_v rfl | exact ca_v (by assumption) | exact ca_sl | exact sc_0 | apply SetC.here | apply SetC.next
          | exact opds0 | apply opds1 | exact lo_none | apply lo_k | exact hi_none | apply hi_k
          | exact rfl | omega | exact (by first | exact hat | exact c_in (by first | omega | (simp only [List.length_append, List.length_nil, List.length_cons, List.nil_append, List.length_replicate, List.length_set]; omega)) | exact List.getElem?_eq_getElem (by first | omega | (simp only [List.length_append, List.length_nil, List.length_cons, List.nil_append, List.length_replicate, List.length_set]; omega))) | (simp only [List.length_append, List.length_nil, List.length_cons, List.nil_append, List.length_replicate, List.length_set]; omega) | intro hp)); done)
        | (refine my_slice rfl un_ el_ (by first | exact od rfl | exact og rfl (by assumption)) (by repeat' (first | exact List.Mem.head _ | apply List.Mem.tail)) (by first | exact odln rfl (by with_reducible rfl) | exact odn rfl | exact ogn rfl (by assumption)) (by first | exact odln rfl (by with_reducible rfl) | exact odn rfl | exact ogn rfl (by assumption)) (by first | omega | (simp only [List.length_append, List.length_nil, List.length_cons, List.nil_append, List.length_replicate, List.length_set]; omega)) (by first | omega | (simp only [List.length_append, List.length_nil, List.length_cons, List.nil_append, List.length_replicate, List.length_set]; omega)))
        | ((first | apply ay_add rfl | apply ay_sub rfl | apply ay_mul rfl | apply ay_quo rfl | apply ay_rem rfl)
         <;> first | exact (by first | (refine og rfl ?_; (first | assumption | (refine gd ?_ ?_ <;> assumption) | (refine gd rfl ?_; assumption) | (apply gl; assumption) | (refine gd (by apply gl; assumption) ?_; assumption))) | exact od rfl) | omega | exact (by first | exact fit64 (by omega) (by omega) | exact fit32 (by omega) (by omega) | exact fit8 (by omega) (by omega)))
       case hx => rfl
       case hd => rfl)
    | (refine al_alloc rfl rfl rfl rfl al_ ?_; intro bb)
      | (refine al_box rfl rfl rfl rfl (by first | exact od rfl | exact og rfl (by assumption)) (by first | exact ca_agg | exact ca_v rfl | exact ca_v (by assumption) | exact ca_sl | exact ca_slc) ?_; intro bb)
      | (refine al_store_var rfl rfl rfl sz_ (by first | exact od rfl | exact og rfl (by assumption)) (by first | exact od rfl | exact og rfl (by assumption)) (by first | exact ca_agg | exact ca_v rfl | exact ca_v (by assumption) | exact ca_sl | exact ca_slc) rfl (by repeat' (first | exact ones0 | apply ones1 | exact one_v rfl | exact one_v (by assumption) | exact one_sl | exact one_slc)) (by repeat' (first | exact UpdF.here | apply UpdF.next)) (by repeat' (first | exact sc_0 | apply SetC.here | apply SetC.next)) ?_)
      | (refine al_store_row rfl rfl rfl el_ (by first | exact od rfl | exact og rfl (by assumption)) (by first | exact od rfl | exact og rfl (by assumption)) (by repeat' (first | exact UpdF.here | apply UpdF.next)) (by first | omega | (simp only [List.length_append, List.length_nil, List.length_cons, List.nil_append, List.length_replicate, List.length_set]; omega)) (by first | exact ca_cell | exact ca_v (by rfl)) ?_)
      | (refine al_empty rfl rfl rfl rfl un_ el_ ?_; intro u hu1 hu2)
      | (refine al_make rfl rfl rfl rfl un_ el_ (by first | exact odln rfl (by with_reducible rfl) | exact odn rfl | exact ogn rfl (by assumption)) (by first | exact odln rfl (by with_reducible rfl) | exact odn rfl | exact ogn rfl (by assumption)) (by omega) (by simp only [maxLen]; omega) ?_; intro u hu1 hu2)
      | (refine al_append rfl rfl rfl rfl un_ el_ (by first | exact od rfl | exact og rfl (by assumption)) (by first | exact od rfl | exact og rfl (by assumption)) (by repeat' (first | exact UpdF.here | apply UpdF.next)) ?h1 ?h2 ?_
         case h1 => (try simp only [List.length_append, List.length_nil, List.length_cons, List.nil_append, List.length_replicate, List.length_set]); omega
         case h2 => (try simp only [List.length_append, List.length_nil, List.length_cons, List.nil_append, List.length_replicate, List.length_set]); simp only [maxLen]; omega
         intro u hu1 hu2)
      | (refine al_copy_row rfl rfl rfl rfl un_ el_ (by first | exact od rfl | exact og rfl (by assumption)) (by first | exact od rfl | exact og rfl (by assumption)) (by repeat' (first | exact UpdF.here | apply UpdF.next)) ?_)
      | (refine al_copy_sub rfl rfl rfl rfl un_ el_ (by first | exact od rfl | exact og rfl (by assumption)) (by first | exact od rfl | exact og rfl (by assumption)) (by repeat' (first | exact UpdF.here | apply UpdF.next)) (by first | omega | (simp only [List.length_append, List.length_nil, List.length_cons, List.nil_append, List.length_replicate, List.length_set]; omega)) ?_)
    | (refine al_last (by kernel_rfl) ?_)
    | fail)
    all_goals first | (exfalso; simp at hb; done) | skip
    refine ⟨_, [], (by first | exact res1 rfl rfl | exact res2 rfl rfl rfl | exact res3 rfl rfl rfl rfl | exact res0 rfl | ((first | apply resM1 rfl rfl | apply resM2 rfl rfl rfl) <;> (repeat' (first | exact List.Mem.head _ | apply List.Mem.tail | exact agg_ | exact sz_ | rfl)); done)), List.nil_sublist _, ?_, rfl⟩
    simp only [scrollR, hc', gridA]; exact Sub.refl _
theorem f_ref03Sides (w h : Int) : AP Tryd.prog tab0 30 [I w, I h] (B (sidesM w h)) := by
  refine af_intro Tryd.func30 rfl (by decide) Tryd.ntmps30 rfl ?_
  repeat' (first
  | fail
  | refine aw_seq ?_
    | refine aw_region0 ?_
    | refine al_nil ?_
    | refine th_n ?_
    | refine th_e ?_
    | refine th_r ?_
    | refine ib_n ?_
    | refine ib_e rfl ?_
    | refine ib_e' rfl ?_
    | refine ib_r ?_
    | refine aw_block ?_
    | refine aw_exit ?_
    | refine aw_ret ?_
    | refine aw_skip ?_
    | refine aw_region1 (by kernel_rfl) (by kernel_rfl) ?_
    | (refine aw_cond rfl ?_ ?_ <;> intro hb <;> (try simp only [decide_eq_true_eq, decide_eq_false_iff_not, Bool.and_eq_true, Bool.or_eq_true, Bool.not_eq_true', Bool.and_eq_false_iff, Bool.or_eq_false_iff, Bool.not_eq_false'] at hb) <;> (first | (exfalso; omega) | skip))
  | (apply al_y
     case hy =>
      first
      | apply qy_plain rfl
      | apply qy_run rfl rfl (guard_b rfl) rfl
      | exact qy_skip rfl rfl (guard_b rfl) rfl
      | (apply qy_gv rfl rfl (by first | exact guard_b rfl | exact guard_gv rfl); intro hk; have hk2 := hk; (try simp only [Bool.true_and, Bool.and_eq_true, Bool.or_eq_true, beq_iff_eq, decide_eq_true_eq, decide_eq_false_iff_not, Bool.not_eq_true', Bool.not_eq_false', Bool.and_eq_false_iff, Bool.or_eq_false_iff] at hk2))
      first
      | fail
      | ((first | apply ay_move rfl | apply ay_assign rfl | apply ay_not rfl | apply ay_lss rfl | apply ay_leq rfl | apply ay_gtr rfl | apply ay_geq rfl | apply k_eql rfl | apply k_neq rfl | apply ay_and rfl | apply ay_or rfl | apply ay_call rfl | apply k_len rfl | apply k_ix rfl | apply k_ld rfl | apply k_fa rfl | apply k_fd rfl | apply ay_build rfl st_ | apply ay_extract rfl | apply ay_slice rfl un_ el_ | apply bs_cell1 rfl un_ | apply bs_cell2 rfl un_ | apply kn_add rfl | apply kn_sub rfl | apply kn_mul rfl | apply kn_quo rfl | apply kn_rem rfl | apply kn_min rfl)
       <;> (repeat' (
        first
        | ((first | refine og rfl ?_ | refine ogn rfl ?_); (first | assumption | (refine gd ?_ ?_ <;> assumption) | (refine gd rfl ?_; assumption) | (apply gl; assumption) | (refine gd (by apply gl; assumption) ?_; assumption))) | exact odln rfl (by with_reducible rfl) | exact odn rfl | exact od rfl
        | exact c1
        | exact un_ | exact el_ | exact agg_ | exact sz_ | exact sp_ | exact fl_ | exact st_ | exact List.Mem.head _ | apply List.Mem.tail | exact SubC.nil | apply SubC.here | apply SubC.next
        | exact nk_sl un_ | apply mk_len un_ | exact nk_sub un_ | apply ik_sl un_ el_ | apply mk_ix un_ el_ | apply ik_sub un_ el_
        | exact lk_el el_ | exact lk_1 agg_ | apply v1_ | apply vn_ | apply mk_r el_ | apply r1_
        | exact ak_ip fl_ sp_ | exact ak_var fl_ sp_ | exact ak_row fl_ sp_ | exact dk_1 fl_ agg_ rfl | apply fn_
        | exact ek_int | exact ek_bool un_ | exact ek_cell
        | exact fit64 (by omega) (by omega) | exact fit32 (by omega) (by omega) | exact fit8 (by omega) (by omega)
        | exact pa_nil | apply pk | exact ca_agg | exact ca_v rfl | exact ca_v (by assumption) | exact ca_sl | exact sc_0 | apply SetC.here | apply SetC.next
        | exact opds0 | apply opds1 | exact lo_none | apply lo_k | exact hi_none | apply hi_k
        | exact rfl | omega | exact (by first | exact hat | exact c_in (by first | omega | (simp only [List.length_append, List.length_nil, List.length_cons, List.nil_append, List.length_replicate, List.length_set]; omega)) | exact List.getElem?_eq_getElem (by first | omega | (simp only [List.length_append, List.length_nil, List.length_cons, List.nil_append, List.length_replicate, List.length_set]; omega))) | (simp only [List.length_append, List.length_nil, List.length_cons, List.nil_append, List.length_replicate, List.length_set]; omega) | intro hp)); done)
      | (refine my_slice rfl un_ el_ (by first | exact od rfl | exact og rfl (by assumption)) (by repeat' (first | exact List.Mem.head _ | apply List.Mem.tail)) (by first | exact odln rfl (by with_reducible rfl) | exact odn rfl | exact ogn rfl (by assumption)) (by first | exact odln rfl (by with_reducible rfl) | exact odn rfl | exact ogn rfl (by assumption)) (by first | omega | (simp only [List.length_append, List.length_nil, List.length_cons, List.nil_append, List.length_replicate, List.length_set]; omega)) (by first | omega | (simp only [List.length_append, List.length_nil, List.length_cons, List.nil_append, List.length_replicate, List.length_set]; omega)))
      | ((first | apply ay_add rfl | apply ay_sub rfl | apply ay_mul rfl | apply ay_quo rfl | apply ay_rem rfl)
       <;> first | exact (by first | (refine og rfl ?_; (first | assumption | (refine gd ?_ ?_ <;> assumption) | (refine gd rfl ?_; assumption) | (apply gl; assumption) | (refine gd (by apply gl; assumption) ?_; assumption))) | exact od rfl) | omega | exact (by first | exact fit64 (by omega) (by omega) | exact fit32 (by omega) (by omega) | exact fit8 (by omega) (by omega)))
     case hx => rfl
     case hd => rfl)
  | (refine al_alloc rfl rfl rfl rfl al_ ?_; intro bb)
    | (refine al_box rfl rfl rfl rfl (by first | exact od rfl | exact og rfl (by assumption)) (by first | exact ca_agg | exact ca_v rfl | exact ca_v (by assumption) | exact ca_sl | exact ca_slc) ?_; intro bb)
    | (refine al_store_var rfl rfl rfl sz_ (by first | exact od rfl | exact og rfl (by assumption)) (by first | exact od rfl | exact og rfl (by assumption)) (by first | exact ca_agg | exact ca_v rfl | exact ca_v (by assumption) | exact ca_sl | exact ca_slc) rfl (by repeat' (first | exact ones0 | apply ones1 | exact one_v rfl | exact one_v (by assumption) | exact one_sl | exact one_slc)) (by repeat' (first | exact UpdF.here | apply UpdF.next)) (by repeat' (first | exact sc_0 | apply SetC.here | apply SetC.next)) ?_)
    | (refine al_store_row rfl rfl rfl el_ (by first | exact od rfl | exact og rfl (by assumption)) (by first | exact od rfl | exact og rfl (by assumption)) (by repeat' (first | exact UpdF.here | apply UpdF.next)) (by first | omega | (simp only [List.length_append, List.length_nil, List.length_cons, List.nil_append, List.length_replicate, List.length_set]; omega)) (by first | exact ca_cell | exact ca_v (by rfl)) ?_)
    | (refine al_empty rfl rfl rfl rfl un_ el_ ?_; intro u hu1 hu2)
    | (refine al_make rfl rfl rfl rfl un_ el_ (by first | exact odln rfl (by with_reducible rfl) | exact odn rfl | exact ogn rfl (by assumption)) (by first | exact odln rfl (by with_reducible rfl) | exact odn rfl | exact ogn rfl (by assumption)) (by omega) (by simp only [maxLen]; omega) ?_; intro u hu1 hu2)
    | (refine al_append rfl rfl rfl rfl un_ el_ (by first | exact od rfl | exact og rfl (by assumption)) (by first | exact od rfl | exact og rfl (by assumption)) (by repeat' (first | exact UpdF.here | apply UpdF.next)) ?h1 ?h2 ?_
       case h1 => (try simp only [List.length_append, List.length_nil, List.length_cons, List.nil_append, List.length_replicate, List.length_set]); omega
       case h2 => (try simp only [List.length_append, List.length_nil, List.length_cons, List.nil_append, List.length_replicate, List.length_set]); simp only [maxLen]; omega
       intro u hu1 hu2)
    | (refine al_copy_row rfl rfl rfl rfl un_ el_ (by first | exact od rfl | exact og rfl (by assumption)) (by first | exact od rfl | exact og rfl (by assumption)) (by repeat' (first | exact UpdF.here | apply UpdF.next)) ?_)
    | (refine al_copy_sub rfl rfl rfl rfl un_ el_ (by first | exact od rfl | exact og rfl (by assumption)) (by first | exact od rfl | exact og rfl (by assumption)) (by repeat' (first | exact UpdF.here | apply UpdF.next)) (by first | omega | (simp only [List.length_append, List.length_nil, List.length_cons, List.nil_append, List.length_replicate, List.length_set]; omega)) ?_)
  | (refine al_last (by kernel_rfl) ?_)
  | fail)
  exact ⟨_, [], (by first | exact res1 rfl rfl | exact res2 rfl rfl rfl | exact res3 rfl rfl rfl rfl | exact res0 rfl | ((first | apply resM1 rfl rfl | apply resM2 rfl rfl rfl) <;> (repeat' (first | exact List.Mem.head _ | apply List.Mem.tail | exact agg_ | exact sz_ | rfl)); done)), List.nil_sublist _, Sub.refl _, rfl⟩
theorem f_lost (w h : Nat) (l : List Cell) (i : Nat) (hl : l.length = w * h) (hb : w * h ≤ 1920) (h1 : 2 ≤ w) (h2 : w ≤ 80) (h3 : 1 ≤ h) (hi : i < l.length) : AP Tryd.prog tab0 34 [gridA w h l, I i] (B (lostM w l i)) := by
  have hat := c_in hi
  have hnx : i % w ≠ w - 1 → i + 1 < l.length := fun k => by
    rcases Nat.lt_or_ge (i + 1) l.length with h | h
    · exact h
    · exact absurd (last_mod (by omega) h3 (by omega)) k
  have hpv : i % w ≠ 0 → 1 ≤ i := fun k => by
    rcases Nat.eq_zero_or_pos i with h | h
    · subst h; simp at k
    · exact h
  have hm : (0 : Int) ≤ ((i % w : Nat) : Int) := Int.natCast_nonneg _
  refine af_intro Tryd.func34 rfl (by decide) Tryd.ntmps34 rfl ?_

  repeat' (first
  | fail
  | refine aw_seq ?_
    | refine aw_region0 ?_
    | refine al_nil ?_
    | refine th_n ?_
    | refine th_e ?_
    | refine th_r ?_
    | refine ib_n ?_
    | refine ib_e rfl ?_
    | refine ib_e' rfl ?_
    | refine ib_r ?_
    | refine aw_block ?_
    | refine aw_exit ?_
    | refine aw_ret ?_
    | refine aw_skip ?_
    | refine aw_region1 (by kernel_rfl) (by kernel_rfl) ?_
    | (refine aw_cond rfl ?_ ?_ <;> intro hb <;> (try simp only [decide_eq_true_eq, decide_eq_false_iff_not, Bool.and_eq_true, Bool.or_eq_true, Bool.not_eq_true', Bool.and_eq_false_iff, Bool.or_eq_false_iff, Bool.not_eq_false'] at hb) <;> (first | (exfalso; omega) | skip))
  | (apply al_y
     case hy =>
      first
      | apply qy_plain rfl
      | apply qy_run rfl rfl (guard_b rfl) rfl
      | exact qy_skip rfl rfl (guard_b rfl) rfl
      | (apply qy_gv rfl rfl (by first | exact guard_b rfl | exact guard_gv rfl); intro hk; have hk2 := hk; (try simp only [Bool.true_and, Bool.and_eq_true, Bool.or_eq_true, beq_iff_eq, decide_eq_true_eq, decide_eq_false_iff_not, Bool.not_eq_true', Bool.not_eq_false', Bool.and_eq_false_iff, Bool.or_eq_false_iff] at hk2))
      first
      | fail
      | ((first | apply ay_move rfl | apply ay_assign rfl | apply ay_not rfl | apply ay_lss rfl | apply ay_leq rfl | apply ay_gtr rfl | apply ay_geq rfl | apply k_eql rfl | apply k_neq rfl | apply ay_and rfl | apply ay_or rfl | apply ay_call rfl | apply k_len rfl | apply k_ix rfl | apply k_ld rfl | apply k_fa rfl | apply k_fd rfl | apply ay_build rfl st_ | apply ay_extract rfl | apply ay_slice rfl un_ el_ | apply bs_cell1 rfl un_ | apply bs_cell2 rfl un_ | apply kn_add rfl | apply kn_sub rfl | apply kn_mul rfl | apply kn_quo rfl | apply kn_rem rfl | apply kn_min rfl)
       <;> (repeat' (
        first
        | ((first | refine og rfl ?_ | refine ogn rfl ?_); (first | assumption | (refine gd ?_ ?_ <;> assumption) | (refine gd rfl ?_; assumption) | (apply gl; assumption) | (refine gd (by apply gl; assumption) ?_; assumption))) | exact odln rfl (by with_reducible rfl) | exact odn rfl | exact od rfl
        | exact c1
        | exact un_ | exact el_ | exact agg_ | exact sz_ | exact sp_ | exact fl_ | exact st_ | exact List.Mem.head _ | apply List.Mem.tail | exact SubC.nil | apply SubC.here | apply SubC.next
        | exact nk_sl un_ | apply mk_len un_ | exact nk_sub un_ | apply ik_sl un_ el_ | apply mk_ix un_ el_ | apply ik_sub un_ el_
        | exact lk_el el_ | exact lk_1 agg_ | apply v1_ | apply vn_ | apply mk_r el_ | apply r1_
        | exact ak_ip fl_ sp_ | exact ak_var fl_ sp_ | exact ak_row fl_ sp_ | exact dk_1 fl_ agg_ rfl | apply fn_
        | exact ek_int | exact ek_bool un_ | exact ek_cell
        | exact fit64 (by omega) (by omega) | exact fit32 (by omega) (by omega) | exact fit8 (by omega) (by omega)
        | exact pa_nil | apply pk | exact ca_agg | exact ca_v rfl | exact ca_v (by assumption) | exact ca_sl | exact sc_0 | apply SetC.here | apply SetC.next
        | exact opds0 | apply opds1 | exact lo_none | apply lo_k | exact hi_none | apply hi_k
        | exact rfl | omega | exact (by first | exact hat | exact c_in (by first | omega | (simp only [List.length_append, List.length_nil, List.length_cons, List.nil_append, List.length_replicate, List.length_set]; omega)) | exact List.getElem?_eq_getElem (by first | omega | (simp only [List.length_append, List.length_nil, List.length_cons, List.nil_append, List.length_replicate, List.length_set]; omega))) | (simp only [List.length_append, List.length_nil, List.length_cons, List.nil_append, List.length_replicate, List.length_set]; omega) | intro hp)); done)
      | (refine my_slice rfl un_ el_ (by first | exact od rfl | exact og rfl (by assumption)) (by repeat' (first | exact List.Mem.head _ | apply List.Mem.tail)) (by first | exact odln rfl (by with_reducible rfl) | exact odn rfl | exact ogn rfl (by assumption)) (by first | exact odln rfl (by with_reducible rfl) | exact odn rfl | exact ogn rfl (by assumption)) (by first | omega | (simp only [List.length_append, List.length_nil, List.length_cons, List.nil_append, List.length_replicate, List.length_set]; omega)) (by first | omega | (simp only [List.length_append, List.length_nil, List.length_cons, List.nil_append, List.length_replicate, List.length_set]; omega)))
      | ((first | apply ay_add rfl | apply ay_sub rfl | apply ay_mul rfl | apply ay_quo rfl | apply ay_rem rfl)
       <;> first | exact (by first | (refine og rfl ?_; (first | assumption | (refine gd ?_ ?_ <;> assumption) | (refine gd rfl ?_; assumption) | (apply gl; assumption) | (refine gd (by apply gl; assumption) ?_; assumption))) | exact od rfl) | omega | exact (by first | exact fit64 (by omega) (by omega) | exact fit32 (by omega) (by omega) | exact fit8 (by omega) (by omega)))
     case hx => rfl
     case hd => rfl)
  | (refine al_alloc rfl rfl rfl rfl al_ ?_; intro bb)
    | (refine al_box rfl rfl rfl rfl (by first | exact od rfl | exact og rfl (by assumption)) (by first | exact ca_agg | exact ca_v rfl | exact ca_v (by assumption) | exact ca_sl | exact ca_slc) ?_; intro bb)
    | (refine al_store_var rfl rfl rfl sz_ (by first | exact od rfl | exact og rfl (by assumption)) (by first | exact od rfl | exact og rfl (by assumption)) (by first | exact ca_agg | exact ca_v rfl | exact ca_v (by assumption) | exact ca_sl | exact ca_slc) rfl (by repeat' (first | exact ones0 | apply ones1 | exact one_v rfl | exact one_v (by assumption) | exact one_sl | exact one_slc)) (by repeat' (first | exact UpdF.here | apply UpdF.next)) (by repeat' (first | exact sc_0 | apply SetC.here | apply SetC.next)) ?_)
    | (refine al_store_row rfl rfl rfl el_ (by first | exact od rfl | exact og rfl (by assumption)) (by first | exact od rfl | exact og rfl (by assumption)) (by repeat' (first | exact UpdF.here | apply UpdF.next)) (by first | omega | (simp only [List.length_append, List.length_nil, List.length_cons, List.nil_append, List.length_replicate, List.length_set]; omega)) (by first | exact ca_cell | exact ca_v (by rfl)) ?_)
    | (refine al_empty rfl rfl rfl rfl un_ el_ ?_; intro u hu1 hu2)
    | (refine al_make rfl rfl rfl rfl un_ el_ (by first | exact odln rfl (by with_reducible rfl) | exact odn rfl | exact ogn rfl (by assumption)) (by first | exact odln rfl (by with_reducible rfl) | exact odn rfl | exact ogn rfl (by assumption)) (by omega) (by simp only [maxLen]; omega) ?_; intro u hu1 hu2)
    | (refine al_append rfl rfl rfl rfl un_ el_ (by first | exact od rfl | exact og rfl (by assumption)) (by first | exact od rfl | exact og rfl (by assumption)) (by repeat' (first | exact UpdF.here | apply UpdF.next)) ?h1 ?h2 ?_
       case h1 => (try simp only [List.length_append, List.length_nil, List.length_cons, List.nil_append, List.length_replicate, List.length_set]); omega
       case h2 => (try simp only [List.length_append, List.length_nil, List.length_cons, List.nil_append, List.length_replicate, List.length_set]); simp only [maxLen]; omega
       intro u hu1 hu2)
    | (refine al_copy_row rfl rfl rfl rfl un_ el_ (by first | exact od rfl | exact og rfl (by assumption)) (by first | exact od rfl | exact og rfl (by assumption)) (by repeat' (first | exact UpdF.here | apply UpdF.next)) ?_)
    | (refine al_copy_sub rfl rfl rfl rfl un_ el_ (by first | exact od rfl | exact og rfl (by assumption)) (by first | exact od rfl | exact og rfl (by assumption)) (by repeat' (first | exact UpdF.here | apply UpdF.next)) (by first | omega | (simp only [List.length_append, List.length_nil, List.length_cons, List.nil_append, List.length_replicate, List.length_set]; omega)) ?_)
  | (refine al_last (by kernel_rfl) ?_)
  | fail)
  all_goals refine ⟨_, [], (by first | exact res1 rfl rfl | exact res2 rfl rfl rfl | exact res3 rfl rfl rfl rfl | exact res0 rfl | ((first | apply resM1 rfl rfl | apply resM2 rfl rfl rfl) <;> (repeat' (first | exact List.Mem.head _ | apply List.Mem.tail | exact agg_ | exact sz_ | rfl)); done)), List.nil_sublist _, Sub.eq (congrArg B ?_), rfl⟩
  · rw [lostM, if_pos hb]; congr 1; rw [decide_eq_decide]; omega
  · rename_i e1; rw [lostM, if_neg e1, if_pos hb]; congr 1; rw [decide_eq_decide]; omega
  · rename_i e1; rw [lostM, if_neg e1, if_neg hb]
theorem f_ref03Is (w h : Int) (l : List Cell) (hl : l.length ≤ 3000) : AP Tryd.prog tab0 18 [gridA w h l] (B (okG w h l)) := by
  by_cases hs : sidesM w h = true
  · obtain ⟨w, h, rfl, rfl, h1, h2, h3, h4⟩ := sides_nat hs
    have hb := side_le h2 h4
    have hnn : (0 : Int) ≤ ((w * h : Nat) : Int) := Int.natCast_nonneg _
    by_cases hlen : l.length = w * h
    · have hok : okG w h l = true ↔ ∀ i, i < l.length → isCell (cAt l i) = true ∧ lostM w l i = false := by
        rw [okG, decide_eq_true_eq, OkG]
        constructor
        · rintro ⟨_, _, k⟩; simpa using k
        · intro k; exact ⟨by omega, by rw [hlen]; simp, by simpa using k⟩
      have cl : ∀ i, i < l.length → AP Tryd.prog tab0 34 [gridA w h l, I i] (B (lostM w l i)) := fun i hi => f_lost w h l i hlen hb h1 h2 h3 hi
      refine af_intro Tryd.func18 rfl (by decide) Tryd.ntmps18 rfl ?_
      repeat' (first
      | fail
      | refine aw_seq ?_
        | refine aw_region0 ?_
        | refine al_nil ?_
        | refine th_n ?_
        | refine th_e ?_
        | refine th_r ?_
        | refine ib_n ?_
        | refine ib_e rfl ?_
        | refine ib_e' rfl ?_
        | refine ib_r ?_
        | refine aw_block ?_
        | refine aw_exit ?_
        | refine aw_ret ?_
        | refine aw_skip ?_
        | refine aw_region1 (by kernel_rfl) (by kernel_rfl) ?_
        | (refine aw_cond rfl ?_ ?_ <;> intro hb <;> (try simp only [decide_eq_true_eq, decide_eq_false_iff_not, Bool.and_eq_true, Bool.or_eq_true, Bool.not_eq_true', Bool.and_eq_false_iff, Bool.or_eq_false_iff, Bool.not_eq_false'] at hb) <;> (first | (exfalso; omega) | skip))
      | (apply al_y
         case hy =>
          first
          | apply qy_plain rfl
          | apply qy_run rfl rfl (guard_b rfl) rfl
          | exact qy_skip rfl rfl (guard_b rfl) rfl
          | (apply qy_gv rfl rfl (by first | exact guard_b rfl | exact guard_gv rfl); intro hk; have hk2 := hk; (try simp only [Bool.true_and, Bool.and_eq_true, Bool.or_eq_true, beq_iff_eq, decide_eq_true_eq, decide_eq_false_iff_not, Bool.not_eq_true', Bool.not_eq_false', Bool.and_eq_false_iff, Bool.or_eq_false_iff] at hk2))
          first
          | fail
          | ((first | apply ay_move rfl | apply ay_assign rfl | apply ay_not rfl | apply ay_lss rfl | apply ay_leq rfl | apply ay_gtr rfl | apply ay_geq rfl | apply k_eql rfl | apply k_neq rfl | apply ay_and rfl | apply ay_or rfl | apply ay_call rfl | apply k_len rfl | apply k_ix rfl | apply k_ld rfl | apply k_fa rfl | apply k_fd rfl | apply ay_build rfl st_ | apply ay_extract rfl | apply ay_slice rfl un_ el_ | apply bs_cell1 rfl un_ | apply bs_cell2 rfl un_ | apply kn_add rfl | apply kn_sub rfl | apply kn_mul rfl | apply kn_quo rfl | apply kn_rem rfl | apply kn_min rfl)
           <;> (repeat' (
            first
            | ((first | refine og rfl ?_ | refine ogn rfl ?_); (first | assumption | (refine gd ?_ ?_ <;> assumption) | (refine gd rfl ?_; assumption) | (apply gl; assumption) | (refine gd (by apply gl; assumption) ?_; assumption))) | exact odln rfl (by with_reducible rfl) | exact odn rfl | exact od rfl
            | exact f_ref03Sides _ _ | exact f_ref02Is (_, _) | exact cl _ (by omega)
            | exact un_ | exact el_ | exact agg_ | exact sz_ | exact sp_ | exact fl_ | exact st_ | exact List.Mem.head _ | apply List.Mem.tail | exact SubC.nil | apply SubC.here | apply SubC.next
            | exact nk_sl un_ | apply mk_len un_ | exact nk_sub un_ | apply ik_sl un_ el_ | apply mk_ix un_ el_ | apply ik_sub un_ el_
            | exact lk_el el_ | exact lk_1 agg_ | apply v1_ | apply vn_ | apply mk_r el_ | apply r1_
            | exact ak_ip fl_ sp_ | exact ak_var fl_ sp_ | exact ak_row fl_ sp_ | exact dk_1 fl_ agg_ rfl | apply fn_
            | exact ek_int | exact ek_bool un_ | exact ek_cell
            | exact fit64 (by omega) (by omega) | exact fit32 (by omega) (by omega) | exact fit8 (by omega) (by omega)
            | exact pa_nil | apply pk | exact ca_agg | exact ca_v rfl | exact ca_v (by assumption) | exact ca_sl | exact sc_0 | apply SetC.here | apply SetC.next
            | exact opds0 | apply opds1 | exact lo_none | apply lo_k | exact hi_none | apply hi_k
            | exact rfl | omega | exact (by first | exact hat | exact c_in (by first | omega | (simp only [List.length_append, List.length_nil, List.length_cons, List.nil_append, List.length_replicate, List.length_set]; omega)) | exact List.getElem?_eq_getElem (by first | omega | (simp only [List.length_append, List.length_nil, List.length_cons, List.nil_append, List.length_replicate, List.length_set]; omega))) | (simp only [List.length_append, List.length_nil, List.length_cons, List.nil_append, List.length_replicate, List.length_set]; omega) | intro hp)); done)
          | (refine my_slice rfl un_ el_ (by first | exact od rfl | exact og rfl (by assumption)) (by repeat' (first | exact List.Mem.head _ | apply List.Mem.tail)) (by first | exact odln rfl (by with_reducible rfl) | exact odn rfl | exact ogn rfl (by assumption)) (by first | exact odln rfl (by with_reducible rfl) | exact odn rfl | exact ogn rfl (by assumption)) (by first | omega | (simp only [List.length_append, List.length_nil, List.length_cons, List.nil_append, List.length_replicate, List.length_set]; omega)) (by first | omega | (simp only [List.length_append, List.length_nil, List.length_cons, List.nil_append, List.length_replicate, List.length_set]; omega)))
          | ((first | apply ay_add rfl | apply ay_sub rfl | apply ay_mul rfl | apply ay_quo rfl | apply ay_rem rfl)
           <;> first | exact (by first | (refine og rfl ?_; (first | assumption | (refine gd ?_ ?_ <;> assumption) | (refine gd rfl ?_; assumption) | (apply gl; assumption) | (refine gd (by apply gl; assumption) ?_; assumption))) | exact od rfl) | omega | exact (by first | exact fit64 (by omega) (by omega) | exact fit32 (by omega) (by omega) | exact fit8 (by omega) (by omega)))
         case hx => rfl
         case hd => rfl)
      | (refine al_alloc rfl rfl rfl rfl al_ ?_; intro bb)
        | (refine al_box rfl rfl rfl rfl (by first | exact od rfl | exact og rfl (by assumption)) (by first | exact ca_agg | exact ca_v rfl | exact ca_v (by assumption) | exact ca_sl | exact ca_slc) ?_; intro bb)
        | (refine al_store_var rfl rfl rfl sz_ (by first | exact od rfl | exact og rfl (by assumption)) (by first | exact od rfl | exact og rfl (by assumption)) (by first | exact ca_agg | exact ca_v rfl | exact ca_v (by assumption) | exact ca_sl | exact ca_slc) rfl (by repeat' (first | exact ones0 | apply ones1 | exact one_v rfl | exact one_v (by assumption) | exact one_sl | exact one_slc)) (by repeat' (first | exact UpdF.here | apply UpdF.next)) (by repeat' (first | exact sc_0 | apply SetC.here | apply SetC.next)) ?_)
        | (refine al_store_row rfl rfl rfl el_ (by first | exact od rfl | exact og rfl (by assumption)) (by first | exact od rfl | exact og rfl (by assumption)) (by repeat' (first | exact UpdF.here | apply UpdF.next)) (by first | omega | (simp only [List.length_append, List.length_nil, List.length_cons, List.nil_append, List.length_replicate, List.length_set]; omega)) (by first | exact ca_cell | exact ca_v (by rfl)) ?_)
        | (refine al_empty rfl rfl rfl rfl un_ el_ ?_; intro u hu1 hu2)
        | (refine al_make rfl rfl rfl rfl un_ el_ (by first | exact odln rfl (by with_reducible rfl) | exact odn rfl | exact ogn rfl (by assumption)) (by first | exact odln rfl (by with_reducible rfl) | exact odn rfl | exact ogn rfl (by assumption)) (by omega) (by simp only [maxLen]; omega) ?_; intro u hu1 hu2)
        | (refine al_append rfl rfl rfl rfl un_ el_ (by first | exact od rfl | exact og rfl (by assumption)) (by first | exact od rfl | exact og rfl (by assumption)) (by repeat' (first | exact UpdF.here | apply UpdF.next)) ?h1 ?h2 ?_
           case h1 => (try simp only [List.length_append, List.length_nil, List.length_cons, List.nil_append, List.length_replicate, List.length_set]); omega
           case h2 => (try simp only [List.length_append, List.length_nil, List.length_cons, List.nil_append, List.length_replicate, List.length_set]); simp only [maxLen]; omega
           intro u hu1 hu2)
        | (refine al_copy_row rfl rfl rfl rfl un_ el_ (by first | exact od rfl | exact og rfl (by assumption)) (by first | exact od rfl | exact og rfl (by assumption)) (by repeat' (first | exact UpdF.here | apply UpdF.next)) ?_)
        | (refine al_copy_sub rfl rfl rfl rfl un_ el_ (by first | exact od rfl | exact og rfl (by assumption)) (by first | exact od rfl | exact og rfl (by assumption)) (by repeat' (first | exact UpdF.here | apply UpdF.next)) (by first | omega | (simp only [List.length_append, List.length_nil, List.length_cons, List.nil_append, List.length_replicate, List.length_set]; omega)) ?_)
      | (refine al_last (by kernel_rfl) ?_)
      | fail)
      all_goals first | (exfalso; simp [hs] at hb; omega) | skip
      refine aw_fl (fun i : Nat => [(1, vA (.pointer (some ⟨bb, 0, none⟩))), (3, I i)]) (fun _ => [varO bb 24 [I w, I h, slA cellT l]]) (fun i => i ≤ l.length ∧ ∀ j, j < i → isCell (cAt l j) = true ∧ lostM w l j = false) (fun i => l.length - i) 0 ⟨Nat.zero_le _, fun _ k => absurd k (Nat.not_lt_zero _)⟩ (by repeat' (first | exact weak_nil | refine weak_cons rfl ?_ | fail)) (by repeat' (first | exact List.nil_sublist _ | apply List.Sublist.cons_cons | apply List.Sublist.cons)) ?_
      rintro i ⟨i1, i2⟩
      by_cases hlt : i < l.length
      · repeat' (first
        | fail
        | refine aw_seq ?_
          | refine aw_region0 ?_
          | refine al_nil ?_
          | refine th_n ?_
          | refine th_e ?_
          | refine th_r ?_
          | refine ib_n ?_
          | refine ib_e rfl ?_
          | refine ib_e' rfl ?_
          | refine ib_r ?_
          | refine aw_block ?_
          | refine aw_exit ?_
          | refine aw_ret ?_
          | refine aw_skip ?_
          | refine aw_region1 (by kernel_rfl) (by kernel_rfl) ?_
          | (refine aw_cond rfl ?_ ?_ <;> intro hb <;> (try simp only [decide_eq_true_eq, decide_eq_false_iff_not, Bool.and_eq_true, Bool.or_eq_true, Bool.not_eq_true', Bool.and_eq_false_iff, Bool.or_eq_false_iff, Bool.not_eq_false'] at hb) <;> (first | (exfalso; omega) | skip))
        | (apply al_y
           case hy =>
            first
            | apply qy_plain rfl
            | apply qy_run rfl rfl (guard_b rfl) rfl
            | exact qy_skip rfl rfl (guard_b rfl) rfl
            | (apply qy_gv rfl rfl (by first | exact guard_b rfl | exact guard_gv rfl); intro hk; have hk2 := hk; (try simp only [Bool.true_and, Bool.and_eq_true, Bool.or_eq_true, beq_iff_eq, decide_eq_true_eq, decide_eq_false_iff_not, Bool.not_eq_true', Bool.not_eq_false', Bool.and_eq_false_iff, Bool.or_eq_false_iff] at hk2))
            first
            | fail
            | ((first | apply ay_move rfl | apply ay_assign rfl | apply ay_not rfl | apply ay_lss rfl | apply ay_leq rfl | apply ay_gtr rfl | apply ay_geq rfl | apply k_eql rfl | apply k_neq rfl | apply ay_and rfl | apply ay_or rfl | apply ay_call rfl | apply k_len rfl | apply k_ix rfl | apply k_ld rfl | apply k_fa rfl | apply k_fd rfl | apply ay_build rfl st_ | apply ay_extract rfl | apply ay_slice rfl un_ el_ | apply bs_cell1 rfl un_ | apply bs_cell2 rfl un_ | apply kn_add rfl | apply kn_sub rfl | apply kn_mul rfl | apply kn_quo rfl | apply kn_rem rfl | apply kn_min rfl)
             <;> (repeat' (
              first
              | ((first | refine og rfl ?_ | refine ogn rfl ?_); (first | assumption | (refine gd ?_ ?_ <;> assumption) | (refine gd rfl ?_; assumption) | (apply gl; assumption) | (refine gd (by apply gl; assumption) ?_; assumption))) | exact odln rfl (by with_reducible rfl) | exact odn rfl | exact od rfl
              | exact f_ref03Sides _ _ | exact f_ref02Is (_, _) | exact cl _ (by omega)
              | exact un_ | exact el_ | exact agg_ | exact sz_ | exact sp_ | exact fl_ | exact st_ | exact List.Mem.head _ | apply List.Mem.tail | exact SubC.nil | apply SubC.here | apply SubC.next
              | exact nk_sl un_ | apply mk_len un_ | exact nk_sub un_ | apply ik_sl un_ el_ | apply mk_ix un_ el_ | apply ik_sub un_ el_
              | exact lk_el el_ | exact lk_1 agg_ | apply v1_ | apply vn_ | apply mk_r el_ | apply r1_
              | exact ak_ip fl_ sp_ | exact ak_var fl_ sp_ | exact ak_row fl_ sp_ | exact dk_1 fl_ agg_ rfl | apply fn_
              | exact ek_int | exact ek_bool un_ | exact ek_cell
              | exact fit64 (by omega) (by omega) | exact fit32 (by omega) (by omega) | exact fit8 (by omega) (by omega)
              | exact pa_nil | apply pk | exact ca_agg | exact ca_v rfl | exact ca_v (by assumption) | exact ca_sl | exact sc_0 | apply SetC.here | apply SetC.next
              | exact opds0 | apply opds1 | exact lo_none | apply lo_k | exact hi_none | apply hi_k
              | exact rfl | omega | exact (by first | exact hat | exact c_in (by first | omega | (simp only [List.length_append, List.length_nil, List.length_cons, List.nil_append, List.length_replicate, List.length_set]; omega)) | exact List.getElem?_eq_getElem (by first | omega | (simp only [List.length_append, List.length_nil, List.length_cons, List.nil_append, List.length_replicate, List.length_set]; omega))) | (simp only [List.length_append, List.length_nil, List.length_cons, List.nil_append, List.length_replicate, List.length_set]; omega) | intro hp)); done)
            | (refine my_slice rfl un_ el_ (by first | exact od rfl | exact og rfl (by assumption)) (by repeat' (first | exact List.Mem.head _ | apply List.Mem.tail)) (by first | exact odln rfl (by with_reducible rfl) | exact odn rfl | exact ogn rfl (by assumption)) (by first | exact odln rfl (by with_reducible rfl) | exact odn rfl | exact ogn rfl (by assumption)) (by first | omega | (simp only [List.length_append, List.length_nil, List.length_cons, List.nil_append, List.length_replicate, List.length_set]; omega)) (by first | omega | (simp only [List.length_append, List.length_nil, List.length_cons, List.nil_append, List.length_replicate, List.length_set]; omega)))
            | ((first | apply ay_add rfl | apply ay_sub rfl | apply ay_mul rfl | apply ay_quo rfl | apply ay_rem rfl)
             <;> first | exact (by first | (refine og rfl ?_; (first | assumption | (refine gd ?_ ?_ <;> assumption) | (refine gd rfl ?_; assumption) | (apply gl; assumption) | (refine gd (by apply gl; assumption) ?_; assumption))) | exact od rfl) | omega | exact (by first | exact fit64 (by omega) (by omega) | exact fit32 (by omega) (by omega) | exact fit8 (by omega) (by omega)))
           case hx => rfl
           case hd => rfl)
        | (refine al_alloc rfl rfl rfl rfl al_ ?_; intro bb)
          | (refine al_box rfl rfl rfl rfl (by first | exact od rfl | exact og rfl (by assumption)) (by first | exact ca_agg | exact ca_v rfl | exact ca_v (by assumption) | exact ca_sl | exact ca_slc) ?_; intro bb)
          | (refine al_store_var rfl rfl rfl sz_ (by first | exact od rfl | exact og rfl (by assumption)) (by first | exact od rfl | exact og rfl (by assumption)) (by first | exact ca_agg | exact ca_v rfl | exact ca_v (by assumption) | exact ca_sl | exact ca_slc) rfl (by repeat' (first | exact ones0 | apply ones1 | exact one_v rfl | exact one_v (by assumption) | exact one_sl | exact one_slc)) (by repeat' (first | exact UpdF.here | apply UpdF.next)) (by repeat' (first | exact sc_0 | apply SetC.here | apply SetC.next)) ?_)
          | (refine al_store_row rfl rfl rfl el_ (by first | exact od rfl | exact og rfl (by assumption)) (by first | exact od rfl | exact og rfl (by assumption)) (by repeat' (first | exact UpdF.here | apply UpdF.next)) (by first | omega | (simp only [List.length_append, List.length_nil, List.length_cons, List.nil_append, List.length_replicate, List.length_set]; omega)) (by first | exact ca_cell | exact ca_v (by rfl)) ?_)
          | (refine al_empty rfl rfl rfl rfl un_ el_ ?_; intro u hu1 hu2)
          | (refine al_make rfl rfl rfl rfl un_ el_ (by first | exact odln rfl (by with_reducible rfl) | exact odn rfl | exact ogn rfl (by assumption)) (by first | exact odln rfl (by with_reducible rfl) | exact odn rfl | exact ogn rfl (by assumption)) (by omega) (by simp only [maxLen]; omega) ?_; intro u hu1 hu2)
          | (refine al_append rfl rfl rfl rfl un_ el_ (by first | exact od rfl | exact og rfl (by assumption)) (by first | exact od rfl | exact og rfl (by assumption)) (by repeat' (first | exact UpdF.here | apply UpdF.next)) ?h1 ?h2 ?_
             case h1 => (try simp only [List.length_append, List.length_nil, List.length_cons, List.nil_append, List.length_replicate, List.length_set]); omega
             case h2 => (try simp only [List.length_append, List.length_nil, List.length_cons, List.nil_append, List.length_replicate, List.length_set]); simp only [maxLen]; omega
             intro u hu1 hu2)
          | (refine al_copy_row rfl rfl rfl rfl un_ el_ (by first | exact od rfl | exact og rfl (by assumption)) (by first | exact od rfl | exact og rfl (by assumption)) (by repeat' (first | exact UpdF.here | apply UpdF.next)) ?_)
          | (refine al_copy_sub rfl rfl rfl rfl un_ el_ (by first | exact od rfl | exact og rfl (by assumption)) (by first | exact od rfl | exact og rfl (by assumption)) (by repeat' (first | exact UpdF.here | apply UpdF.next)) (by first | omega | (simp only [List.length_append, List.length_nil, List.length_cons, List.nil_append, List.length_replicate, List.length_set]; omega)) ?_)
        | (refine al_last (by kernel_rfl) ?_)
        | fail)
        · refine ⟨_, [], (by first | exact res1 rfl rfl | exact res2 rfl rfl rfl | exact res3 rfl rfl rfl rfl | exact res0 rfl | ((first | apply resM1 rfl rfl | apply resM2 rfl rfl rfl) <;> (repeat' (first | exact List.Mem.head _ | apply List.Mem.tail | exact agg_ | exact sz_ | rfl)); done)), List.nil_sublist _, Sub.eq (congrArg B ?_), rfl⟩
          rw [eq_comm, ← Bool.not_eq_true, hok]
          intro k
          have t := k i hlt
          rcases hb with hb | hb
          · exact absurd (show isCell (cAt l i) = true from t.1) (by rw [show isCell (cAt l i) = false from hb]; decide)
          · rw [t.2] at hb; cases hb
        · refine ⟨i + 1, ⟨by omega, fun j hj => ?_⟩, by omega, (by repeat' (first | exact weak_nil | refine weak_cons rfl ?_ | fail)), (by repeat' (first | exact List.nil_sublist _ | apply List.Sublist.cons_cons | apply List.Sublist.cons))⟩
          by_cases e : j = i
          · subst e; exact hb
          · exact i2 j (by omega)
      · repeat' (first
        | fail
        | refine aw_seq ?_
          | refine aw_region0 ?_
          | refine al_nil ?_
          | refine th_n ?_
          | refine th_e ?_
          | refine th_r ?_
          | refine ib_n ?_
          | refine ib_e rfl ?_
          | refine ib_e' rfl ?_
          | refine ib_r ?_
          | refine aw_block ?_
          | refine aw_exit ?_
          | refine aw_ret ?_
          | refine aw_skip ?_
          | refine aw_region1 (by kernel_rfl) (by kernel_rfl) ?_
          | (refine aw_cond rfl ?_ ?_ <;> intro hb <;> (try simp only [decide_eq_true_eq, decide_eq_false_iff_not, Bool.and_eq_true, Bool.or_eq_true, Bool.not_eq_true', Bool.and_eq_false_iff, Bool.or_eq_false_iff, Bool.not_eq_false'] at hb) <;> (first | (exfalso; omega) | skip))
        | (apply al_y
           case hy =>
            first
            | apply qy_plain rfl
            | apply qy_run rfl rfl (guard_b rfl) rfl
            | exact qy_skip rfl rfl (guard_b rfl) rfl
            | (apply qy_gv rfl rfl (by first | exact guard_b rfl | exact guard_gv rfl); intro hk; have hk2 := hk; (try simp only [Bool.true_and, Bool.and_eq_true, Bool.or_eq_true, beq_iff_eq, decide_eq_true_eq, decide_eq_false_iff_not, Bool.not_eq_true', Bool.not_eq_false', Bool.and_eq_false_iff, Bool.or_eq_false_iff] at hk2))
            first
            | fail
            | ((first | apply ay_move rfl | apply ay_assign rfl | apply ay_not rfl | apply ay_lss rfl | apply ay_leq rfl | apply ay_gtr rfl | apply ay_geq rfl | apply k_eql rfl | apply k_neq rfl | apply ay_and rfl | apply ay_or rfl | apply ay_call rfl | apply k_len rfl | apply k_ix rfl | apply k_ld rfl | apply k_fa rfl | apply k_fd rfl | apply ay_build rfl st_ | apply ay_extract rfl | apply ay_slice rfl un_ el_ | apply bs_cell1 rfl un_ | apply bs_cell2 rfl un_ | apply kn_add rfl | apply kn_sub rfl | apply kn_mul rfl | apply kn_quo rfl | apply kn_rem rfl | apply kn_min rfl)
             <;> (repeat' (
              first
              | ((first | refine og rfl ?_ | refine ogn rfl ?_); (first | assumption | (refine gd ?_ ?_ <;> assumption) | (refine gd rfl ?_; assumption) | (apply gl; assumption) | (refine gd (by apply gl; assumption) ?_; assumption))) | exact odln rfl (by with_reducible rfl) | exact odn rfl | exact od rfl
              | exact f_ref03Sides _ _ | exact f_ref02Is (_, _) | exact cl _ (by omega)
              | exact un_ | exact el_ | exact agg_ | exact sz_ | exact sp_ | exact fl_ | exact st_ | exact List.Mem.head _ | apply List.Mem.tail | exact SubC.nil | apply SubC.here | apply SubC.next
              | exact nk_sl un_ | apply mk_len un_ | exact nk_sub un_ | apply ik_sl un_ el_ | apply mk_ix un_ el_ | apply ik_sub un_ el_
              | exact lk_el el_ | exact lk_1 agg_ | apply v1_ | apply vn_ | apply mk_r el_ | apply r1_
              | exact ak_ip fl_ sp_ | exact ak_var fl_ sp_ | exact ak_row fl_ sp_ | exact dk_1 fl_ agg_ rfl | apply fn_
              | exact ek_int | exact ek_bool un_ | exact ek_cell
              | exact fit64 (by omega) (by omega) | exact fit32 (by omega) (by omega) | exact fit8 (by omega) (by omega)
              | exact pa_nil | apply pk | exact ca_agg | exact ca_v rfl | exact ca_v (by assumption) | exact ca_sl | exact sc_0 | apply SetC.here | apply SetC.next
              | exact opds0 | apply opds1 | exact lo_none | apply lo_k | exact hi_none | apply hi_k
              | exact rfl | omega | exact (by first | exact hat | exact c_in (by first | omega | (simp only [List.length_append, List.length_nil, List.length_cons, List.nil_append, List.length_replicate, List.length_set]; omega)) | exact List.getElem?_eq_getElem (by first | omega | (simp only [List.length_append, List.length_nil, List.length_cons, List.nil_append, List.length_replicate, List.length_set]; omega))) | (simp only [List.length_append, List.length_nil, List.length_cons, List.nil_append, List.length_replicate, List.length_set]; omega) | intro hp)); done)
            | (refine my_slice rfl un_ el_ (by first | exact od rfl | exact og rfl (by assumption)) (by repeat' (first | exact List.Mem.head _ | apply List.Mem.tail)) (by first | exact odln rfl (by with_reducible rfl) | exact odn rfl | exact ogn rfl (by assumption)) (by first | exact odln rfl (by with_reducible rfl) | exact odn rfl | exact ogn rfl (by assumption)) (by first | omega | (simp only [List.length_append, List.length_nil, List.length_cons, List.nil_append, List.length_replicate, List.length_set]; omega)) (by first | omega | (simp only [List.length_append, List.length_nil, List.length_cons, List.nil_append, List.length_replicate, List.length_set]; omega)))
            | ((first | apply ay_add rfl | apply ay_sub rfl | apply ay_mul rfl | apply ay_quo rfl | apply ay_rem rfl)
             <;> first | exact (by first | (refine og rfl ?_; (first | assumption | (refine gd ?_ ?_ <;> assumption) | (refine gd rfl ?_; assumption) | (apply gl; assumption) | (refine gd (by apply gl; assumption) ?_; assumption))) | exact od rfl) | omega | exact (by first | exact fit64 (by omega) (by omega) | exact fit32 (by omega) (by omega) | exact fit8 (by omega) (by omega)))
           case hx => rfl
           case hd => rfl)
        | (refine al_alloc rfl rfl rfl rfl al_ ?_; intro bb)
          | (refine al_box rfl rfl rfl rfl (by first | exact od rfl | exact og rfl (by assumption)) (by first | exact ca_agg | exact ca_v rfl | exact ca_v (by assumption) | exact ca_sl | exact ca_slc) ?_; intro bb)
          | (refine al_store_var rfl rfl rfl sz_ (by first | exact od rfl | exact og rfl (by assumption)) (by first | exact od rfl | exact og rfl (by assumption)) (by first | exact ca_agg | exact ca_v rfl | exact ca_v (by assumption) | exact ca_sl | exact ca_slc) rfl (by repeat' (first | exact ones0 | apply ones1 | exact one_v rfl | exact one_v (by assumption) | exact one_sl | exact one_slc)) (by repeat' (first | exact UpdF.here | apply UpdF.next)) (by repeat' (first | exact sc_0 | apply SetC.here | apply SetC.next)) ?_)
          | (refine al_store_row rfl rfl rfl el_ (by first | exact od rfl | exact og rfl (by assumption)) (by first | exact od rfl | exact og rfl (by assumption)) (by repeat' (first | exact UpdF.here | apply UpdF.next)) (by first | omega | (simp only [List.length_append, List.length_nil, List.length_cons, List.nil_append, List.length_replicate, List.length_set]; omega)) (by first | exact ca_cell | exact ca_v (by rfl)) ?_)
          | (refine al_empty rfl rfl rfl rfl un_ el_ ?_; intro u hu1 hu2)
          | (refine al_make rfl rfl rfl rfl un_ el_ (by first | exact odln rfl (by with_reducible rfl) | exact odn rfl | exact ogn rfl (by assumption)) (by first | exact odln rfl (by with_reducible rfl) | exact odn rfl | exact ogn rfl (by assumption)) (by omega) (by simp only [maxLen]; omega) ?_; intro u hu1 hu2)
          | (refine al_append rfl rfl rfl rfl un_ el_ (by first | exact od rfl | exact og rfl (by assumption)) (by first | exact od rfl | exact og rfl (by assumption)) (by repeat' (first | exact UpdF.here | apply UpdF.next)) ?h1 ?h2 ?_
             case h1 => (try simp only [List.length_append, List.length_nil, List.length_cons, List.nil_append, List.length_replicate, List.length_set]); omega
             case h2 => (try simp only [List.length_append, List.length_nil, List.length_cons, List.nil_append, List.length_replicate, List.length_set]); simp only [maxLen]; omega
             intro u hu1 hu2)
          | (refine al_copy_row rfl rfl rfl rfl un_ el_ (by first | exact od rfl | exact og rfl (by assumption)) (by first | exact od rfl | exact og rfl (by assumption)) (by repeat' (first | exact UpdF.here | apply UpdF.next)) ?_)
          | (refine al_copy_sub rfl rfl rfl rfl un_ el_ (by first | exact od rfl | exact og rfl (by assumption)) (by first | exact od rfl | exact og rfl (by assumption)) (by repeat' (first | exact UpdF.here | apply UpdF.next)) (by first | omega | (simp only [List.length_append, List.length_nil, List.length_cons, List.nil_append, List.length_replicate, List.length_set]; omega)) ?_)
        | (refine al_last (by kernel_rfl) ?_)
        | fail)
        refine ⟨_, [], (by first | exact res1 rfl rfl | exact res2 rfl rfl rfl | exact res3 rfl rfl rfl rfl | exact res0 rfl | ((first | apply resM1 rfl rfl | apply resM2 rfl rfl rfl) <;> (repeat' (first | exact List.Mem.head _ | apply List.Mem.tail | exact agg_ | exact sz_ | rfl)); done)), List.nil_sublist _, Sub.eq (congrArg B ?_), rfl⟩
        exact (hok.2 fun j hj => i2 j (by omega)).symm
    · have hok : okG w h l = false := by
        rw [okG, decide_eq_false_iff_not]; rintro ⟨_, k, _⟩; exact hlen (by rw [← Int.natCast_mul] at k; omega)
      rw [hok]
      refine af_intro Tryd.func18 rfl (by decide) Tryd.ntmps18 rfl ?_
      repeat' (first
      | fail
      | refine aw_seq ?_
        | refine aw_region0 ?_
        | refine al_nil ?_
        | refine th_n ?_
        | refine th_e ?_
        | refine th_r ?_
        | refine ib_n ?_
        | refine ib_e rfl ?_
        | refine ib_e' rfl ?_
        | refine ib_r ?_
        | refine aw_block ?_
        | refine aw_exit ?_
        | refine aw_ret ?_
        | refine aw_skip ?_
        | refine aw_region1 (by kernel_rfl) (by kernel_rfl) ?_
        | (refine aw_cond rfl ?_ ?_ <;> intro hb <;> (try simp only [decide_eq_true_eq, decide_eq_false_iff_not, Bool.and_eq_true, Bool.or_eq_true, Bool.not_eq_true', Bool.and_eq_false_iff, Bool.or_eq_false_iff, Bool.not_eq_false'] at hb) <;> (first | (exfalso; omega) | skip))
      | (apply al_y
         case hy =>
          first
          | apply qy_plain rfl
          | apply qy_run rfl rfl (guard_b rfl) rfl
          | exact qy_skip rfl rfl (guard_b rfl) rfl
          | (apply qy_gv rfl rfl (by first | exact guard_b rfl | exact guard_gv rfl); intro hk; have hk2 := hk; (try simp only [Bool.true_and, Bool.and_eq_true, Bool.or_eq_true, beq_iff_eq, decide_eq_true_eq, decide_eq_false_iff_not, Bool.not_eq_true', Bool.not_eq_false', Bool.and_eq_false_iff, Bool.or_eq_false_iff] at hk2))
          first
          | fail
          | ((first | apply ay_move rfl | apply ay_assign rfl | apply ay_not rfl | apply ay_lss rfl | apply ay_leq rfl | apply ay_gtr rfl | apply ay_geq rfl | apply k_eql rfl | apply k_neq rfl | apply ay_and rfl | apply ay_or rfl | apply ay_call rfl | apply k_len rfl | apply k_ix rfl | apply k_ld rfl | apply k_fa rfl | apply k_fd rfl | apply ay_build rfl st_ | apply ay_extract rfl | apply ay_slice rfl un_ el_ | apply bs_cell1 rfl un_ | apply bs_cell2 rfl un_ | apply kn_add rfl | apply kn_sub rfl | apply kn_mul rfl | apply kn_quo rfl | apply kn_rem rfl | apply kn_min rfl)
           <;> (repeat' (
            first
            | ((first | refine og rfl ?_ | refine ogn rfl ?_); (first | assumption | (refine gd ?_ ?_ <;> assumption) | (refine gd rfl ?_; assumption) | (apply gl; assumption) | (refine gd (by apply gl; assumption) ?_; assumption))) | exact odln rfl (by with_reducible rfl) | exact odn rfl | exact od rfl
            | exact f_ref03Sides _ _ | exact f_ref02Is (_, _) | exact cl _ (by omega)
            | exact un_ | exact el_ | exact agg_ | exact sz_ | exact sp_ | exact fl_ | exact st_ | exact List.Mem.head _ | apply List.Mem.tail | exact SubC.nil | apply SubC.here | apply SubC.next
            | exact nk_sl un_ | apply mk_len un_ | exact nk_sub un_ | apply ik_sl un_ el_ | apply mk_ix un_ el_ | apply ik_sub un_ el_
            | exact lk_el el_ | exact lk_1 agg_ | apply v1_ | apply vn_ | apply mk_r el_ | apply r1_
            | exact ak_ip fl_ sp_ | exact ak_var fl_ sp_ | exact ak_row fl_ sp_ | exact dk_1 fl_ agg_ rfl | apply fn_
            | exact ek_int | exact ek_bool un_ | exact ek_cell
            | exact fit64 (by omega) (by omega) | exact fit32 (by omega) (by omega) | exact fit8 (by omega) (by omega)
            | exact pa_nil | apply pk | exact ca_agg | exact ca_v rfl | exact ca_v (by assumption) | exact ca_sl | exact sc_0 | apply SetC.here | apply SetC.next
            | exact opds0 | apply opds1 | exact lo_none | apply lo_k | exact hi_none | apply hi_k
            | exact rfl | omega | exact (by first | exact hat | exact c_in (by first | omega | (simp only [List.length_append, List.length_nil, List.length_cons, List.nil_append, List.length_replicate, List.length_set]; omega)) | exact List.getElem?_eq_getElem (by first | omega | (simp only [List.length_append, List.length_nil, List.length_cons, List.nil_append, List.length_replicate, List.length_set]; omega))) | (simp only [List.length_append, List.length_nil, List.length_cons, List.nil_append, List.length_replicate, List.length_set]; omega) | intro hp)); done)
          | (refine my_slice rfl un_ el_ (by first | exact od rfl | exact og rfl (by assumption)) (by repeat' (first | exact List.Mem.head _ | apply List.Mem.tail)) (by first | exact odln rfl (by with_reducible rfl) | exact odn rfl | exact ogn rfl (by assumption)) (by first | exact odln rfl (by with_reducible rfl) | exact odn rfl | exact ogn rfl (by assumption)) (by first | omega | (simp only [List.length_append, List.length_nil, List.length_cons, List.nil_append, List.length_replicate, List.length_set]; omega)) (by first | omega | (simp only [List.length_append, List.length_nil, List.length_cons, List.nil_append, List.length_replicate, List.length_set]; omega)))
          | ((first | apply ay_add rfl | apply ay_sub rfl | apply ay_mul rfl | apply ay_quo rfl | apply ay_rem rfl)
           <;> first | exact (by first | (refine og rfl ?_; (first | assumption | (refine gd ?_ ?_ <;> assumption) | (refine gd rfl ?_; assumption) | (apply gl; assumption) | (refine gd (by apply gl; assumption) ?_; assumption))) | exact od rfl) | omega | exact (by first | exact fit64 (by omega) (by omega) | exact fit32 (by omega) (by omega) | exact fit8 (by omega) (by omega)))
         case hx => rfl
         case hd => rfl)
      | (refine al_alloc rfl rfl rfl rfl al_ ?_; intro bb)
        | (refine al_box rfl rfl rfl rfl (by first | exact od rfl | exact og rfl (by assumption)) (by first | exact ca_agg | exact ca_v rfl | exact ca_v (by assumption) | exact ca_sl | exact ca_slc) ?_; intro bb)
        | (refine al_store_var rfl rfl rfl sz_ (by first | exact od rfl | exact og rfl (by assumption)) (by first | exact od rfl | exact og rfl (by assumption)) (by first | exact ca_agg | exact ca_v rfl | exact ca_v (by assumption) | exact ca_sl | exact ca_slc) rfl (by repeat' (first | exact ones0 | apply ones1 | exact one_v rfl | exact one_v (by assumption) | exact one_sl | exact one_slc)) (by repeat' (first | exact UpdF.here | apply UpdF.next)) (by repeat' (first | exact sc_0 | apply SetC.here | apply SetC.next)) ?_)
        | (refine al_store_row rfl rfl rfl el_ (by first | exact od rfl | exact og rfl (by assumption)) (by first | exact od rfl | exact og rfl (by assumption)) (by repeat' (first | exact UpdF.here | apply UpdF.next)) (by first | omega | (simp only [List.length_append, List.length_nil, List.length_cons, List.nil_append, List.length_replicate, List.length_set]; omega)) (by first | exact ca_cell | exact ca_v (by rfl)) ?_)
        | (refine al_empty rfl rfl rfl rfl un_ el_ ?_; intro u hu1 hu2)
        | (refine al_make rfl rfl rfl rfl un_ el_ (by first | exact odln rfl (by with_reducible rfl) | exact odn rfl | exact ogn rfl (by assumption)) (by first | exact odln rfl (by with_reducible rfl) | exact odn rfl | exact ogn rfl (by assumption)) (by omega) (by simp only [maxLen]; omega) ?_; intro u hu1 hu2)
        | (refine al_append rfl rfl rfl rfl un_ el_ (by first | exact od rfl | exact og rfl (by assumption)) (by first | exact od rfl | exact og rfl (by assumption)) (by repeat' (first | exact UpdF.here | apply UpdF.next)) ?h1 ?h2 ?_
           case h1 => (try simp only [List.length_append, List.length_nil, List.length_cons, List.nil_append, List.length_replicate, List.length_set]); omega
           case h2 => (try simp only [List.length_append, List.length_nil, List.length_cons, List.nil_append, List.length_replicate, List.length_set]); simp only [maxLen]; omega
           intro u hu1 hu2)
        | (refine al_copy_row rfl rfl rfl rfl un_ el_ (by first | exact od rfl | exact og rfl (by assumption)) (by first | exact od rfl | exact og rfl (by assumption)) (by repeat' (first | exact UpdF.here | apply UpdF.next)) ?_)
        | (refine al_copy_sub rfl rfl rfl rfl un_ el_ (by first | exact od rfl | exact og rfl (by assumption)) (by first | exact od rfl | exact og rfl (by assumption)) (by repeat' (first | exact UpdF.here | apply UpdF.next)) (by first | omega | (simp only [List.length_append, List.length_nil, List.length_cons, List.nil_append, List.length_replicate, List.length_set]; omega)) ?_)
      | (refine al_last (by kernel_rfl) ?_)
      | fail)
      all_goals first | exact ⟨_, [], (by first | exact res1 rfl rfl | exact res2 rfl rfl rfl | exact res3 rfl rfl rfl rfl | exact res0 rfl | ((first | apply resM1 rfl rfl | apply resM2 rfl rfl rfl) <;> (repeat' (first | exact List.Mem.head _ | apply List.Mem.tail | exact agg_ | exact sz_ | rfl)); done)), List.nil_sublist _, Sub.refl _, rfl⟩ | (exfalso; omega) | (exfalso; simp [hs] at hb; omega)
  · have hs' : ¬ (2 ≤ w ∧ w ≤ 80 ∧ 1 ≤ h ∧ h ≤ 24) := by simpa [sidesM, and_assoc] using hs
    have hok : okG w h l = false := by
      rw [okG, decide_eq_false_iff_not]; rintro ⟨k, _, _⟩; exact hs' k
    rw [hok]
    have hs2 : sidesM w h = false := by simpa using hs
    refine af_intro Tryd.func18 rfl (by decide) Tryd.ntmps18 rfl ?_
    repeat' (first
    | fail
    | refine aw_seq ?_
      | refine aw_region0 ?_
      | refine al_nil ?_
      | refine th_n ?_
      | refine th_e ?_
      | refine th_r ?_
      | refine ib_n ?_
      | refine ib_e rfl ?_
      | refine ib_e' rfl ?_
      | refine ib_r ?_
      | refine aw_block ?_
      | refine aw_exit ?_
      | refine aw_ret ?_
      | refine aw_skip ?_
      | refine aw_region1 (by kernel_rfl) (by kernel_rfl) ?_
      | (refine aw_cond rfl ?_ ?_ <;> intro hb <;> (try simp only [decide_eq_true_eq, decide_eq_false_iff_not, Bool.and_eq_true, Bool.or_eq_true, Bool.not_eq_true', Bool.and_eq_false_iff, Bool.or_eq_false_iff, Bool.not_eq_false'] at hb) <;> (first | (exfalso; omega) | skip))
    | (apply al_y
       case hy =>
        first
        | apply qy_plain rfl
        | apply qy_run rfl rfl (guard_b rfl) rfl
        | exact qy_skip rfl rfl (guard_b rfl) rfl
        | (apply qy_gv rfl rfl (by first | exact guard_b rfl | exact guard_gv rfl); intro hk; have hk2 := hk; (try simp only [Bool.true_and, Bool.and_eq_true, Bool.or_eq_true, beq_iff_eq, decide_eq_true_eq, decide_eq_false_iff_not, Bool.not_eq_true', Bool.not_eq_false', Bool.and_eq_false_iff, Bool.or_eq_false_iff] at hk2))
        first
        | exact ay_mulw rfl (by first | (refine og rfl ?_; (first | assumption | (refine gd ?_ ?_ <;> assumption) | (refine gd rfl ?_; assumption) | (apply gl; assumption) | (refine gd (by apply gl; assumption) ?_; assumption))) | exact od rfl) (by first | (refine og rfl ?_; (first | assumption | (refine gd ?_ ?_ <;> assumption) | (refine gd rfl ?_; assumption) | (apply gl; assumption) | (refine gd (by apply gl; assumption) ?_; assumption))) | exact od rfl)
        | ((first | apply ay_move rfl | apply ay_assign rfl | apply ay_not rfl | apply ay_lss rfl | apply ay_leq rfl | apply ay_gtr rfl | apply ay_geq rfl | apply k_eql rfl | apply k_neq rfl | apply ay_and rfl | apply ay_or rfl | apply ay_call rfl | apply k_len rfl | apply k_ix rfl | apply k_ld rfl | apply k_fa rfl | apply k_fd rfl | apply ay_build rfl st_ | apply ay_extract rfl | apply ay_slice rfl un_ el_ | apply bs_cell1 rfl un_ | apply bs_cell2 rfl un_ | apply kn_add rfl | apply kn_sub rfl | apply kn_mul rfl | apply kn_quo rfl | apply kn_rem rfl | apply kn_min rfl)
         <;> (repeat' (
          first
          | ((first | refine og rfl ?_ | refine ogn rfl ?_); (first | assumption | (refine gd ?_ ?_ <;> assumption) | (refine gd rfl ?_; assumption) | (apply gl; assumption) | (refine gd (by apply gl; assumption) ?_; assumption))) | exact odln rfl (by with_reducible rfl) | exact odn rfl | exact od rfl
          | exact f_ref03Sides _ _ | exact f_ref02Is (_, _) | exact cl _ (by omega)
          | exact un_ | exact el_ | exact agg_ | exact sz_ | exact sp_ | exact fl_ | exact st_ | exact List.Mem.head _ | apply List.Mem.tail | exact SubC.nil | apply SubC.here | apply SubC.next
          | exact nk_sl un_ | apply mk_len un_ | exact nk_sub un_ | apply ik_sl un_ el_ | apply mk_ix un_ el_ | apply ik_sub un_ el_
          | exact lk_el el_ | exact lk_1 agg_ | apply v1_ | apply vn_ | apply mk_r el_ | apply r1_
          | exact ak_ip fl_ sp_ | exact ak_var fl_ sp_ | exact ak_row fl_ sp_ | exact dk_1 fl_ agg_ rfl | apply fn_
          | exact ek_int | exact ek_bool un_ | exact ek_cell
          | exact fit64 (by omega) (by omega) | exact fit32 (by omega) (by omega) | exact fit8 (by omega) (by omega)
          | exact pa_nil | apply pk | exact ca_agg | exact ca_v rfl | exact ca_v (by assumption) | exact ca_sl | exact sc_0 | apply SetC.here | apply SetC.next
          | exact opds0 | apply opds1 | exact lo_none | apply lo_k | exact hi_none | apply hi_k
          | exact rfl | omega | exact (by first | exact hat | exact c_in (by first | omega | (simp only [List.length_append, List.length_nil, List.length_cons, List.nil_append, List.length_replicate, List.length_set]; omega)) | exact List.getElem?_eq_getElem (by first | omega | (simp only [List.length_append, List.length_nil, List.length_cons, List.nil_append, List.length_replicate, List.length_set]; omega))) | (simp only [List.length_append, List.length_nil, List.length_cons, List.nil_append, List.length_replicate, List.length_set]; omega) | intro hp)); done)
        | (refine my_slice rfl un_ el_ (by first | exact od rfl | exact og rfl (by assumption)) (by repeat' (first | exact List.Mem.head _ | apply List.Mem.tail)) (by first | exact odln rfl (by with_reducible rfl) | exact odn rfl | exact ogn rfl (by assumption)) (by first | exact odln rfl (by with_reducible rfl) | exact odn rfl | exact ogn rfl (by assumption)) (by first | omega | (simp only [List.length_append, List.length_nil, List.length_cons, List.nil_append, List.length_replicate, List.length_set]; omega)) (by first | omega | (simp only [List.length_append, List.length_nil, List.length_cons, List.nil_append, List.length_replicate, List.length_set]; omega)))
        | ((first | apply ay_add rfl | apply ay_sub rfl | apply ay_mul rfl | apply ay_quo rfl | apply ay_rem rfl)
         <;> first | exact (by first | (refine og rfl ?_; (first | assumption | (refine gd ?_ ?_ <;> assumption) | (refine gd rfl ?_; assumption) | (apply gl; assumption) | (refine gd (by apply gl; assumption) ?_; assumption))) | exact od rfl) | omega | exact (by first | exact fit64 (by omega) (by omega) | exact fit32 (by omega) (by omega) | exact fit8 (by omega) (by omega)))
       case hx => rfl
       case hd => rfl)
    | (refine al_alloc rfl rfl rfl rfl al_ ?_; intro bb)
      | (refine al_box rfl rfl rfl rfl (by first | exact od rfl | exact og rfl (by assumption)) (by first | exact ca_agg | exact ca_v rfl | exact ca_v (by assumption) | exact ca_sl | exact ca_slc) ?_; intro bb)
      | (refine al_store_var rfl rfl rfl sz_ (by first | exact od rfl | exact og rfl (by assumption)) (by first | exact od rfl | exact og rfl (by assumption)) (by first | exact ca_agg | exact ca_v rfl | exact ca_v (by assumption) | exact ca_sl | exact ca_slc) rfl (by repeat' (first | exact ones0 | apply ones1 | exact one_v rfl | exact one_v (by assumption) | exact one_sl | exact one_slc)) (by repeat' (first | exact UpdF.here | apply UpdF.next)) (by repeat' (first | exact sc_0 | apply SetC.here | apply SetC.next)) ?_)
      | (refine al_store_row rfl rfl rfl el_ (by first | exact od rfl | exact og rfl (by assumption)) (by first | exact od rfl | exact og rfl (by assumption)) (by repeat' (first | exact UpdF.here | apply UpdF.next)) (by first | omega | (simp only [List.length_append, List.length_nil, List.length_cons, List.nil_append, List.length_replicate, List.length_set]; omega)) (by first | exact ca_cell | exact ca_v (by rfl)) ?_)
      | (refine al_empty rfl rfl rfl rfl un_ el_ ?_; intro u hu1 hu2)
      | (refine al_make rfl rfl rfl rfl un_ el_ (by first | exact odln rfl (by with_reducible rfl) | exact odn rfl | exact ogn rfl (by assumption)) (by first | exact odln rfl (by with_reducible rfl) | exact odn rfl | exact ogn rfl (by assumption)) (by omega) (by simp only [maxLen]; omega) ?_; intro u hu1 hu2)
      | (refine al_append rfl rfl rfl rfl un_ el_ (by first | exact od rfl | exact og rfl (by assumption)) (by first | exact od rfl | exact og rfl (by assumption)) (by repeat' (first | exact UpdF.here | apply UpdF.next)) ?h1 ?h2 ?_
         case h1 => (try simp only [List.length_append, List.length_nil, List.length_cons, List.nil_append, List.length_replicate, List.length_set]); omega
         case h2 => (try simp only [List.length_append, List.length_nil, List.length_cons, List.nil_append, List.length_replicate, List.length_set]); simp only [maxLen]; omega
         intro u hu1 hu2)
      | (refine al_copy_row rfl rfl rfl rfl un_ el_ (by first | exact od rfl | exact og rfl (by assumption)) (by first | exact od rfl | exact og rfl (by assumption)) (by repeat' (first | exact UpdF.here | apply UpdF.next)) ?_)
      | (refine al_copy_sub rfl rfl rfl rfl un_ el_ (by first | exact od rfl | exact og rfl (by assumption)) (by first | exact od rfl | exact og rfl (by assumption)) (by repeat' (first | exact UpdF.here | apply UpdF.next)) (by first | omega | (simp only [List.length_append, List.length_nil, List.length_cons, List.nil_append, List.length_replicate, List.length_set]; omega)) ?_)
    | (refine al_last (by kernel_rfl) ?_)
    | fail)
    all_goals first | exact ⟨_, [], (by first | exact res1 rfl rfl | exact res2 rfl rfl rfl | exact res3 rfl rfl rfl rfl | exact res0 rfl | ((first | apply resM1 rfl rfl | apply resM2 rfl rfl rfl) <;> (repeat' (first | exact List.Mem.head _ | apply List.Mem.tail | exact agg_ | exact sz_ | rfl)); done)), List.nil_sublist _, Sub.refl _, rfl⟩ | (exfalso; simp [hs2] at hb; done)
theorem f_in (w h : Int) (l : List Cell) (x y : Int) (hl : l.length ≤ 3000) : AP Tryd.prog tab0 31 [gridA w h l, I x, I y] (B (decide (okG w h l = true ∧ 0 ≤ x ∧ x < w ∧ 0 ≤ y ∧ y < h))) := by
  refine af_intro Tryd.func31 rfl (by decide) Tryd.ntmps31 rfl ?_
  repeat' (first
  | fail
  | refine aw_seq ?_
    | refine aw_region0 ?_
    | refine al_nil ?_
    | refine th_n ?_
    | refine th_e ?_
    | refine th_r ?_
    | refine ib_n ?_
    | refine ib_e rfl ?_
    | refine ib_e' rfl ?_
    | refine ib_r ?_
    | refine aw_block ?_
    | refine aw_exit ?_
    | refine aw_ret ?_
    | refine aw_skip ?_
    | refine aw_region1 (by kernel_rfl) (by kernel_rfl) ?_
    | (refine aw_cond rfl ?_ ?_ <;> intro hb <;> (try simp only [decide_eq_true_eq, decide_eq_false_iff_not, Bool.and_eq_true, Bool.or_eq_true, Bool.not_eq_true', Bool.and_eq_false_iff, Bool.or_eq_false_iff, Bool.not_eq_false'] at hb) <;> (first | (exfalso; omega) | skip))
  | (apply al_y
     case hy =>
      first
      | apply qy_plain rfl
      | apply qy_run rfl rfl (guard_b rfl) rfl
      | exact qy_skip rfl rfl (guard_b rfl) rfl
      | (apply qy_gv rfl rfl (by first | exact guard_b rfl | exact guard_gv rfl); intro hk; have hk2 := hk; (try simp only [Bool.true_and, Bool.and_eq_true, Bool.or_eq_true, beq_iff_eq, decide_eq_true_eq, decide_eq_false_iff_not, Bool.not_eq_true', Bool.not_eq_false', Bool.and_eq_false_iff, Bool.or_eq_false_iff] at hk2))
      first
      | fail
      | ((first | apply ay_move rfl | apply ay_assign rfl | apply ay_not rfl | apply ay_lss rfl | apply ay_leq rfl | apply ay_gtr rfl | apply ay_geq rfl | apply k_eql rfl | apply k_neq rfl | apply ay_and rfl | apply ay_or rfl | apply ay_call rfl | apply k_len rfl | apply k_ix rfl | apply k_ld rfl | apply k_fa rfl | apply k_fd rfl | apply ay_build rfl st_ | apply ay_extract rfl | apply ay_slice rfl un_ el_ | apply bs_cell1 rfl un_ | apply bs_cell2 rfl un_ | apply kn_add rfl | apply kn_sub rfl | apply kn_mul rfl | apply kn_quo rfl | apply kn_rem rfl | apply kn_min rfl)
       <;> (repeat' (
        first
        | ((first | refine og rfl ?_ | refine ogn rfl ?_); (first | assumption | (refine gd ?_ ?_ <;> assumption) | (refine gd rfl ?_; assumption) | (apply gl; assumption) | (refine gd (by apply gl; assumption) ?_; assumption))) | exact odln rfl (by with_reducible rfl) | exact odn rfl | exact od rfl
        | exact f_ref03Is _ _ _ hl
        | exact un_ | exact el_ | exact agg_ | exact sz_ | exact sp_ | exact fl_ | exact st_ | exact List.Mem.head _ | apply List.Mem.tail | exact SubC.nil | apply SubC.here | apply SubC.next
        | exact nk_sl un_ | apply mk_len un_ | exact nk_sub un_ | apply ik_sl un_ el_ | apply mk_ix un_ el_ | apply ik_sub un_ el_
        | exact lk_el el_ | exact lk_1 agg_ | apply v1_ | apply vn_ | apply mk_r el_ | apply r1_
        | exact ak_ip fl_ sp_ | exact ak_var fl_ sp_ | exact ak_row fl_ sp_ | exact dk_1 fl_ agg_ rfl | apply fn_
        | exact ek_int | exact ek_bool un_ | exact ek_cell
        | exact fit64 (by omega) (by omega) | exact fit32 (by omega) (by omega) | exact fit8 (by omega) (by omega)
        | exact pa_nil | apply pk | exact ca_agg | exact ca_v rfl | exact ca_v (by assumption) | exact ca_sl | exact sc_0 | apply SetC.here | apply SetC.next
        | exact opds0 | apply opds1 | exact lo_none | apply lo_k | exact hi_none | apply hi_k
        | exact rfl | omega | exact (by first | exact hat | exact c_in (by first | omega | (simp only [List.length_append, List.length_nil, List.length_cons, List.nil_append, List.length_replicate, List.length_set]; omega)) | exact List.getElem?_eq_getElem (by first | omega | (simp only [List.length_append, List.length_nil, List.length_cons, List.nil_append, List.length_replicate, List.length_set]; omega))) | (simp only [List.length_append, List.length_nil, List.length_cons, List.nil_append, List.length_replicate, List.length_set]; omega) | intro hp)); done)
      | (refine my_slice rfl un_ el_ (by first | exact od rfl | exact og rfl (by assumption)) (by repeat' (first | exact List.Mem.head _ | apply List.Mem.tail)) (by first | exact odln rfl (by with_reducible rfl) | exact odn rfl | exact ogn rfl (by assumption)) (by first | exact odln rfl (by with_reducible rfl) | exact odn rfl | exact ogn rfl (by assumption)) (by first | omega | (simp only [List.length_append, List.length_nil, List.length_cons, List.nil_append, List.length_replicate, List.length_set]; omega)) (by first | omega | (simp only [List.length_append, List.length_nil, List.length_cons, List.nil_append, List.length_replicate, List.length_set]; omega)))
      | ((first | apply ay_add rfl | apply ay_sub rfl | apply ay_mul rfl | apply ay_quo rfl | apply ay_rem rfl)
       <;> first | exact (by first | (refine og rfl ?_; (first | assumption | (refine gd ?_ ?_ <;> assumption) | (refine gd rfl ?_; assumption) | (apply gl; assumption) | (refine gd (by apply gl; assumption) ?_; assumption))) | exact od rfl) | omega | exact (by first | exact fit64 (by omega) (by omega) | exact fit32 (by omega) (by omega) | exact fit8 (by omega) (by omega)))
     case hx => rfl
     case hd => rfl)
  | (refine al_alloc rfl rfl rfl rfl al_ ?_; intro bb)
    | (refine al_box rfl rfl rfl rfl (by first | exact od rfl | exact og rfl (by assumption)) (by first | exact ca_agg | exact ca_v rfl | exact ca_v (by assumption) | exact ca_sl | exact ca_slc) ?_; intro bb)
    | (refine al_store_var rfl rfl rfl sz_ (by first | exact od rfl | exact og rfl (by assumption)) (by first | exact od rfl | exact og rfl (by assumption)) (by first | exact ca_agg | exact ca_v rfl | exact ca_v (by assumption) | exact ca_sl | exact ca_slc) rfl (by repeat' (first | exact ones0 | apply ones1 | exact one_v rfl | exact one_v (by assumption) | exact one_sl | exact one_slc)) (by repeat' (first | exact UpdF.here | apply UpdF.next)) (by repeat' (first | exact sc_0 | apply SetC.here | apply SetC.next)) ?_)
    | (refine al_store_row rfl rfl rfl el_ (by first | exact od rfl | exact og rfl (by assumption)) (by first | exact od rfl | exact og rfl (by assumption)) (by repeat' (first | exact UpdF.here | apply UpdF.next)) (by first | omega | (simp only [List.length_append, List.length_nil, List.length_cons, List.nil_append, List.length_replicate, List.length_set]; omega)) (by first | exact ca_cell | exact ca_v (by rfl)) ?_)
    | (refine al_empty rfl rfl rfl rfl un_ el_ ?_; intro u hu1 hu2)
    | (refine al_make rfl rfl rfl rfl un_ el_ (by first | exact odln rfl (by with_reducible rfl) | exact odn rfl | exact ogn rfl (by assumption)) (by first | exact odln rfl (by with_reducible rfl) | exact odn rfl | exact ogn rfl (by assumption)) (by omega) (by simp only [maxLen]; omega) ?_; intro u hu1 hu2)
    | (refine al_append rfl rfl rfl rfl un_ el_ (by first | exact od rfl | exact og rfl (by assumption)) (by first | exact od rfl | exact og rfl (by assumption)) (by repeat' (first | exact UpdF.here | apply UpdF.next)) ?h1 ?h2 ?_
       case h1 => (try simp only [List.length_append, List.length_nil, List.length_cons, List.nil_append, List.length_replicate, List.length_set]); omega
       case h2 => (try simp only [List.length_append, List.length_nil, List.length_cons, List.nil_append, List.length_replicate, List.length_set]); simp only [maxLen]; omega
       intro u hu1 hu2)
    | (refine al_copy_row rfl rfl rfl rfl un_ el_ (by first | exact od rfl | exact og rfl (by assumption)) (by first | exact od rfl | exact og rfl (by assumption)) (by repeat' (first | exact UpdF.here | apply UpdF.next)) ?_)
    | (refine al_copy_sub rfl rfl rfl rfl un_ el_ (by first | exact od rfl | exact og rfl (by assumption)) (by first | exact od rfl | exact og rfl (by assumption)) (by repeat' (first | exact UpdF.here | apply UpdF.next)) (by first | omega | (simp only [List.length_append, List.length_nil, List.length_cons, List.nil_append, List.length_replicate, List.length_set]; omega)) ?_)
  | (refine al_last (by kernel_rfl) ?_)
  | fail)
  refine ⟨_, [], (by first | exact res1 rfl rfl | exact res2 rfl rfl rfl | exact res3 rfl rfl rfl rfl | exact res0 rfl | ((first | apply resM1 rfl rfl | apply resM2 rfl rfl rfl) <;> (repeat' (first | exact List.Mem.head _ | apply List.Mem.tail | exact agg_ | exact sz_ | rfl)); done)), List.nil_sublist _, Sub.eq (congrArg B ?_), rfl⟩
  rw [Bool.eq_iff_iff]; simp [and_assoc]
theorem f_ref03own (w h : Int) (l : List Cell) (hl : l.length ≤ 100000) : AF Tryd.prog tab0 42 [gridA w h l] [] (fun A M' => ∃ u, A = aggA [I w, I h, vA u] ∧ M' = [rowO cellT 30 u l]) := by
  refine af_intro Tryd.func42 rfl (by decide) Tryd.ntmps42 rfl ?_
  repeat' (first
  | fail
  | refine aw_seq ?_
    | refine aw_region0 ?_
    | refine al_nil ?_
    | refine th_n ?_
    | refine th_e ?_
    | refine th_r ?_
    | refine ib_n ?_
    | refine ib_e rfl ?_
    | refine ib_e' rfl ?_
    | refine ib_r ?_
    | refine aw_block ?_
    | refine aw_exit ?_
    | refine aw_ret ?_
    | refine aw_skip ?_
    | refine aw_region1 (by kernel_rfl) (by kernel_rfl) ?_
    | (refine aw_cond rfl ?_ ?_ <;> intro hb <;> (try simp only [decide_eq_true_eq, decide_eq_false_iff_not, Bool.and_eq_true, Bool.or_eq_true, Bool.not_eq_true', Bool.and_eq_false_iff, Bool.or_eq_false_iff, Bool.not_eq_false'] at hb) <;> (first | (exfalso; omega) | skip))
  | (apply al_y
     case hy =>
      first
      | apply qy_plain rfl
      | apply qy_run rfl rfl (guard_b rfl) rfl
      | exact qy_skip rfl rfl (guard_b rfl) rfl
      | (apply qy_gv rfl rfl (by first | exact guard_b rfl | exact guard_gv rfl); intro hk; have hk2 := hk; (try simp only [Bool.true_and, Bool.and_eq_true, Bool.or_eq_true, beq_iff_eq, decide_eq_true_eq, decide_eq_false_iff_not, Bool.not_eq_true', Bool.not_eq_false', Bool.and_eq_false_iff, Bool.or_eq_false_iff] at hk2))
      first
      | fail
      | ((first | apply ay_move rfl | apply ay_assign rfl | apply ay_not rfl | apply ay_lss rfl | apply ay_leq rfl | apply ay_gtr rfl | apply ay_geq rfl | apply k_eql rfl | apply k_neq rfl | apply ay_and rfl | apply ay_or rfl | apply ay_call rfl | apply k_len rfl | apply k_ix rfl | apply k_ld rfl | apply k_fa rfl | apply k_fd rfl | apply ay_build rfl st_ | apply ay_extract rfl | apply ay_slice rfl un_ el_ | apply bs_cell1 rfl un_ | apply bs_cell2 rfl un_ | apply kn_add rfl | apply kn_sub rfl | apply kn_mul rfl | apply kn_quo rfl | apply kn_rem rfl | apply kn_min rfl)
       <;> (repeat' (
        first
        | ((first | refine og rfl ?_ | refine ogn rfl ?_); (first | assumption | (refine gd ?_ ?_ <;> assumption) | (refine gd rfl ?_; assumption) | (apply gl; assumption) | (refine gd (by apply gl; assumption) ?_; assumption))) | exact odln rfl (by with_reducible rfl) | exact odn rfl | exact od rfl
        | exact f_ref03Is _ _ _ hl
        | exact un_ | exact el_ | exact agg_ | exact sz_ | exact sp_ | exact fl_ | exact st_ | exact List.Mem.head _ | apply List.Mem.tail | exact SubC.nil | apply SubC.here | apply SubC.next
        | exact nk_sl un_ | apply mk_len un_ | exact nk_sub un_ | apply ik_sl un_ el_ | apply mk_ix un_ el_ | apply ik_sub un_ el_
        | exact lk_el el_ | exact lk_1 agg_ | apply v1_ | apply vn_ | apply mk_r el_ | apply r1_
        | exact ak_ip fl_ sp_ | exact ak_var fl_ sp_ | exact ak_row fl_ sp_ | exact dk_1 fl_ agg_ rfl | apply fn_
        | exact ek_int | exact ek_bool un_ | exact ek_cell
        | exact fit64 (by omega) (by omega) | exact fit32 (by omega) (by omega) | exact fit8 (by omega) (by omega)
        | exact pa_nil | apply pk | exact ca_agg | exact ca_v rfl | exact ca_v (by assumption) | exact ca_sl | exact sc_0 | apply SetC.here | apply SetC.next
        | exact opds0 | apply opds1 | exact lo_none | apply lo_k | exact hi_none | apply hi_k
        | exact rfl | omega | exact (by first | exact hat | exact c_in (by first | omega | (simp only [List.length_append, List.length_nil, List.length_cons, List.nil_append, List.length_replicate, List.length_set]; omega)) | exact List.getElem?_eq_getElem (by first | omega | (simp only [List.length_append, List.length_nil, List.length_cons, List.nil_append, List.length_replicate, List.length_set]; omega))) | (simp only [List.length_append, List.length_nil, List.length_cons, List.nil_append, List.length_replicate, List.length_set]; omega) | intro hp)); done)
      | (refine my_slice rfl un_ el_ (by first | exact od rfl | exact og rfl (by assumption)) (by repeat' (first | exact List.Mem.head _ | apply List.Mem.tail)) (by first | exact odln rfl (by with_reducible rfl) | exact odn rfl | exact ogn rfl (by assumption)) (by first | exact odln rfl (by with_reducible rfl) | exact odn rfl | exact ogn rfl (by assumption)) (by first | omega | (simp only [List.length_append, List.length_nil, List.length_cons, List.nil_append, List.length_replicate, List.length_set]; omega)) (by first | omega | (simp only [List.length_append, List.length_nil, List.length_cons, List.nil_append, List.length_replicate, List.length_set]; omega)))
      | ((first | apply ay_add rfl | apply ay_sub rfl | apply ay_mul rfl | apply ay_quo rfl | apply ay_rem rfl)
       <;> first | exact (by first | (refine og rfl ?_; (first | assumption | (refine gd ?_ ?_ <;> assumption) | (refine gd rfl ?_; assumption) | (apply gl; assumption) | (refine gd (by apply gl; assumption) ?_; assumption))) | exact od rfl) | omega | exact (by first | exact fit64 (by omega) (by omega) | exact fit32 (by omega) (by omega) | exact fit8 (by omega) (by omega)))
     case hx => rfl
     case hd => rfl)
  | (refine al_alloc rfl rfl rfl rfl al_ ?_; intro bb)
    | (refine al_box rfl rfl rfl rfl (by first | exact od rfl | exact og rfl (by assumption)) (by first | exact ca_agg | exact ca_v rfl | exact ca_v (by assumption) | exact ca_sl | exact ca_slc) ?_; intro bb)
    | (refine al_store_var rfl rfl rfl sz_ (by first | exact od rfl | exact og rfl (by assumption)) (by first | exact od rfl | exact og rfl (by assumption)) (by first | exact ca_agg | exact ca_v rfl | exact ca_v (by assumption) | exact ca_sl | exact ca_slc) rfl (by repeat' (first | exact ones0 | apply ones1 | exact one_v rfl | exact one_v (by assumption) | exact one_sl | exact one_slc)) (by repeat' (first | exact UpdF.here | apply UpdF.next)) (by repeat' (first | exact sc_0 | apply SetC.here | apply SetC.next)) ?_)
    | (refine al_store_row rfl rfl rfl el_ (by first | exact od rfl | exact og rfl (by assumption)) (by first | exact od rfl | exact og rfl (by assumption)) (by repeat' (first | exact UpdF.here | apply UpdF.next)) (by first | omega | (simp only [List.length_append, List.length_nil, List.length_cons, List.nil_append, List.length_replicate, List.length_set]; omega)) (by first | exact ca_cell | exact ca_v (by rfl)) ?_)
    | (refine al_empty rfl rfl rfl rfl un_ el_ ?_; intro u hu1 hu2)
    | (refine al_make rfl rfl rfl rfl un_ el_ (by first | exact odln rfl (by with_reducible rfl) | exact odn rfl | exact ogn rfl (by assumption)) (by first | exact odln rfl (by with_reducible rfl) | exact odn rfl | exact ogn rfl (by assumption)) (by omega) (by simp only [maxLen]; omega) ?_; intro u hu1 hu2)
    | (refine al_append rfl rfl rfl rfl un_ el_ (by first | exact od rfl | exact og rfl (by assumption)) (by first | exact od rfl | exact og rfl (by assumption)) (by repeat' (first | exact UpdF.here | apply UpdF.next)) ?h1 ?h2 ?_
       case h1 => (try simp only [List.length_append, List.length_nil, List.length_cons, List.nil_append, List.length_replicate, List.length_set]); omega
       case h2 => (try simp only [List.length_append, List.length_nil, List.length_cons, List.nil_append, List.length_replicate, List.length_set]); simp only [maxLen]; omega
       intro u hu1 hu2)
    | (refine al_copy_row rfl rfl rfl rfl un_ el_ (by first | exact od rfl | exact og rfl (by assumption)) (by first | exact od rfl | exact og rfl (by assumption)) (by repeat' (first | exact UpdF.here | apply UpdF.next)) ?_)
    | (refine al_copy_sub rfl rfl rfl rfl un_ el_ (by first | exact od rfl | exact og rfl (by assumption)) (by first | exact od rfl | exact og rfl (by assumption)) (by repeat' (first | exact UpdF.here | apply UpdF.next)) (by first | omega | (simp only [List.length_append, List.length_nil, List.length_cons, List.nil_append, List.length_replicate, List.length_set]; omega)) ?_)
  | (refine al_last (by kernel_rfl) ?_)
  | fail)
  exact ⟨_, [rowO cellT 30 u ([] ++ l)], (by first | exact res1 rfl rfl | exact res2 rfl rfl rfl | exact res3 rfl rfl rfl rfl | exact res0 rfl | ((first | apply resM1 rfl rfl | apply resM2 rfl rfl rfl) <;> (repeat' (first | exact List.Mem.head _ | apply List.Mem.tail | exact agg_ | exact sz_ | rfl)); done)), (by repeat' (first | exact List.nil_sublist _ | apply List.Sublist.cons_cons | apply List.Sublist.cons)), u, rfl, rfl⟩
end Go.Proofs.YthlikicgikoilaaDoor
