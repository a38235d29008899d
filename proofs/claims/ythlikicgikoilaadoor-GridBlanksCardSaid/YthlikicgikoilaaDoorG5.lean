/- Layer 3 (grid): put, blank, scroll. No condition. -/
import Derived.Test.YthlikicgikoilaaDoorG4
namespace Go.Proofs.YthlikicgikoilaaDoor
set_option linter.unusedSimpArgs false
set_option linter.unusedVariables false
open Go Go.RowKit
attribute [local irreducible] AW AL AO QY varO rowO rsA Opd OpdN vA gvA tupA aggA slA slcA ipA rpA EqK LnK IxK LdK FaK FdK
set_option maxRecDepth 100000
noncomputable def putR (w h : Int) (l : List Cell) (x y r : Int) : (Int × Int × List Cell) × Int := if (okG w h l = true ∧ 0 ≤ x ∧ x < w ∧ 0 ≤ y ∧ y < h) ∧ shown r = true ∧ x + (cellsM r).length ≤ w then ((w, h, layG l (y.toNat * w.toNat + x.toNat) (cellsM r)), 0) else ((0, 0, []), 1)
set_option maxHeartbeats 1000000 in
theorem f_PutO (w h : Nat) (l : List Cell) (x y : Nat) (r : Int) (hl : l.length ≤ 3000) (hc : okG w h l = true ∧ (0 : Int) ≤ x ∧ (x : Int) < w ∧ (0 : Int) ≤ y ∧ (y : Int) < h) (hs : shown r = true) (hx : x + (cellsM r).length ≤ w) :
    AF Tryd.prog tab0 19 [gridA w h l, I x, I y, R r] [] (fun A M' => ∃ u, A = tupA [aggA [I w, I h, vA u], I 0] ∧ M' = [rowO cellT 30 u (layG l (y * w + x) (cellsM r))]) := by
  obtain ⟨w', h', e1, e2, h1, h2, h3, h4, hlen, hall⟩ := okG_nat hc.1
  obtain rfl : w = w' := by omega
  obtain rfl : h = h' := by omega
  have hn := cellsM_len r
  have hp := cell_pos (show x + (cellsM r).length - 1 < w by omega) (show y < h by omega)
  have hb := side_le h2 h4
  have m3 : (0 : Int) ≤ ((y * w : Nat) : Int) := Int.natCast_nonneg _
  have c1 : AP Tryd.prog tab0 13 [gridA w h l, I x, I y] (tupA [cellA (cAt l (y * w + x)), I 0]) := (f_At w h l hl x y).to (by simp only [at2, atR, if_pos hc, Int.toNat_natCast])
  have cl := fun u => f_layOk w h u l (y * w + x) (cellsM r) hlen hb (by omega) h3 hall (by omega)
  have co := f_own w h l (by omega)
  clear hall
  refine af_intro Tryd.func19 rfl (by decide) Tryd.ntmps19 rfl ?_
  repeat' (first
  | (apply al_call0 rfl rfl rfl rfl (c := co)
     case ha => repeat' (first | exact opds0 | apply opds1 (by first | (refine og rfl ?_; (first | assumption | (refine gd ?_ ?_ <;> assumption) | (refine gd rfl ?_; assumption) | (apply gl; assumption) | (refine gd (by apply gl; assumption) ?_; assumption))) | exact od rfl))
     rintro _ _ ⟨u, rfl, rfl⟩; refine al_rowc (List.Mem.head _) fun hu1 hu2 => ?_)
    | (apply al_call1 rfl rfl rfl rfl (c := cl _)
       case ha => repeat' (first | exact opds0 | apply opds1 (by first | (refine og rfl ?_; (first | assumption | (refine gd ?_ ?_ <;> assumption) | (refine gd rfl ?_; assumption) | (apply gl; assumption) | (refine gd (by apply gl; assumption) ?_; assumption))) | exact od rfl))
       case hM => repeat' (first | exact Pick.here | apply Pick.next)
       rintro _ _ rfl)
  | refine aw_seq ?_
    | refine aw_region0 ?_
    | refine al_nil ?_
    | refine th_n ?_
    | refine th_e ?_
    | refine th_r ?_
    | refine ib_n ?_
    | refine ib_e rfl ?_
    | refine ib_e' rfl ?_
    | refine ib_r ?_
    | refine aw_block ?_
    | refine aw_exit ?_
    | refine aw_ret ?_
    | refine aw_skip ?_
    | refine aw_region1 (by kernel_rfl) (by kernel_rfl) ?_
    | (refine aw_cond rfl ?_ ?_ <;> intro hb <;> (try simp only [decide_eq_true_eq, decide_eq_false_iff_not, Bool.and_eq_true, Bool.or_eq_true, Bool.not_eq_true', Bool.and_eq_false_iff, Bool.or_eq_false_iff, Bool.not_eq_false'] at hb) <;> (first | (exfalso; omega) | skip))
  | (apply al_y
     case hy =>
      first
      | apply qy_plain rfl
      | apply qy_run rfl rfl (guard_b rfl) rfl
      | exact qy_skip rfl rfl (guard_b rfl) rfl
      | (apply qy_gv rfl rfl (by first | exact guard_b rfl | exact guard_gv rfl); intro hk; have hk2 := hk; (try simp only [Bool.true_and, Bool.and_eq_true, Bool.or_eq_true, beq_iff_eq, decide_eq_true_eq, decide_eq_false_iff_not, Bool.not_eq_true', Bool.not_eq_false', Bool.and_eq_false_iff, Bool.or_eq_false_iff] at hk2))
      first
      | fail
      | ((first | apply ay_move rfl | apply ay_assign rfl | apply ay_not rfl | apply ay_lss rfl | apply ay_leq rfl | apply ay_gtr rfl | apply ay_geq rfl | apply k_eql rfl | apply k_neq rfl | apply ay_and rfl | apply ay_or rfl | apply ay_call rfl | apply k_len rfl | apply k_ix rfl | apply k_ld rfl | apply k_fa rfl | apply k_fd rfl | apply ay_build rfl st_ | apply ay_extract rfl | apply ay_slice rfl un_ el_ | apply bs_cell1 rfl un_ | apply bs_cell2 rfl un_ | apply kn_add rfl | apply kn_sub rfl | apply kn_mul rfl | apply kn_quo rfl | apply kn_rem rfl | apply kn_min rfl)
       <;> (repeat' (
        first
        | ((first | refine og rfl ?_ | refine ogn rfl ?_); (first | assumption | (refine gd ?_ ?_ <;> assumption) | (refine gd rfl ?_; assumption) | (apply gl; assumption) | (refine gd (by apply gl; assumption) ?_; assumption))) | exact odln rfl (by with_reducible rfl) | exact odn rfl | exact od rfl
        | exact c1 | exact f_Shown _ | exact f_Width _ | exact f_Cells _
        | exact un_ | exact el_ | exact agg_ | exact sz_ | exact sp_ | exact fl_ | exact st_ | exact List.Mem.head _ | apply List.Mem.tail | exact SubC.nil | apply SubC.here | apply SubC.next
        | exact nk_sl un_ | apply mk_len un_ | exact nk_sub un_ | apply ik_sl un_ el_ | apply mk_ix un_ el_ | apply ik_sub un_ el_
        | exact lk_el el_ | exact lk_1 agg_ | apply v1_ | apply vn_ | apply mk_r el_ | apply r1_
        | exact ak_ip fl_ sp_ | exact ak_var fl_ sp_ | exact ak_row fl_ sp_ | exact dk_1 fl_ agg_ rfl | apply fn_
        | exact ek_int | exact ek_bool un_ | exact ek_cell
        | exact fit64 (by omega) (by omega) | exact fit32 (by omega) (by omega) | exact fit8 (by omega) (by omega)
        | exact pa_nil | apply pk | exact ca_agg | exact ca_v rfl | exact ca_v (by assumption) | exact ca_sl | exact sc_0 | apply SetC.here | apply SetC.next
        | exact opds0 | apply opds1 | exact lo_none | apply lo_k | exact hi_none | apply hi_k
        | exact rfl | omega | exact (by first | exact hat | exact c_in (by first | omega | (simp only [List.length_append, List.length_nil, List.length_cons, List.nil_append, List.length_replicate, List.length_set]; omega)) | exact List.getElem?_eq_getElem (by first | omega | (simp only [List.length_append, List.length_nil, List.length_cons, List.nil_append, List.length_replicate, List.length_set]; omega))) | (simp only [List.length_append, List.length_nil, List.length_cons, List.nil_append, List.length_replicate, List.length_set]; omega) | intro hp)); done)
      | (refine my_slice rfl un_ el_ (by first | exact od rfl | exact og rfl (by assumption)) (by repeat' (first | exact List.Mem.head _ | apply List.Mem.tail)) (by first | exact odln rfl (by with_reducible rfl) | exact odn rfl | exact ogn rfl (by assumption)) (by first | exact odln rfl (by with_reducible rfl) | exact odn rfl | exact ogn rfl (by assumption)) (by first | omega | (simp only [List.length_append, List.length_nil, List.length_cons, List.nil_append, List.length_replicate, List.length_set]; omega)) (by first | omega | (simp only [List.length_append, List.length_nil, List.length_cons, List.nil_append, List.length_replicate, List.length_set]; omega)))
      | ((first | apply ay_add rfl | apply ay_sub rfl | apply ay_mul rfl | apply ay_quo rfl | apply ay_rem rfl)
       <;> first | exact (by first | (refine og rfl ?_; (first | assumption | (refine gd ?_ ?_ <;> assumption) | (refine gd rfl ?_; assumption) | (apply gl; assumption) | (refine gd (by apply gl; assumption) ?_; assumption))) | exact od rfl) | omega | exact (by first | exact fit64 (by omega) (by omega) | exact fit32 (by omega) (by omega) | exact fit8 (by omega) (by omega)))
     case hx => rfl
     case hd => rfl)
  | (refine al_alloc rfl rfl rfl rfl al_ ?_; intro bb)
    | (refine al_box rfl rfl rfl rfl (by first | exact od rfl | exact og rfl (by assumption)) (by first | exact ca_agg | exact ca_v rfl | exact ca_v (by assumption) | exact ca_sl | exact ca_slc) ?_; intro bb)
    | (refine al_store_var rfl rfl rfl sz_ (by first | exact od rfl | exact og rfl (by assumption)) (by first | exact od rfl | exact og rfl (by assumption)) (by first | exact ca_agg | exact ca_v rfl | exact ca_v (by assumption) | exact ca_sl | exact ca_slc) rfl (by repeat' (first | exact ones0 | apply ones1 | exact one_v rfl | exact one_v (by assumption) | exact one_sl | exact one_slc)) (by repeat' (first | exact UpdF.here | apply UpdF.next)) (by repeat' (first | exact sc_0 | apply SetC.here | apply SetC.next)) ?_)
    | (refine al_store_row rfl rfl rfl el_ (by first | exact od rfl | exact og rfl (by assumption)) (by first | exact od rfl | exact og rfl (by assumption)) (by repeat' (first | exact UpdF.here | apply UpdF.next)) (by first | omega | (simp only [List.length_append, List.length_nil, List.length_cons, List.nil_append, List.length_replicate, List.length_set]; omega)) (by first | exact ca_cell | exact ca_v (by rfl)) ?_)
    | (refine al_empty rfl rfl rfl rfl un_ el_ ?_; intro u hu1 hu2)
    | (refine al_make rfl rfl rfl rfl un_ el_ (by first | exact odln rfl (by with_reducible rfl) | exact odn rfl | exact ogn rfl (by assumption)) (by first | exact odln rfl (by with_reducible rfl) | exact odn rfl | exact ogn rfl (by assumption)) (by omega) (by simp only [maxLen]; omega) ?_; intro u hu1 hu2)
    | (refine al_append rfl rfl rfl rfl un_ el_ (by first | exact od rfl | exact og rfl (by assumption)) (by first | exact od rfl | exact og rfl (by assumption)) (by repeat' (first | exact UpdF.here | apply UpdF.next)) ?h1 ?h2 ?_
       case h1 => (try simp only [List.length_append, List.length_nil, List.length_cons, List.nil_append, List.length_replicate, List.length_set]); omega
       case h2 => (try simp only [List.length_append, List.length_nil, List.length_cons, List.nil_append, List.length_replicate, List.length_set]); simp only [maxLen]; omega
       intro u hu1 hu2)
    | (refine al_copy_row rfl rfl rfl rfl un_ el_ (by first | exact od rfl | exact og rfl (by assumption)) (by first | exact od rfl | exact og rfl (by assumption)) (by repeat' (first | exact UpdF.here | apply UpdF.next)) ?_)
    | (refine al_copy_sub rfl rfl rfl rfl un_ el_ (by first | exact od rfl | exact og rfl (by assumption)) (by first | exact od rfl | exact og rfl (by assumption)) (by repeat' (first | exact UpdF.here | apply UpdF.next)) (by first | omega | (simp only [List.length_append, List.length_nil, List.length_cons, List.nil_append, List.length_replicate, List.length_set]; omega)) ?_)
  | (refine al_last (by kernel_rfl) ?_)
  | fail)

  all_goals first | (exfalso; simp [hs] at hb; omega) | skip
  exact ⟨_, _, (by first | exact res1 rfl rfl | exact res2 rfl rfl rfl | exact res3 rfl rfl rfl rfl | exact res0 rfl | ((first | apply resM1 rfl rfl | apply resM2 rfl rfl rfl) <;> (repeat' (first | exact List.Mem.head _ | apply List.Mem.tail | exact agg_ | exact sz_ | rfl)); done)), (by repeat' (first | exact List.nil_sublist _ | apply List.Sublist.cons_cons | apply List.Sublist.cons)), u, rfl, rfl⟩
theorem f_Put (w h : Int) (l : List Cell) (x y r : Int) (hl : l.length ≤ 3000) : AP Tryd.prog tab0 19 [gridA w h l, I x, I y, R r] (grid2 (putR w h l x y r)) := by
  by_cases hc : (okG w h l = true ∧ 0 ≤ x ∧ x < w ∧ 0 ≤ y ∧ y < h) ∧ shown r = true ∧ x + (cellsM r).length ≤ w
  · have hc' := hc
    obtain ⟨⟨hok, x1, x2, y1, y2⟩, hs, hx⟩ := hc
    obtain ⟨w, h, rfl, rfl, _⟩ := okG_nat hok
    obtain ⟨x, rfl⟩ := Int.eq_ofNat_of_zero_le x1
    obtain ⟨y, rfl⟩ := Int.eq_ofNat_of_zero_le y1
    have := (f_PutO w h l x y r hl hc'.1 hs (by omega)).frz1 (by intro u; repeat' (first | exact fz_here | apply fz_agg | apply fz_tup | exact fzl_nil | apply fzl_cons | exact fz_keep))
    simpa only [putR, if_pos hc', grid2, Int.toNat_natCast] using this
  · have c1 : AP Tryd.prog tab0 13 [gridA w h l, I x, I y] (tupA [cellA (atR w h l x y).1, I (atR w h l x y).2]) := f_At w h l hl x y
    have hw : (atR w h l x y).2 = 0 → (okG w h l = true ∧ 0 ≤ x ∧ x < w ∧ 0 ≤ y ∧ y < h) := fun e => by
      by_cases k : okG w h l = true ∧ 0 ≤ x ∧ x < w ∧ 0 ≤ y ∧ y < h
      · exact k
      · simp [atR, k] at e
    have hw2 : (atR w h l x y).2 = 0 → 0 ≤ x ∧ x ≤ 80 := fun e => by
      obtain ⟨k, k1, k2, _⟩ := hw e
      obtain ⟨w', h', rfl, rfl, _, k3, _⟩ := okG_nat k
      omega
    have hn := cellsM_len r
    generalize (atR w h l x y).1 = c at *
    generalize (atR w h l x y).2 = e at *
    refine af_intro Tryd.func19 rfl (by decide) Tryd.ntmps19 rfl ?_
    repeat' (first
    | (apply al_call0 rfl rfl rfl rfl (c := co)
       case ha => repeat' (first | exact opds0 | apply opds1 (by first | (refine og rfl ?_; (first | assumption | (refine gd ?_ ?_ <;> assumption) | (refine gd rfl ?_; assumption) | (apply gl; assumption) | (refine gd (by apply gl; assumption) ?_; assumption))) | exact od rfl))
       rintro _ _ ⟨u, rfl, rfl⟩; refine al_rowc (List.Mem.head _) fun hu1 hu2 => ?_)
      | (apply al_call1 rfl rfl rfl rfl (c := cl _)
         case ha => repeat' (first | exact opds0 | apply opds1 (by first | (refine og rfl ?_; (first | assumption | (refine gd ?_ ?_ <;> assumption) | (refine gd rfl ?_; assumption) | (apply gl; assumption) | (refine gd (by apply gl; assumption) ?_; assumption))) | exact od rfl))
         case hM => repeat' (first | exact Pick.here | apply Pick.next)
         rintro _ _ rfl)
    | refine aw_seq ?_
      | refine aw_region0 ?_
      | refine al_nil ?_
      | refine th_n ?_
      | refine th_e ?_
      | refine th_r ?_
      | refine ib_n ?_
      | refine ib_e rfl ?_
      | refine ib_e' rfl ?_
      | refine ib_r ?_
      | refine aw_block ?_
      | refine aw_exit ?_
      | refine aw_ret ?_
      | refine aw_skip ?_
      | refine aw_region1 (by kernel_rfl) (by kernel_rfl) ?_
      | (refine aw_cond rfl ?_ ?_ <;> intro hb <;> (try simp only [decide_eq_true_eq, decide_eq_false_iff_not, Bool.and_eq_true, Bool.or_eq_true, Bool.not_eq_true', Bool.and_eq_false_iff, Bool.or_eq_false_iff, Bool.not_eq_false'] at hb) <;> (first | (exfalso; omega) | skip))
    | (apply al_y
       case hy =>
        first
        | apply qy_plain rfl
        | apply qy_run rfl rfl (guard_b rfl) rfl
        | exact qy_skip rfl rfl (guard_b rfl) rfl
        | (apply qy_gv rfl rfl (by first | exact guard_b rfl | exact guard_gv rfl); intro hk; have hk2 := hk; (try simp only [Bool.true_and, Bool.and_eq_true, Bool.or_eq_true, beq_iff_eq, decide_eq_true_eq, decide_eq_false_iff_not, Bool.not_eq_true', Bool.not_eq_false', Bool.and_eq_false_iff, Bool.or_eq_false_iff] at hk2))
        first
        | fail
        | ((first | apply ay_move rfl | apply ay_assign rfl | apply ay_not rfl | apply ay_lss rfl | apply ay_leq rfl | apply ay_gtr rfl | apply ay_geq rfl | apply k_eql rfl | apply k_neq rfl | apply ay_and rfl | apply ay_or rfl | apply ay_call rfl | apply k_len rfl | apply k_ix rfl | apply k_ld rfl | apply k_fa rfl | apply k_fd rfl | apply ay_build rfl st_ | apply ay_extract rfl | apply ay_slice rfl un_ el_ | apply bs_cell1 rfl un_ | apply bs_cell2 rfl un_ | apply kn_add rfl | apply kn_sub rfl | apply kn_mul rfl | apply kn_quo rfl | apply kn_rem rfl | apply kn_min rfl)
         <;> (repeat' (
          first
          | ((first | refine og rfl ?_ | refine ogn rfl ?_); (first | assumption | (refine gd ?_ ?_ <;> assumption) | (refine gd rfl ?_; assumption) | (apply gl; assumption) | (refine gd (by apply gl; assumption) ?_; assumption))) | exact odln rfl (by with_reducible rfl) | exact odn rfl | exact od rfl
          | exact c1 | exact f_Shown _ | exact f_Width _ | exact f_Cells _
          | exact un_ | exact el_ | exact agg_ | exact sz_ | exact sp_ | exact fl_ | exact st_ | exact List.Mem.head _ | apply List.Mem.tail | exact SubC.nil | apply SubC.here | apply SubC.next
          | exact nk_sl un_ | apply mk_len un_ | exact nk_sub un_ | apply ik_sl un_ el_ | apply mk_ix un_ el_ | apply ik_sub un_ el_
          | exact lk_el el_ | exact lk_1 agg_ | apply v1_ | apply vn_ | apply mk_r el_ | apply r1_
          | exact ak_ip fl_ sp_ | exact ak_var fl_ sp_ | exact ak_row fl_ sp_ | exact dk_1 fl_ agg_ rfl | apply fn_
          | exact ek_int | exact ek_bool un_ | exact ek_cell
          | exact fit64 (by omega) (by omega) | exact fit32 (by omega) (by omega) | exact fit8 (by omega) (by omega)
          | exact pa_nil | apply pk | exact ca_agg | exact ca_v rfl | exact ca_v (by assumption) | exact ca_sl | exact sc_0 | apply SetC.here | apply SetC.next
          | exact opds0 | apply opds1 | exact lo_none | apply lo_k | exact hi_none | apply hi_k
          | exact rfl | omega | exact (by first | exact hat | exact c_in (by first | omega | (simp only [List.length_append, List.length_nil, List.length_cons, List.nil_append, List.length_replicate, List.length_set]; omega)) | exact List.getElem?_eq_getElem (by first | omega | (simp only [List.length_append, List.length_nil, List.length_cons, List.nil_append, List.length_replicate, List.length_set]; omega))) | (simp only [List.length_append, List.length_nil, List.length_cons, List.nil_append, List.length_replicate, List.length_set]; omega) | intro hp)); done)
        | (refine my_slice rfl un_ el_ (by first | exact od rfl | exact og rfl (by assumption)) (by repeat' (first | exact List.Mem.head _ | apply List.Mem.tail)) (by first | exact odln rfl (by with_reducible rfl) | exact odn rfl | exact ogn rfl (by assumption)) (by first | exact odln rfl (by with_reducible rfl) | exact odn rfl | exact ogn rfl (by assumption)) (by first | omega | (simp only [List.length_append, List.length_nil, List.length_cons, List.nil_append, List.length_replicate, List.length_set]; omega)) (by first | omega | (simp only [List.length_append, List.length_nil, List.length_cons, List.nil_append, List.length_replicate, List.length_set]; omega)))
        | ((first | apply ay_add rfl | apply ay_sub rfl | apply ay_mul rfl | apply ay_quo rfl | apply ay_rem rfl)
         <;> first | exact (by first | (refine og rfl ?_; (first | assumption | (refine gd ?_ ?_ <;> assumption) | (refine gd rfl ?_; assumption) | (apply gl; assumption) | (refine gd (by apply gl; assumption) ?_; assumption))) | exact od rfl) | omega | exact (by first | exact fit64 (by omega) (by omega) | exact fit32 (by omega) (by omega) | exact fit8 (by omega) (by omega)))
       case hx => rfl
       case hd => rfl)
    | (refine al_alloc rfl rfl rfl rfl al_ ?_; intro bb)
      | (refine al_box rfl rfl rfl rfl (by first | exact od rfl | exact og rfl (by assumption)) (by first | exact ca_agg | exact ca_v rfl | exact ca_v (by assumption) | exact ca_sl | exact ca_slc) ?_; intro bb)
      | (refine al_store_var rfl rfl rfl sz_ (by first | exact od rfl | exact og rfl (by assumption)) (by first | exact od rfl | exact og rfl (by assumption)) (by first | exact ca_agg | exact ca_v rfl | exact ca_v (by assumption) | exact ca_sl | exact ca_slc) rfl (by repeat' (first | exact ones0 | apply ones1 | exact one_v rfl | exact one_v (by assumption) | exact one_sl | exact one_slc)) (by repeat' (first | exact UpdF.here | apply UpdF.next)) (by repeat' (first | exact sc_0 | apply SetC.here | apply SetC.next)) ?_)
      | (refine al_store_row rfl rfl rfl el_ (by first | exact od rfl | exact og rfl (by assumption)) (by first | exact od rfl | exact og rfl (by assumption)) (by repeat' (first | exact UpdF.here | apply UpdF.next)) (by first | omega | (simp only [List.length_append, List.length_nil, List.length_cons, List.nil_append, List.length_replicate, List.length_set]; omega)) (by first | exact ca_cell | exact ca_v (by rfl)) ?_)
      | (refine al_empty rfl rfl rfl rfl un_ el_ ?_; intro u hu1 hu2)
      | (refine al_make rfl rfl rfl rfl un_ el_ (by first | exact odln rfl (by with_reducible rfl) | exact odn rfl | exact ogn rfl (by assumption)) (by first | exact odln rfl (by with_reducible rfl) | exact odn rfl | exact ogn rfl (by assumption)) (by omega) (by simp only [maxLen]; omega) ?_; intro u hu1 hu2)
      | (refine al_append rfl rfl rfl rfl un_ el_ (by first | exact od rfl | exact og rfl (by assumption)) (by first | exact od rfl | exact og rfl (by assumption)) (by repeat' (first | exact UpdF.here | apply UpdF.next)) ?h1 ?h2 ?_
         case h1 => (try simp only [List.length_append, List.length_nil, List.length_cons, List.nil_append, List.length_replicate, List.length_set]); omega
         case h2 => (try simp only [List.length_append, List.length_nil, List.length_cons, List.nil_append, List.length_replicate, List.length_set]); simp only [maxLen]; omega
         intro u hu1 hu2)
      | (refine al_copy_row rfl rfl rfl rfl un_ el_ (by first | exact od rfl | exact og rfl (by assumption)) (by first | exact od rfl | exact og rfl (by assumption)) (by repeat' (first | exact UpdF.here | apply UpdF.next)) ?_)
      | (refine al_copy_sub rfl rfl rfl rfl un_ el_ (by first | exact od rfl | exact og rfl (by assumption)) (by first | exact od rfl | exact og rfl (by assumption)) (by repeat' (first | exact UpdF.here | apply UpdF.next)) (by first | omega | (simp only [List.length_append, List.length_nil, List.length_cons, List.nil_append, List.length_replicate, List.length_set]; omega)) ?_)
    | (refine al_last (by kernel_rfl) ?_)
    | fail)
    all_goals first | (exfalso; obtain ⟨⟨q1, q2⟩, q3⟩ := hb; exact hc ⟨hw q1, by simpa using q2, by omega⟩) | skip
    refine ⟨_, [], (by first | exact res1 rfl rfl | exact res2 rfl rfl rfl | exact res3 rfl rfl rfl rfl | exact res0 rfl | ((first | apply resM1 rfl rfl | apply resM2 rfl rfl rfl) <;> (repeat' (first | exact List.Mem.head _ | apply List.Mem.tail | exact agg_ | exact sz_ | rfl)); done)), List.nil_sublist _, ?_, rfl⟩
    simp only [putR, if_neg hc, grid2]; exact sub_noG
noncomputable def blankR (w h : Int) (l : List Cell) (a b : Int) : (Int × Int × List Cell) × Int := if okG w h l = true ∧ 0 ≤ a ∧ a ≤ b ∧ b ≤ l.length then ((w, h, layG l a.toNat (List.replicate (b - a).toNat (32, 0))), 0) else ((0, 0, []), 1)
set_option maxHeartbeats 1000000 in
theorem f_BlankO (w h : Nat) (l : List Cell) (a b : Nat) (hl : l.length ≤ 3000) (hc : okG w h l = true) (hab : a ≤ b) (hbl : b ≤ l.length) :
    AF Tryd.prog tab0 21 [gridA w h l, I a, I b] [] (fun A M' => ∃ u, A = tupA [aggA [I w, I h, vA u], I 0] ∧ M' = [rowO cellT 30 u (layG l a (List.replicate (b - a) (32, 0)))]) := by
  obtain ⟨w', h', e1, e2, h1, h2, h3, h4, hlen, hall⟩ := okG_nat hc
  obtain rfl : w = w' := by omega
  obtain rfl : h = h' := by omega
  have hb := side_le h2 h4
  have c1 : AP Tryd.prog tab0 17 [gridA w h l] (B true) := hc ▸ f_Is w h l hl
  have c2 : AP Tryd.prog tab0 29 [I (b - a : Nat), I 1] (gridA (b - a : Nat) 1 (List.replicate (b - a) (32, 0))) := (f_fillF (b - a) 1 (by omega)).to (by rw [Nat.mul_one]; rfl)
  have cl := fun u => f_layOk w h u l a (List.replicate (b - a) (32, 0)) hlen hb (by omega) h3 hall (by simp; omega)
  have co := f_own w h l (by omega)
  clear hall
  refine af_intro Tryd.func21 rfl (by decide) Tryd.ntmps21 rfl ?_
  repeat' (first
  | (apply al_call0 rfl rfl rfl rfl (c := co)
     case ha => repeat' (first | exact opds0 | apply opds1 (by first | (refine og rfl ?_; (first | assumption | (refine gd ?_ ?_ <;> assumption) | (refine gd rfl ?_; assumption) | (apply gl; assumption) | (refine gd (by apply gl; assumption) ?_; assumption))) | exact od rfl))
     rintro _ _ ⟨u, rfl, rfl⟩; refine al_rowc (List.Mem.head _) fun hu1 hu2 => ?_)
    | (apply al_call1 rfl rfl rfl rfl (c := cl _)
       case ha => repeat' (first | exact opds0 | apply opds1 (by first | (refine og rfl ?_; (first | assumption | (refine gd ?_ ?_ <;> assumption) | (refine gd rfl ?_; assumption) | (apply gl; assumption) | (refine gd (by apply gl; assumption) ?_; assumption))) | exact od rfl))
       case hM => repeat' (first | exact Pick.here | apply Pick.next)
       rintro _ _ rfl)
  | refine aw_seq ?_
    | refine aw_region0 ?_
    | refine al_nil ?_
    | refine th_n ?_
    | refine th_e ?_
    | refine th_r ?_
    | refine ib_n ?_
    | refine ib_e rfl ?_
    | refine ib_e' rfl ?_
    | refine ib_r ?_
    | refine aw_block ?_
    | refine aw_exit ?_
    | refine aw_ret ?_
    | refine aw_skip ?_
    | refine aw_region1 (by kernel_rfl) (by kernel_rfl) ?_
    | (refine aw_cond rfl ?_ ?_ <;> intro hb <;> (try simp only [decide_eq_true_eq, decide_eq_false_iff_not, Bool.and_eq_true, Bool.or_eq_true, Bool.not_eq_true', Bool.and_eq_false_iff, Bool.or_eq_false_iff, Bool.not_eq_false'] at hb) <;> (first | (exfalso; omega) | skip))
  | (apply al_y
     case hy =>
      first
      | apply qy_plain rfl
      | apply qy_run rfl rfl (guard_b rfl) rfl
      | exact qy_skip rfl rfl (guard_b rfl) rfl
      | (apply qy_gv rfl rfl (by first | exact guard_b rfl | exact guard_gv rfl); intro hk; have hk2 := hk; (try simp only [Bool.true_and, Bool.and_eq_true, Bool.or_eq_true, beq_iff_eq, decide_eq_true_eq, decide_eq_false_iff_not, Bool.not_eq_true', Bool.not_eq_false', Bool.and_eq_false_iff, Bool.or_eq_false_iff] at hk2))
      first
      | fail
      | ((first | apply ay_move rfl | apply ay_assign rfl | apply ay_not rfl | apply ay_lss rfl | apply ay_leq rfl | apply ay_gtr rfl | apply ay_geq rfl | apply k_eql rfl | apply k_neq rfl | apply ay_and rfl | apply ay_or rfl | apply ay_call rfl | apply k_len rfl | apply k_ix rfl | apply k_ld rfl | apply k_fa rfl | apply k_fd rfl | apply ay_build rfl st_ | apply ay_extract rfl | apply ay_slice rfl un_ el_ | apply bs_cell1 rfl un_ | apply bs_cell2 rfl un_ | apply kn_add rfl | apply kn_sub rfl | apply kn_mul rfl | apply kn_quo rfl | apply kn_rem rfl | apply kn_min rfl)
       <;> (repeat' (
        first
        | ((first | refine og rfl ?_ | refine ogn rfl ?_); (first | assumption | (refine gd ?_ ?_ <;> assumption) | (refine gd rfl ?_; assumption) | (apply gl; assumption) | (refine gd (by apply gl; assumption) ?_; assumption))) | exact odln rfl (by with_reducible rfl) | exact odn rfl | exact od rfl
        | exact c1 | exact c2
        | exact un_ | exact el_ | exact agg_ | exact sz_ | exact sp_ | exact fl_ | exact st_ | exact List.Mem.head _ | apply List.Mem.tail | exact SubC.nil | apply SubC.here | apply SubC.next
        | exact nk_sl un_ | apply mk_len un_ | exact nk_sub un_ | apply ik_sl un_ el_ | apply mk_ix un_ el_ | apply ik_sub un_ el_
        | exact lk_el el_ | exact lk_1 agg_ | apply v1_ | apply vn_ | apply mk_r el_ | apply r1_
        | exact ak_ip fl_ sp_ | exact ak_var fl_ sp_ | exact ak_row fl_ sp_ | exact dk_1 fl_ agg_ rfl | apply fn_
        | exact ek_int | exact ek_bool un_ | exact ek_cell
        | exact fit64 (by omega) (by omega) | exact fit32 (by omega) (by omega) | exact fit8 (by omega) (by omega)
        | exact pa_nil | apply pk | exact ca_agg | exact ca_v rfl | exact ca_v (by assumption) | exact ca_sl | exact sc_0 | apply SetC.here | apply SetC.next
        | exact opds0 | apply opds1 | exact lo_none | apply lo_k | exact hi_none | apply hi_k
        | exact rfl | omega | exact (by first | exact hat | exact c_in (by first | omega | (simp only [List.length_append, List.length_nil, List.length_cons, List.nil_append, List.length_replicate, List.length_set]; omega)) | exact List.getElem?_eq_getElem (by first | omega | (simp only [List.length_append, List.length_nil, List.length_cons, List.nil_append, List.length_replicate, List.length_set]; omega))) | (simp only [List.length_append, List.length_nil, List.length_cons, List.nil_append, List.length_replicate, List.length_set]; omega) | intro hp)); done)
      | (refine my_slice rfl un_ el_ (by first | exact od rfl | exact og rfl (by assumption)) (by repeat' (first | exact List.Mem.head _ | apply List.Mem.tail)) (by first | exact odln rfl (by with_reducible rfl) | exact odn rfl | exact ogn rfl (by assumption)) (by first | exact odln rfl (by with_reducible rfl) | exact odn rfl | exact ogn rfl (by assumption)) (by first | omega | (simp only [List.length_append, List.length_nil, List.length_cons, List.nil_append, List.length_replicate, List.length_set]; omega)) (by first | omega | (simp only [List.length_append, List.length_nil, List.length_cons, List.nil_append, List.length_replicate, List.length_set]; omega)))
      | ((first | apply ay_add rfl | apply ay_sub rfl | apply ay_mul rfl | apply ay_quo rfl | apply ay_rem rfl)
       <;> first | exact (by first | (refine og rfl ?_; (first | assumption | (refine gd ?_ ?_ <;> assumption) | (refine gd rfl ?_; assumption) | (apply gl; assumption) | (refine gd (by apply gl; assumption) ?_; assumption))) | exact od rfl) | omega | exact (by first | exact fit64 (by omega) (by omega) | exact fit32 (by omega) (by omega) | exact fit8 (by omega) (by omega)))
     case hx => rfl
     case hd => rfl)
  | (refine al_alloc rfl rfl rfl rfl al_ ?_; intro bb)
    | (refine al_box rfl rfl rfl rfl (by first | exact od rfl | exact og rfl (by assumption)) (by first | exact ca_agg | exact ca_v rfl | exact ca_v (by assumption) | exact ca_sl | exact ca_slc) ?_; intro bb)
    | (refine al_store_var rfl rfl rfl sz_ (by first | exact od rfl | exact og rfl (by assumption)) (by first | exact od rfl | exact og rfl (by assumption)) (by first | exact ca_agg | exact ca_v rfl | exact ca_v (by assumption) | exact ca_sl | exact ca_slc) rfl (by repeat' (first | exact ones0 | apply ones1 | exact one_v rfl | exact one_v (by assumption) | exact one_sl | exact one_slc)) (by repeat' (first | exact UpdF.here | apply UpdF.next)) (by repeat' (first | exact sc_0 | apply SetC.here | apply SetC.next)) ?_)
    | (refine al_store_row rfl rfl rfl el_ (by first | exact od rfl | exact og rfl (by assumption)) (by first | exact od rfl | exact og rfl (by assumption)) (by repeat' (first | exact UpdF.here | apply UpdF.next)) (by first | omega | (simp only [List.length_append, List.length_nil, List.length_cons, List.nil_append, List.length_replicate, List.length_set]; omega)) (by first | exact ca_cell | exact ca_v (by rfl)) ?_)
    | (refine al_empty rfl rfl rfl rfl un_ el_ ?_; intro u hu1 hu2)
    | (refine al_make rfl rfl rfl rfl un_ el_ (by first | exact odln rfl (by with_reducible rfl) | exact odn rfl | exact ogn rfl (by assumption)) (by first | exact odln rfl (by with_reducible rfl) | exact odn rfl | exact ogn rfl (by assumption)) (by omega) (by simp only [maxLen]; omega) ?_; intro u hu1 hu2)
    | (refine al_append rfl rfl rfl rfl un_ el_ (by first | exact od rfl | exact og rfl (by assumption)) (by first | exact od rfl | exact og rfl (by assumption)) (by repeat' (first | exact UpdF.here | apply UpdF.next)) ?h1 ?h2 ?_
       case h1 => (try simp only [List.length_append, List.length_nil, List.length_cons, List.nil_append, List.length_replicate, List.length_set]); omega
       case h2 => (try simp only [List.length_append, List.length_nil, List.length_cons, List.nil_append, List.length_replicate, List.length_set]); simp only [maxLen]; omega
       intro u hu1 hu2)
    | (refine al_copy_row rfl rfl rfl rfl un_ el_ (by first | exact od rfl | exact og rfl (by assumption)) (by first | exact od rfl | exact og rfl (by assumption)) (by repeat' (first | exact UpdF.here | apply UpdF.next)) ?_)
    | (refine al_copy_sub rfl rfl rfl rfl un_ el_ (by first | exact od rfl | exact og rfl (by assumption)) (by first | exact od rfl | exact og rfl (by assumption)) (by repeat' (first | exact UpdF.here | apply UpdF.next)) (by first | omega | (simp only [List.length_append, List.length_nil, List.length_cons, List.nil_append, List.length_replicate, List.length_set]; omega)) ?_)
  | (refine al_last (by kernel_rfl) ?_)
  | fail)
  all_goals first | (exfalso; simp at hb; omega) | skip
  exact ⟨_, _, (by first | exact res1 rfl rfl | exact res2 rfl rfl rfl | exact res3 rfl rfl rfl rfl | exact res0 rfl | ((first | apply resM1 rfl rfl | apply resM2 rfl rfl rfl) <;> (repeat' (first | exact List.Mem.head _ | apply List.Mem.tail | exact agg_ | exact sz_ | rfl)); done)), (by repeat' (first | exact List.nil_sublist _ | apply List.Sublist.cons_cons | apply List.Sublist.cons)), u, rfl, rfl⟩
theorem f_Blank (w h : Int) (l : List Cell) (a b : Int) (hl : l.length ≤ 3000) : AP Tryd.prog tab0 21 [gridA w h l, I a, I b] (grid2 (blankR w h l a b)) := by
  by_cases hc : okG w h l = true ∧ 0 ≤ a ∧ a ≤ b ∧ b ≤ l.length
  · have hc' := hc
    obtain ⟨hok, x1, x2, x3⟩ := hc
    obtain ⟨w, h, rfl, rfl, _⟩ := okG_nat hok
    obtain ⟨a, rfl⟩ := Int.eq_ofNat_of_zero_le x1
    obtain ⟨b, rfl⟩ := Int.eq_ofNat_of_zero_le (show 0 ≤ b by omega)
    have := (f_BlankO w h l a b hl hok (by omega) (by omega)).frz1 (by intro u; repeat' (first | exact fz_here | apply fz_agg | apply fz_tup | exact fzl_nil | apply fzl_cons | exact fz_keep))
    simpa only [blankR, if_pos hc', grid2, Int.toNat_natCast, show ((b : Int) - (a : Int)).toNat = b - a by omega] using this
  · refine af_intro Tryd.func21 rfl (by decide) Tryd.ntmps21 rfl ?_
    repeat' (first
    | (apply al_call0 rfl rfl rfl rfl (c := co)
       case ha => repeat' (first | exact opds0 | apply opds1 (by first | (refine og rfl ?_; (first | assumption | (refine gd ?_ ?_ <;> assumption) | (refine gd rfl ?_; assumption) | (apply gl; assumption) | (refine gd (by apply gl; assumption) ?_; assumption))) | exact od rfl))
       rintro _ _ ⟨u, rfl, rfl⟩; refine al_rowc (List.Mem.head _) fun hu1 hu2 => ?_)
      | (apply al_call1 rfl rfl rfl rfl (c := cl _)
         case ha => repeat' (first | exact opds0 | apply opds1 (by first | (refine og rfl ?_; (first | assumption | (refine gd ?_ ?_ <;> assumption) | (refine gd rfl ?_; assumption) | (apply gl; assumption) | (refine gd (by apply gl; assumption) ?_; assumption))) | exact od rfl))
         case hM => repeat' (first | exact Pick.here | apply Pick.next)
         rintro _ _ rfl)
    | refine aw_seq ?_
      | refine aw_region0 ?_
      | refine al_nil ?_
      | refine th_n ?_
      | refine th_e ?_
      | refine th_r ?_
      | refine ib_n ?_
      | refine ib_e rfl ?_
      | refine ib_e' rfl ?_
      | refine ib_r ?_
      | refine aw_block ?_
      | refine aw_exit ?_
      | refine aw_ret ?_
      | refine aw_skip ?_
      | refine aw_region1 (by kernel_rfl) (by kernel_rfl) ?_
      | (refine aw_cond rfl ?_ ?_ <;> intro hb <;> (try simp only [decide_eq_true_eq, decide_eq_false_iff_not, Bool.and_eq_true, Bool.or_eq_true, Bool.not_eq_true', Bool.and_eq_false_iff, Bool.or_eq_false_iff, Bool.not_eq_false'] at hb) <;> (first | (exfalso; omega) | skip))
    | (apply al_y
       case hy =>
        first
        | apply qy_plain rfl
        | apply qy_run rfl rfl (guard_b rfl) rfl
        | exact qy_skip rfl rfl (guard_b rfl) rfl
        | (apply qy_gv rfl rfl (by first | exact guard_b rfl | exact guard_gv rfl); intro hk; have hk2 := hk; (try simp only [Bool.true_and, Bool.and_eq_true, Bool.or_eq_true, beq_iff_eq, decide_eq_true_eq, decide_eq_false_iff_not, Bool.not_eq_true', Bool.not_eq_false', Bool.and_eq_false_iff, Bool.or_eq_false_iff] at hk2))
        first
        | fail
        | ((first | apply ay_move rfl | apply ay_assign rfl | apply ay_not rfl | apply ay_lss rfl | apply ay_leq rfl | apply ay_gtr rfl | apply ay_geq rfl | apply k_eql rfl | apply k_neq rfl | apply ay_and rfl | apply ay_or rfl | apply ay_call rfl | apply k_len rfl | apply k_ix rfl | apply k_ld rfl | apply k_fa rfl | apply k_fd rfl | apply ay_build rfl st_ | apply ay_extract rfl | apply ay_slice rfl un_ el_ | apply bs_cell1 rfl un_ | apply bs_cell2 rfl un_ | apply kn_add rfl | apply kn_sub rfl | apply kn_mul rfl | apply kn_quo rfl | apply kn_rem rfl | apply kn_min rfl)
         <;> (repeat' (
          first
          | ((first | refine og rfl ?_ | refine ogn rfl ?_); (first | assumption | (refine gd ?_ ?_ <;> assumption) | (refine gd rfl ?_; assumption) | (apply gl; assumption) | (refine gd (by apply gl; assumption) ?_; assumption))) | exact odln rfl (by with_reducible rfl) | exact odn rfl | exact od rfl
          | exact f_Is _ _ _ hl
          | exact un_ | exact el_ | exact agg_ | exact sz_ | exact sp_ | exact fl_ | exact st_ | exact List.Mem.head _ | apply List.Mem.tail | exact SubC.nil | apply SubC.here | apply SubC.next
          | exact nk_sl un_ | apply mk_len un_ | exact nk_sub un_ | apply ik_sl un_ el_ | apply mk_ix un_ el_ | apply ik_sub un_ el_
          | exact lk_el el_ | exact lk_1 agg_ | apply v1_ | apply vn_ | apply mk_r el_ | apply r1_
          | exact ak_ip fl_ sp_ | exact ak_var fl_ sp_ | exact ak_row fl_ sp_ | exact dk_1 fl_ agg_ rfl | apply fn_
          | exact ek_int | exact ek_bool un_ | exact ek_cell
          | exact fit64 (by omega) (by omega) | exact fit32 (by omega) (by omega) | exact fit8 (by omega) (by omega)
          | exact pa_nil | apply pk | exact ca_agg | exact ca_v rfl | exact ca_v (by assumption) | exact ca_sl | exact sc_0 | apply SetC.here | apply SetC.next
          | exact opds0 | apply opds1 | exact lo_none | apply lo_k | exact hi_none | apply hi_k
          | exact rfl | omega | exact (by first | exact hat | exact c_in (by first | omega | (simp only [List.length_append, List.length_nil, List.length_cons, List.nil_append, List.length_replicate, List.length_set]; omega)) | exact List.getElem?_eq_getElem (by first | omega | (simp only [List.length_append, List.length_nil, List.length_cons, List.nil_append, List.length_replicate, List.length_set]; omega))) | (simp only [List.length_append, List.length_nil, List.length_cons, List.nil_append, List.length_replicate, List.length_set]; omega) | intro hp)); done)
        | (refine my_slice rfl un_ el_ (by first | exact od rfl | exact og rfl (by assumption)) (by repeat' (first | exact List.Mem.head _ | apply List.Mem.tail)) (by first | exact odln rfl (by with_reducible rfl) | exact odn rfl | exact ogn rfl (by assumption)) (by first | exact odln rfl (by with_reducible rfl) | exact odn rfl | exact ogn rfl (by assumption)) (by first | omega | (simp only [List.length_append, List.length_nil, List.length_cons, List.nil_append, List.length_replicate, List.length_set]; omega)) (by first | omega | (simp only [List.length_append, List.length_nil, List.length_cons, List.nil_append, List.length_replicate, List.length_set]; omega)))
        | ((first | apply ay_add rfl | apply ay_sub rfl | apply ay_mul rfl | apply ay_quo rfl | apply ay_rem rfl)
         <;> first | exact (by first | (refine og rfl ?_; (first | assumption | (refine gd ?_ ?_ <;> assumption) | (refine gd rfl ?_; assumption) | (apply gl; assumption) | (refine gd (by apply gl; assumption) ?_; assumption))) | exact od rfl) | omega | exact (by first | exact fit64 (by omega) (by omega) | exact fit32 (by omega) (by omega) | exact fit8 (by omega) (by omega)))
       case hx => rfl
       case hd => rfl)
    | (refine al_alloc rfl rfl rfl rfl al_ ?_; intro bb)
      | (refine al_box rfl rfl rfl rfl (by first | exact od rfl | exact og rfl (by assumption)) (by first | exact ca_agg | exact ca_v rfl | exact ca_v (by assumption) | exact ca_sl | exact ca_slc) ?_; intro bb)
      | (refine al_store_var rfl rfl rfl sz_ (by first | exact od rfl | exact og rfl (by assumption)) (by first | exact od rfl | exact og rfl (by assumption)) (by first | exact ca_agg | exact ca_v rfl | exact ca_v (by assumption) | exact ca_sl | exact ca_slc) rfl (by repeat' (first | exact ones0 | apply ones1 | exact one_v rfl | exact one_v (by assumption) | exact one_sl | exact one_slc)) (by repeat' (first | exact UpdF.here | apply UpdF.next)) (by repeat' (first | exact sc_0 | apply SetC.here | apply SetC.next)) ?_)
      | (refine al_store_row rfl rfl rfl el_ (by first | exact od rfl | exact og rfl (by assumption)) (by first | exact od rfl | exact og rfl (by assumption)) (by repeat' (first | exact UpdF.here | apply UpdF.next)) (by first | omega | (simp only [List.length_append, List.length_nil, List.length_cons, List.nil_append, List.length_replicate, List.length_set]; omega)) (by first | exact ca_cell | exact ca_v (by rfl)) ?_)
      | (refine al_empty rfl rfl rfl rfl un_ el_ ?_; intro u hu1 hu2)
      | (refine al_make rfl rfl rfl rfl un_ el_ (by first | exact odln rfl (by with_reducible rfl) | exact odn rfl | exact ogn rfl (by assumption)) (by first | exact odln rfl (by with_reducible rfl) | exact odn rfl | exact ogn rfl (by assumption)) (by omega) (by simp only [maxLen]; omega) ?_; intro u hu1 hu2)
      | (refine al_append rfl rfl rfl rfl un_ el_ (by first | exact od rfl | exact og rfl (by assumption)) (by first | exact od rfl | exact og rfl (by assumption)) (by repeat' (first | exact UpdF.here | apply UpdF.next)) ?h1 ?h2 ?_
         case h1 => (try simp only [List.length_append, List.length_nil, List.length_cons, List.nil_append, List.length_replicate, List.length_set]); omega
         case h2 => (try simp only [List.length_append, List.length_nil, List.length_cons, List.nil_append, List.length_replicate, List.length_set]); simp only [maxLen]; omega
         intro u hu1 hu2)
      | (refine al_copy_row rfl rfl rfl rfl un_ el_ (by first | exact od rfl | exact og rfl (by assumption)) (by first | exact od rfl | exact og rfl (by assumption)) (by repeat' (first | exact UpdF.here | apply UpdF.next)) ?_)
      | (refine al_copy_sub rfl rfl rfl rfl un_ el_ (by first | exact od rfl | exact og rfl (by assumption)) (by first | exact od rfl | exact og rfl (by assumption)) (by repeat' (first | exact UpdF.here | apply UpdF.next)) (by first | omega | (simp only [List.length_append, List.length_nil, List.length_cons, List.nil_append, List.length_replicate, List.length_set]; omega)) ?_)
    | (refine al_last (by kernel_rfl) ?_)
    | fail)
    all_goals first | (exfalso; obtain ⟨⟨⟨q1, q2⟩, q3⟩, q4⟩ := hb; exact hc ⟨by simpa using q1, by omega, by omega, by omega⟩) | skip
    refine ⟨_, [], (by first | exact res1 rfl rfl | exact res2 rfl rfl rfl | exact res3 rfl rfl rfl rfl | exact res0 rfl | ((first | apply resM1 rfl rfl | apply resM2 rfl rfl rfl) <;> (repeat' (first | exact List.Mem.head _ | apply List.Mem.tail | exact agg_ | exact sz_ | rfl)); done)), List.nil_sublist _, ?_, rfl⟩
    simp only [blankR, if_neg hc, grid2]; exact sub_noG
end Go.Proofs.YthlikicgikoilaaDoor
