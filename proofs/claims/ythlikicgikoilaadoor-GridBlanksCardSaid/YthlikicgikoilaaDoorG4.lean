/- Layer 3 (grid): cells are laid into a grid: put, blank, scroll. No condition. -/
import Derived.Test.YthlikicgikoilaaDoorG3
namespace Go.Proofs.YthlikicgikoilaaDoor
set_option linter.unusedSimpArgs false
set_option linter.unusedVariables false
open Go Go.RowKit
attribute [local irreducible] AW AL AO QY varO rowO rsA Opd OpdN vA gvA tupA aggA slA slcA ipA rpA EqK LnK IxK LdK FaK FdK
set_option maxRecDepth 100000
/-- what 'lay' makes of a list -/
def layG (l : List Cell) (at_ : Nat) (cs : List Cell) : List Cell :=
  if cs = [] then l else
    let l1 := if (cAt l at_).2 = 2 then l.set (at_ - 1) (32, 0) else l
    let l2 := if (cAt l1 (at_ + cs.length - 1)).2 = 1 then l1.set (at_ + cs.length) (32, 0) else l1
    ovr l2 at_ cs
theorem layG_len {l : List Cell} {a : Nat} {cs : List Cell} (h : a + cs.length ≤ l.length) : (layG l a cs).length = l.length := by
  unfold layG
  split
  · rfl
  · simp only
    have e : ∀ (c : Prop) [Decidable c] (m : List Cell) (j : Nat), (if c then m.set j (32, 0) else m).length = m.length := fun c _ m j => by split <;> simp
    rw [ovr_len (by rw [e, e]; exact h), e, e]
theorem f_lay (u : Value) (l : List Cell) (a : Nat) (cs : List Cell) (hl : l.length ≤ 100000) (h : a + cs.length ≤ l.length)
    (hA : cs ≠ [] → (cAt l a).2 = 2 → 1 ≤ a) (hB : cs ≠ [] → (cAt l (a + cs.length - 1)).2 = 1 → a + cs.length < l.length) :
    AF Tryd.prog tab0 38 [vA u, I a, slA cellT cs] [rowO cellT 30 u l] (fun _ M' => M' = [rowO cellT 30 u (layG l a cs)]) := by
  by_cases hcs : cs = []
  · have h0 : cs.length = 0 := by rw [hcs]; rfl
    refine af_intro Tryd.func38 rfl (by decide) Tryd.ntmps38 rfl ?_
    repeat' (first
    | fail
    | refine aw_seq ?_
      | refine aw_region0 ?_
      | refine al_nil ?_
      | refine th_n ?_
      | refine th_e ?_
      | refine th_r ?_
      | refine ib_n ?_
      | refine ib_e rfl ?_
      | refine ib_e' rfl ?_
      | refine ib_r ?_
      | refine aw_block ?_
      | refine aw_exit ?_
      | refine aw_ret ?_
      | refine aw_skip ?_
      | refine aw_region1 (by kernel_rfl) (by kernel_rfl) ?_
      | (refine aw_cond rfl ?_ ?_ <;> intro hb <;> (try simp only [decide_eq_true_eq, decide_eq_false_iff_not, Bool.and_eq_true, Bool.or_eq_true, Bool.not_eq_true', Bool.and_eq_false_iff, Bool.or_eq_false_iff, Bool.not_eq_false'] at hb) <;> (first | (exfalso; omega) | skip))
    | (apply al_y
       case hy =>
        first
        | apply qy_plain rfl
        | apply qy_run rfl rfl (guard_b rfl) rfl
        | exact qy_skip rfl rfl (guard_b rfl) rfl
        | (apply qy_gv rfl rfl (by first | exact guard_b rfl | exact guard_gv rfl); intro hk; have hk2 := hk; (try simp only [Bool.true_and, Bool.and_eq_true, Bool.or_eq_true, beq_iff_eq, decide_eq_true_eq, decide_eq_false_iff_not, Bool.not_eq_true', Bool.not_eq_false', Bool.and_eq_false_iff, Bool.or_eq_false_iff] at hk2))
        first
        | fail
        | ((first | apply ay_move rfl | apply ay_assign rfl | apply ay_not rfl | apply ay_lss rfl | apply ay_leq rfl | apply ay_gtr rfl | apply ay_geq rfl | apply k_eql rfl | apply k_neq rfl | apply ay_and rfl | apply ay_or rfl | apply ay_call rfl | apply k_len rfl | apply k_ix rfl | apply k_ld rfl | apply k_fa rfl | apply k_fd rfl | apply ay_build rfl st_ | apply ay_extract rfl | apply ay_slice rfl un_ el_ | apply bs_cell1 rfl un_ | apply bs_cell2 rfl un_ | apply kn_add rfl | apply kn_sub rfl | apply kn_mul rfl | apply kn_quo rfl | apply kn_rem rfl | apply kn_min rfl)
         <;> (repeat' (
          first
          | ((first | refine og rfl ?_ | refine ogn rfl ?_); (first | assumption | (refine gd ?_ ?_ <;> assumption) | (refine gd rfl ?_; assumption) | (apply gl; assumption) | (refine gd (by apply gl; assumption) ?_; assumption))) | exact odln rfl (by with_reducible rfl) | exact odn rfl | exact od rfl
          | exact f_blank
          | exact un_ | exact el_ | exact agg_ | exact sz_ | exact sp_ | exact fl_ | exact st_ | exact List.Mem.head _ | apply List.Mem.tail | exact SubC.nil | apply SubC.here | apply SubC.next
          | exact nk_sl un_ | apply mk_len un_ | exact nk_sub un_ | apply ik_sl un_ el_ | apply mk_ix un_ el_ | apply ik_sub un_ el_
          | exact lk_el el_ | exact lk_1 agg_ | apply v1_ | apply vn_ | apply mk_r el_ | apply r1_
          | exact ak_ip fl_ sp_ | exact ak_var fl_ sp_ | exact ak_row fl_ sp_ | exact dk_1 fl_ agg_ rfl | apply fn_
          | exact ek_int | exact ek_bool un_ | exact ek_cell
          | exact fit64 (by omega) (by omega) | exact fit32 (by omega) (by omega) | exact fit8 (by omega) (by omega)
          | exact pa_nil | apply pk | exact ca_agg | exact ca_v rfl | exact ca_v (by assumption) | exact ca_sl | exact sc_0 | apply SetC.here | apply SetC.next
          | exact opds0 | apply opds1 | exact lo_none | apply lo_k | exact hi_none | apply hi_k
          | exact rfl | omega | exact (by first | exact hat | exact c_in (by first | omega | (simp only [List.length_append, List.length_nil, List.length_cons, List.nil_append, List.length_replicate, List.length_set]; omega)) | exact List.getElem?_eq_getElem (by first | omega | (simp only [List.length_append, List.length_nil, List.length_cons, List.nil_append, List.length_replicate, List.length_set]; omega))) | (simp only [List.length_append, List.length_nil, List.length_cons, List.nil_append, List.length_replicate, List.length_set]; omega) | intro hp)); done)
        | (refine my_slice rfl un_ el_ (by first | exact od rfl | exact og rfl (by assumption)) (by repeat' (first | exact List.Mem.head _ | apply List.Mem.tail)) (by first | exact odln rfl (by with_reducible rfl) | exact odn rfl | exact ogn rfl (by assumption)) (by first | exact odln rfl (by with_reducible rfl) | exact odn rfl | exact ogn rfl (by assumption)) (by first | omega | (simp only [List.length_append, List.length_nil, List.length_cons, List.nil_append, List.length_replicate, List.length_set]; omega)) (by first | omega | (simp only [List.length_append, List.length_nil, List.length_cons, List.nil_append, List.length_replicate, List.length_set]; omega)))
        | ((first | apply ay_add rfl | apply ay_sub rfl | apply ay_mul rfl | apply ay_quo rfl | apply ay_rem rfl)
         <;> first | exact (by first | (refine og rfl ?_; (first | assumption | (refine gd ?_ ?_ <;> assumption) | (refine gd rfl ?_; assumption) | (apply gl; assumption) | (refine gd (by apply gl; assumption) ?_; assumption))) | exact od rfl) | omega | exact (by first | exact fit64 (by omega) (by omega) | exact fit32 (by omega) (by omega) | exact fit8 (by omega) (by omega)))
       case hx => rfl
       case hd => rfl)
    | (refine al_alloc rfl rfl rfl rfl al_ ?_; intro bb)
      | (refine al_box rfl rfl rfl rfl (by first | exact od rfl | exact og rfl (by assumption)) (by first | exact ca_agg | exact ca_v rfl | exact ca_v (by assumption) | exact ca_sl | exact ca_slc) ?_; intro bb)
      | (refine al_store_var rfl rfl rfl sz_ (by first | exact od rfl | exact og rfl (by assumption)) (by first | exact od rfl | exact og rfl (by assumption)) (by first | exact ca_agg | exact ca_v rfl | exact ca_v (by assumption) | exact ca_sl | exact ca_slc) rfl (by repeat' (first | exact ones0 | apply ones1 | exact one_v rfl | exact one_v (by assumption) | exact one_sl | exact one_slc)) (by repeat' (first | exact UpdF.here | apply UpdF.next)) (by repeat' (first | exact sc_0 | apply SetC.here | apply SetC.next)) ?_)
      | (refine al_store_row rfl rfl rfl el_ (by first | exact od rfl | exact og rfl (by assumption)) (by first | exact od rfl | exact og rfl (by assumption)) (by repeat' (first | exact UpdF.here | apply UpdF.next)) (by first | omega | (simp only [List.length_append, List.length_nil, List.length_cons, List.nil_append, List.length_replicate, List.length_set]; omega)) (by first | exact ca_cell | exact ca_v (by rfl)) ?_)
      | (refine al_empty rfl rfl rfl rfl un_ el_ ?_; intro u hu1 hu2)
      | (refine al_make rfl rfl rfl rfl un_ el_ (by first | exact odln rfl (by with_reducible rfl) | exact odn rfl | exact ogn rfl (by assumption)) (by first | exact odln rfl (by with_reducible rfl) | exact odn rfl | exact ogn rfl (by assumption)) (by omega) (by simp only [maxLen]; omega) ?_; intro u hu1 hu2)
      | (refine al_append rfl rfl rfl rfl un_ el_ (by first | exact od rfl | exact og rfl (by assumption)) (by first | exact od rfl | exact og rfl (by assumption)) (by repeat' (first | exact UpdF.here | apply UpdF.next)) ?h1 ?h2 ?_
         case h1 => (try simp only [List.length_append, List.length_nil, List.length_cons, List.nil_append, List.length_replicate, List.length_set]); omega
         case h2 => (try simp only [List.length_append, List.length_nil, List.length_cons, List.nil_append, List.length_replicate, List.length_set]); simp only [maxLen]; omega
         intro u hu1 hu2)
      | (refine al_copy_row rfl rfl rfl rfl un_ el_ (by first | exact od rfl | exact og rfl (by assumption)) (by first | exact od rfl | exact og rfl (by assumption)) (by repeat' (first | exact UpdF.here | apply UpdF.next)) ?_)
      | (refine al_copy_sub rfl rfl rfl rfl un_ el_ (by first | exact od rfl | exact og rfl (by assumption)) (by first | exact od rfl | exact og rfl (by assumption)) (by repeat' (first | exact UpdF.here | apply UpdF.next)) (by first | omega | (simp only [List.length_append, List.length_nil, List.length_cons, List.nil_append, List.length_replicate, List.length_set]; omega)) ?_)
    | (refine al_last (by kernel_rfl) ?_)
    | fail)
    exact ⟨_, _, (by first | exact res1 rfl rfl | exact res2 rfl rfl rfl | exact res3 rfl rfl rfl rfl | exact res0 rfl | ((first | apply resM1 rfl rfl | apply resM2 rfl rfl rfl) <;> (repeat' (first | exact List.Mem.head _ | apply List.Mem.tail | exact agg_ | exact sz_ | rfl)); done)), List.Sublist.refl _, by rw [layG, if_pos hcs]⟩
  · have hpos : 0 < cs.length := List.length_pos_iff.2 hcs
    have hat := c_in (l := l) (i := a) (by omega)
    have hA1 := hA hcs
    have hB1 := hB hcs
    have hB2 : 1 ≤ a → (cAt (l.set (a - 1) (32, 0)) (a + cs.length - 1)).2 = 1 → a + cs.length < l.length := fun h1 => by
      rw [cAt_set _ _ _ _ (by omega), if_neg (by omega)]; exact hB1
    have htk : cs.take (a + cs.length - a) = cs := List.take_of_length_le (by omega)
    refine af_intro Tryd.func38 rfl (by decide) Tryd.ntmps38 rfl ?_
    repeat' (first
    | fail
    | refine aw_seq ?_
      | refine aw_region0 ?_
      | refine al_nil ?_
      | refine th_n ?_
      | refine th_e ?_
      | refine th_r ?_
      | refine ib_n ?_
      | refine ib_e rfl ?_
      | refine ib_e' rfl ?_
      | refine ib_r ?_
      | refine aw_block ?_
      | refine aw_exit ?_
      | refine aw_ret ?_
      | refine aw_skip ?_
      | refine aw_region1 (by kernel_rfl) (by kernel_rfl) ?_
      | (refine aw_cond rfl ?_ ?_ <;> intro hb <;> (try simp only [decide_eq_true_eq, decide_eq_false_iff_not, Bool.and_eq_true, Bool.or_eq_true, Bool.not_eq_true', Bool.and_eq_false_iff, Bool.or_eq_false_iff, Bool.not_eq_false'] at hb) <;> (first | (exfalso; omega) | skip))
    | (apply al_y
       case hy =>
        first
        | apply qy_plain rfl
        | apply qy_run rfl rfl (guard_b rfl) rfl
        | exact qy_skip rfl rfl (guard_b rfl) rfl
        | (apply qy_gv rfl rfl (by first | exact guard_b rfl | exact guard_gv rfl); intro hk; have hk2 := hk; (try simp only [Bool.true_and, Bool.and_eq_true, Bool.or_eq_true, beq_iff_eq, decide_eq_true_eq, decide_eq_false_iff_not, Bool.not_eq_true', Bool.not_eq_false', Bool.and_eq_false_iff, Bool.or_eq_false_iff] at hk2))
        first
        | fail
        | ((first | apply ay_move rfl | apply ay_assign rfl | apply ay_not rfl | apply ay_lss rfl | apply ay_leq rfl | apply ay_gtr rfl | apply ay_geq rfl | apply k_eql rfl | apply k_neq rfl | apply ay_and rfl | apply ay_or rfl | apply ay_call rfl | apply k_len rfl | apply k_ix rfl | apply k_ld rfl | apply k_fa rfl | apply k_fd rfl | apply ay_build rfl st_ | apply ay_extract rfl | apply ay_slice rfl un_ el_ | apply bs_cell1 rfl un_ | apply bs_cell2 rfl un_ | apply kn_add rfl | apply kn_sub rfl | apply kn_mul rfl | apply kn_quo rfl | apply kn_rem rfl | apply kn_min rfl)
         <;> (repeat' (
          first
          | ((first | refine og rfl ?_ | refine ogn rfl ?_); (first | assumption | (refine gd ?_ ?_ <;> assumption) | (refine gd rfl ?_; assumption) | (apply gl; assumption) | (refine gd (by apply gl; assumption) ?_; assumption))) | exact odln rfl (by with_reducible rfl) | exact odn rfl | exact od rfl
          | exact f_blank
          | exact un_ | exact el_ | exact agg_ | exact sz_ | exact sp_ | exact fl_ | exact st_ | exact List.Mem.head _ | apply List.Mem.tail | exact SubC.nil | apply SubC.here | apply SubC.next
          | exact nk_sl un_ | apply mk_len un_ | exact nk_sub un_ | apply ik_sl un_ el_ | apply mk_ix un_ el_ | apply ik_sub un_ el_
          | exact lk_el el_ | exact lk_1 agg_ | apply v1_ | apply vn_ | apply mk_r el_ | apply r1_
          | exact ak_ip fl_ sp_ | exact ak_var fl_ sp_ | exact ak_row fl_ sp_ | exact dk_1 fl_ agg_ rfl | apply fn_
          | exact ek_int | exact ek_bool un_ | exact ek_cell
          | exact fit64 (by omega) (by omega) | exact fit32 (by omega) (by omega) | exact fit8 (by omega) (by omega)
          | exact pa_nil | apply pk | exact ca_agg | exact ca_v rfl | exact ca_v (by assumption) | exact ca_sl | exact sc_0 | apply SetC.here | apply SetC.next
          | exact opds0 | apply opds1 | exact lo_none | apply lo_k | exact hi_none | apply hi_k
          | exact rfl | omega | exact (by first | exact hat | exact c_in (by first | omega | (simp only [List.length_append, List.length_nil, List.length_cons, List.nil_append, List.length_replicate, List.length_set]; omega)) | exact List.getElem?_eq_getElem (by first | omega | (simp only [List.length_append, List.length_nil, List.length_cons, List.nil_append, List.length_replicate, List.length_set]; omega))) | (simp only [List.length_append, List.length_nil, List.length_cons, List.nil_append, List.length_replicate, List.length_set]; omega) | intro hp)); done)
        | (refine my_slice rfl un_ el_ (by first | exact od rfl | exact og rfl (by assumption)) (by repeat' (first | exact List.Mem.head _ | apply List.Mem.tail)) (by first | exact odln rfl (by with_reducible rfl) | exact odn rfl | exact ogn rfl (by assumption)) (by first | exact odln rfl (by with_reducible rfl) | exact odn rfl | exact ogn rfl (by assumption)) (by first | omega | (simp only [List.length_append, List.length_nil, List.length_cons, List.nil_append, List.length_replicate, List.length_set]; omega)) (by first | omega | (simp only [List.length_append, List.length_nil, List.length_cons, List.nil_append, List.length_replicate, List.length_set]; omega)))
        | ((first | apply ay_add rfl | apply ay_sub rfl | apply ay_mul rfl | apply ay_quo rfl | apply ay_rem rfl)
         <;> first | exact (by first | (refine og rfl ?_; (first | assumption | (refine gd ?_ ?_ <;> assumption) | (refine gd rfl ?_; assumption) | (apply gl; assumption) | (refine gd (by apply gl; assumption) ?_; assumption))) | exact od rfl) | omega | exact (by first | exact fit64 (by omega) (by omega) | exact fit32 (by omega) (by omega) | exact fit8 (by omega) (by omega)))
       case hx => rfl
       case hd => rfl)
    | (refine al_alloc rfl rfl rfl rfl al_ ?_; intro bb)
      | (refine al_box rfl rfl rfl rfl (by first | exact od rfl | exact og rfl (by assumption)) (by first | exact ca_agg | exact ca_v rfl | exact ca_v (by assumption) | exact ca_sl | exact ca_slc) ?_; intro bb)
      | (refine al_store_var rfl rfl rfl sz_ (by first | exact od rfl | exact og rfl (by assumption)) (by first | exact od rfl | exact og rfl (by assumption)) (by first | exact ca_agg | exact ca_v rfl | exact ca_v (by assumption) | exact ca_sl | exact ca_slc) rfl (by repeat' (first | exact ones0 | apply ones1 | exact one_v rfl | exact one_v (by assumption) | exact one_sl | exact one_slc)) (by repeat' (first | exact UpdF.here | apply UpdF.next)) (by repeat' (first | exact sc_0 | apply SetC.here | apply SetC.next)) ?_)
      | (refine al_store_row rfl rfl rfl el_ (by first | exact od rfl | exact og rfl (by assumption)) (by first | exact od rfl | exact og rfl (by assumption)) (by repeat' (first | exact UpdF.here | apply UpdF.next)) (by first | omega | (simp only [List.length_append, List.length_nil, List.length_cons, List.nil_append, List.length_replicate, List.length_set]; omega)) (by first | exact ca_cell | exact ca_v (by rfl)) ?_)
      | (refine al_empty rfl rfl rfl rfl un_ el_ ?_; intro u hu1 hu2)
      | (refine al_make rfl rfl rfl rfl un_ el_ (by first | exact odln rfl (by with_reducible rfl) | exact odn rfl | exact ogn rfl (by assumption)) (by first | exact odln rfl (by with_reducible rfl) | exact odn rfl | exact ogn rfl (by assumption)) (by omega) (by simp only [maxLen]; omega) ?_; intro u hu1 hu2)
      | (refine al_append rfl rfl rfl rfl un_ el_ (by first | exact od rfl | exact og rfl (by assumption)) (by first | exact od rfl | exact og rfl (by assumption)) (by repeat' (first | exact UpdF.here | apply UpdF.next)) ?h1 ?h2 ?_
         case h1 => (try simp only [List.length_append, List.length_nil, List.length_cons, List.nil_append, List.length_replicate, List.length_set]); omega
         case h2 => (try simp only [List.length_append, List.length_nil, List.length_cons, List.nil_append, List.length_replicate, List.length_set]); simp only [maxLen]; omega
         intro u hu1 hu2)
      | (refine al_copy_row rfl rfl rfl rfl un_ el_ (by first | exact od rfl | exact og rfl (by assumption)) (by first | exact od rfl | exact og rfl (by assumption)) (by repeat' (first | exact UpdF.here | apply UpdF.next)) ?_)
      | (refine al_copy_sub rfl rfl rfl rfl un_ el_ (by first | exact od rfl | exact og rfl (by assumption)) (by first | exact od rfl | exact og rfl (by assumption)) (by repeat' (first | exact UpdF.here | apply UpdF.next)) (by first | omega | (simp only [List.length_append, List.length_nil, List.length_cons, List.nil_append, List.length_replicate, List.length_set]; omega)) ?_)
    | (refine al_last (by kernel_rfl) ?_)
    | fail)
    all_goals refine ⟨_, _, (by first | exact res1 rfl rfl | exact res2 rfl rfl rfl | exact res3 rfl rfl rfl rfl | exact res0 rfl | ((first | apply resM1 rfl rfl | apply resM2 rfl rfl rfl) <;> (repeat' (first | exact List.Mem.head _ | apply List.Mem.tail | exact agg_ | exact sz_ | rfl)); done)), List.Sublist.refl _, ?_⟩
    all_goals rw [htk, layG, if_neg hcs]
    · rename_i e1; simp only [if_pos e1, if_pos hb]
    · rename_i e1; simp only [if_pos e1, if_neg hb]
    · rename_i e1; simp only [if_neg e1, if_pos hb]
    · rename_i e1; simp only [if_neg e1, if_neg hb]
theorem f_fillF (w h : Nat) (hb : w * h ≤ 100000) : AP Tryd.prog tab0 29 [I w, I h] (gridA w h (List.replicate (w * h) (32, 0))) := (f_fill w h hb).frz1 (by intro u; repeat' (first | exact fz_here | apply fz_agg | apply fz_tup | exact fzl_nil | apply fzl_cons | exact fz_keep))
theorem last_mod {w h j : Nat} (hw : 1 ≤ w) (h1 : 1 ≤ h) (e : j + 1 = w * h) : j % w = w - 1 := by
  obtain ⟨k, rfl⟩ : ∃ k, h = k + 1 := ⟨h - 1, by omega⟩
  have : j = (w - 1) + w * k := by rw [Nat.mul_add, Nat.mul_one] at e; omega
  rw [this, Nat.add_mul_mod_self_left, Nat.mod_eq_of_lt (by omega)]
theorem ok_left {w : Nat} {l : List Cell} {i : Nat} (hk : lostM w l i = false) (h2 : (cAt l i).2 = 2) : 1 ≤ i := by
  have := ((lost_false.1 hk).2 h2).1
  rcases Nat.eq_zero_or_pos i with h | h
  · subst h; simp at this
  · exact h
theorem ok_right {w h : Nat} {l : List Cell} {i : Nat} (hw : 1 ≤ w) (h1 : 1 ≤ h) (hl : l.length = w * h) (hi : i < l.length) (hk : lostM w l i = false) (h2 : (cAt l i).2 = 1) : i + 1 < l.length := by
  have h3 := ((lost_false.1 hk).1 h2).1
  rcases Nat.lt_or_ge (i + 1) l.length with h | h
  · exact h
  · exact absurd (last_mod hw h1 (by omega)) h3
theorem f_layOk (w h : Nat) (u : Value) (l : List Cell) (a : Nat) (cs : List Cell) (hl : l.length = w * h) (hb : w * h ≤ 1920) (h1 : 1 ≤ w) (h2 : 1 ≤ h) (hok : ∀ i, i < l.length → isCell (cAt l i) = true ∧ lostM w l i = false) (hac : a + cs.length ≤ l.length) :
    AF Tryd.prog tab0 38 [vA u, I a, slA cellT cs] [rowO cellT 30 u l] (fun _ M' => M' = [rowO cellT 30 u (layG l a cs)]) :=
  f_lay u l a cs (by omega) hac (fun hc => by have := List.length_pos_iff.2 hc; exact ok_left (hok a (by omega)).2) (fun hc hk => by
    have hp := List.length_pos_iff.2 hc
    have := ok_right h1 h2 hl (by omega) (hok (a + cs.length - 1) (by omega)).2 hk
    omega)
end Go.Proofs.YthlikicgikoilaaDoor
