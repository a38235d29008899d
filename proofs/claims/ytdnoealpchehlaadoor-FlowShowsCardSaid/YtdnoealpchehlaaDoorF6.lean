/- Layer 4 (flow): all places, and the reference. No condition. -/
import Derived.Test.YtdnoealpchehlaaDoorF5
namespace Go.Proofs.YtdnoealpchehlaaDoor
set_option linter.unusedSimpArgs false
set_option linter.unusedVariables false
open Go Go.RowKit
theorem sub_nil {α : Type} {T : Ty α} : Sub (vA (.slice none 0 0)) (slA T []) := fun _ _ h => by
  rw [h.eq]; exact .of ⟨none, 0, 0, rfl, rfl, Nat.le_refl _, Nat.zero_le _, fun _ => rfl, fun h => absurd rfl h⟩
attribute [local irreducible] AW AL AO QY Opd OpdN vA gvA tupA aggA slA slcA ipA rpA EqK LnK IxK LdK FaK FdK
set_option maxRecDepth 100000

def layStep (w : Nat) (s : List Int × Nat) (r : Int) : List Int × Nat := (s.1 ++ [((stepM w s.2 r).1 : Int)], (stepM w s.2 r).2)
def layM (w a : Nat) (l : List Int) : List Int × Nat := l.foldl (layStep w) ([], a)
theorem layM_snoc (w a : Nat) (l : List Int) (k : Nat) (h : k < l.length) : layM w a (l.take (k + 1)) = layStep w (layM w a (l.take k)) l[k] := by
  rw [layM, layM, List.take_succ_eq_append_getElem h, List.foldl_append]; rfl
theorem layM_len (w a : Nat) (l : List Int) (k : Nat) (h : k ≤ l.length) : (layM w a (l.take k)).1.length = k ∧ (layM w a (l.take k)).2 ≤ a + 3 * k := by
  induction k with
  | zero => simp [layM]
  | succ k ih =>
    obtain ⟨i1, i2⟩ := ih (by omega)
    rw [layM_snoc w a l k (by omega)]
    have h1 := wd_le l[k]
    have h2 := fromM_le w (layM w a (l.take k)).2 (wd l[k]) h1.2
    refine ⟨by simp [layStep, i1], ?_⟩
    simp only [layStep, stepM]
    omega
/-- what Lay answers -/
def layR (w a : Int) (l : List Int) : List Int × Int × Int := if chk w a = 0 then (if 500 < l.length then ([], 0, 5) else ((layM w.toNat a.toNat l).1, (layM w.toNat a.toNat l).2, 0)) else ([], 0, chk w a)
def lay3 (x : List Int × Int × Int) : AV := tupA [slA i64T x.1, I x.2.1, I x.2.2]
theorem set_prefix (p : List Int) (n k : Nat) (z : Int) (hp : p.length = k) (h : k < n) : (p ++ List.replicate (n - k) 0).set k z = (p ++ [z]) ++ List.replicate (n - (k + 1)) 0 := by
  have e : n - k = (n - (k + 1)) + 1 := by omega
  subst hp
  rw [e, List.replicate_succ, List.set_append_right _ _ (Nat.le_refl _), Nat.sub_self, List.set_cons_zero, List.append_assoc]; rfl
theorem f_Lay (w a : Int) (l : List Int) : AP Tryd.prog tab0 31 [I w, I a, slA i32T l] (lay3 (layR w a l)) := by
  rcases chk_cases w a with h0 | ⟨w', a', rfl, rfl, hw1, hw2, ha1, h0⟩
  · have c1 := f_check w a
    refine af_intro Tryd.func31 rfl (by decide) Tryd.ntmps31 rfl ?_
    repeat' (first
    | (refine al_es rfl (ao_call rfl (by repeat' (first | exact opds0 | apply opds1 (by first | (refine og rfl ?_; (first | assumption | (refine gd ?_ ?_ <;> assumption) | (refine gd rfl ?_; assumption) | (apply gl; assumption) | (refine gd (by apply gl; assumption) ?_; assumption) | (simp_all; done))) | exact od rfl) | fail)) (f_layer _ _) rfl) rfl rfl (fun _ _ h => by obtain ⟨_, _, h⟩ := h; exact h.elim) ?_; rintro _ _ ⟨_, rfl, ba, bw, rfl, rfl⟩)
      | (refine al_es rfl (ao_callv (Cs := [_, _]) rfl (by first | (refine og rfl ?_; (first | assumption | (refine gd ?_ ?_ <;> assumption) | (refine gd rfl ?_; assumption) | (apply gl; assumption) | (refine gd (by apply gl; assumption) ?_; assumption) | (simp_all; done))) | exact od rfl) (by intro G; exact ⟨Rep.va _ _, Rep.va _ _, trivial⟩) (by repeat' (first | exact opds0 | apply opds1 (by first | (refine og rfl ?_; (first | assumption | (refine gd ?_ ?_ <;> assumption) | (refine gd rfl ?_; assumption) | (apply gl; assumption) | (refine gd (by apply gl; assumption) ?_; assumption) | (simp_all; done))) | exact od rfl) | fail)) (f_layer1 _ _ _ _ _ hw ha) rfl) rfl rfl (fun _ _ h => by obtain ⟨_, _, h⟩ := h; exact h.elim) ?_; rintro _ _ ⟨_, rfl, rfl, rfl⟩)
      | (refine al_es rfl (ao_make rfl un_ el_ (by first | (refine og rfl ?_; (first | assumption | (refine gd ?_ ?_ <;> assumption) | (refine gd rfl ?_; assumption) | (apply gl; assumption) | (refine gd (by apply gl; assumption) ?_; assumption) | (simp_all; done))) | exact odl rfl (by with_reducible rfl) | exact od rfl) (by first | (refine og rfl ?_; (first | assumption | (refine gd ?_ ?_ <;> assumption) | (refine gd rfl ?_; assumption) | (apply gl; assumption) | (refine gd (by apply gl; assumption) ?_; assumption) | (simp_all; done))) | exact odl rfl (by with_reducible rfl) | exact od rfl) (by omega) (by simp only [maxLen]; omega)) rfl rfl (fun _ _ h => h.elim) ?_; rintro _ _ ⟨u, rfl, rfl⟩)
      | (refine al_en rfl (ao_store_row 2 rfl el_int rfl (by first | (refine og rfl ?_; (first | assumption | (refine gd ?_ ?_ <;> assumption) | (refine gd rfl ?_; assumption) | (apply gl; assumption) | (refine gd (by apply gl; assumption) ?_; assumption) | (simp_all; done))) | exact odl rfl (by with_reducible rfl) | exact od rfl) (by simp; omega) (by first | (refine og rfl ?_; (first | assumption | (refine gd ?_ ?_ <;> assumption) | (refine gd rfl ?_; assumption) | (apply gl; assumption) | (refine gd (by apply gl; assumption) ?_; assumption) | (simp_all; done))) | exact odl rfl (by with_reducible rfl) | exact od rfl) (ca_v (by rfl))) rfl (fun _ _ h => h.elim) ?_; rintro _ _ rfl)
    | refine aw_seq ?_
      | refine aw_region0 ?_
      | refine al_nil ?_
      | refine th_n ?_
      | refine th_e ?_
      | refine th_r ?_
      | refine ib_n ?_
      | refine ib_e rfl ?_
      | refine ib_e' rfl ?_
      | refine ib_r ?_
      | refine aw_block ?_
      | refine aw_exit ?_
      | refine aw_ret ?_
      | refine aw_skip ?_
      | refine aw_region1 (by kernel_rfl) (by kernel_rfl) ?_
      | (refine aw_cond rfl ?_ ?_ <;> intro hb <;> (try simp only [decide_eq_true_eq, decide_eq_false_iff_not, Bool.and_eq_true, Bool.or_eq_true, Bool.not_eq_true', Bool.and_eq_false_iff, Bool.or_eq_false_iff, Bool.not_eq_false'] at hb) <;> (first | (exfalso; omega) | skip))
    | (refine al_es rfl (ao_box rfl (by first | exact od rfl | exact og rfl (by assumption)) (by first | exact ca_agg | exact ca_v rfl | exact ca_sl)) rfl rfl (fun _ _ h => h.elim) ?_; rintro _ _ ⟨bb, rfl, rfl⟩)
    | (refine al_es rfl (ao_empty rfl un_ el_) rfl rfl (fun _ _ h => h.elim) ?_; rintro _ _ ⟨u, rfl, rfl⟩)
    | (refine al_es rfl (ao_append 0 rfl un_ el_ (by first | exact od rfl | exact og rfl (by assumption)) rfl (by first | exact od rfl | exact og rfl (by assumption)) (by omega) (by simp only [maxLen]; omega)) rfl rfl (fun _ _ h => h.elim) ?_; rintro _ _ ⟨u, rfl, rfl⟩)
    | (apply al_y
       case hy =>
        first
        | apply qy_plain rfl
        | apply qy_run rfl rfl (guard_b rfl) rfl
        | exact qy_skip rfl rfl (guard_b rfl) rfl
        | (apply qy_gv rfl rfl (by first | exact guard_b rfl | exact guard_gv rfl); intro hk; have hk2 := hk; (try simp only [Bool.true_and, Bool.and_eq_true, Bool.or_eq_true, beq_iff_eq, decide_eq_true_eq, decide_eq_false_iff_not, Bool.not_eq_true', Bool.not_eq_false', Bool.and_eq_false_iff, Bool.or_eq_false_iff] at hk2))
        first
        | fail
        | ((first | apply ay_move rfl | apply ay_assign rfl | apply ay_not rfl | apply ay_lss rfl | apply ay_leq rfl | apply ay_gtr rfl | apply ay_geq rfl | apply k_eql rfl | apply k_neq rfl | apply ay_and rfl | apply ay_or rfl | apply ay_call rfl | apply k_len rfl | apply k_ix rfl | apply k_ld rfl | apply k_fa rfl | apply k_fd rfl | apply ay_build rfl st_ | apply ay_extract rfl | apply ay_slice rfl un_ el_ | apply bs_cell1 rfl un_ | apply bs_cell2 rfl un_ | apply kn_add rfl | apply kn_sub rfl | apply kn_mul rfl | apply kn_quo rfl | apply kn_rem rfl)
         <;> (repeat' (
          first
          | ((first | refine og rfl ?_ | refine ogn rfl ?_); (first | assumption | (refine gd ?_ ?_ <;> assumption) | (refine gd rfl ?_; assumption) | (apply gl; assumption) | (refine gd (by apply gl; assumption) ?_; assumption) | (simp_all; done))) | exact odln rfl (by with_reducible rfl) | exact odn rfl | exact od rfl
          | exact c1
          | exact un_ | exact el_ | exact agg_ | exact sz_ | exact sp_ | exact fl_ | exact st_
          | exact nk_sl un_ | exact nk_row 0 un_ rfl | exact ik_sl un_ el_ (List.getElem?_eq_getElem (by first | omega | (simp; omega))) | exact lk_el el_ | exact lk_1 agg_ | exact ak_ip fl_ sp_ | exact dk_1 fl_ agg_ rfl
          | exact lk_v1 0 agg_ rfl rfl | exact lk_v1 1 agg_ rfl rfl | exact lk_vn 0 agg_ sz_ rfl rfl | exact ak_var fl_ sp_
          | exact ik_row 2 un_ el_ rfl (by simp; omega)
          | exact ek_int | exact ek_bool un_ | exact ek_cell
          | exact fit64 (by omega) (by omega) | exact fit32 (by omega) (by omega) | exact fit8 (by omega) (by omega)
          | exact pa_nil | apply pk | exact ca_agg | exact ca_v rfl | exact ca_sl | exact sc_0 | apply SetC.here | apply SetC.next
          | exact opds0 | apply opds1 | exact lo_none | apply lo_k | exact hi_none | apply hi_k
          | exact rfl | omega | intro hp)); done)
        | ((first | apply ay_add rfl | apply ay_sub rfl | apply ay_mul rfl | apply ay_quo rfl | apply ay_rem rfl)
         <;> first | exact (by first | (refine og rfl ?_; (first | assumption | (refine gd ?_ ?_ <;> assumption) | (refine gd rfl ?_; assumption) | (apply gl; assumption) | (refine gd (by apply gl; assumption) ?_; assumption) | (simp_all; done))) | exact od rfl) | omega | exact (by first | exact fit64 (by omega) (by omega) | exact fit32 (by omega) (by omega) | exact fit8 (by omega) (by omega)))
       case hx => rfl
       case hd => rfl)
    | (refine al_last (by kernel_rfl) ?_)
    | (apply al_freezeF 0 rfl
       case hz => repeat' (first | exact fzf_nil | apply fzf_cons | exact fz_here | apply fz_agg | apply fz_tup | exact fz_keep | exact fzl_nil | apply fzl_cons | fail))
    | fail)
    · refine ⟨_, [], (by first | exact res1 rfl rfl | exact res2 rfl rfl rfl | exact res3 rfl rfl rfl rfl | exact res0 rfl | fail), List.nil_sublist _, ?_, rfl⟩
      simp only [lay3, layR, if_neg h0]
      exact sub_tup (subl1 sub_nil (subl1 (Sub.refl _) (subl1 (Sub.refl _) subl0)))
    all_goals exact absurd hb h0
  · have hw : 2 ≤ w' ∧ w' ≤ 80 := ⟨hw1, hw2⟩
    have c1 : AP Tryd.prog tab0 38 [I w', I a'] (I 0) := h0 ▸ f_check w' a'
    refine af_intro Tryd.func31 rfl (by decide) Tryd.ntmps31 rfl ?_
    repeat' (first
    | (refine al_es rfl (ao_call rfl (by repeat' (first | exact opds0 | apply opds1 (by first | (refine og rfl ?_; (first | assumption | (refine gd ?_ ?_ <;> assumption) | (refine gd rfl ?_; assumption) | (apply gl; assumption) | (refine gd (by apply gl; assumption) ?_; assumption) | (simp_all; done))) | exact od rfl) | fail)) (f_layer _ _) rfl) rfl rfl (fun _ _ h => by obtain ⟨_, _, h⟩ := h; exact h.elim) ?_; rintro _ _ ⟨_, rfl, ba, bw, rfl, rfl⟩)
      | (refine al_es rfl (ao_callv (Cs := [_, _]) rfl (by first | (refine og rfl ?_; (first | assumption | (refine gd ?_ ?_ <;> assumption) | (refine gd rfl ?_; assumption) | (apply gl; assumption) | (refine gd (by apply gl; assumption) ?_; assumption) | (simp_all; done))) | exact od rfl) (by intro G; exact ⟨Rep.va _ _, Rep.va _ _, trivial⟩) (by repeat' (first | exact opds0 | apply opds1 (by first | (refine og rfl ?_; (first | assumption | (refine gd ?_ ?_ <;> assumption) | (refine gd rfl ?_; assumption) | (apply gl; assumption) | (refine gd (by apply gl; assumption) ?_; assumption) | (simp_all; done))) | exact od rfl) | fail)) (f_layer1 _ _ _ _ _ hw ha) rfl) rfl rfl (fun _ _ h => by obtain ⟨_, _, h⟩ := h; exact h.elim) ?_; rintro _ _ ⟨_, rfl, rfl, rfl⟩)
      | (refine al_es rfl (ao_make rfl un_ el_ (by first | (refine og rfl ?_; (first | assumption | (refine gd ?_ ?_ <;> assumption) | (refine gd rfl ?_; assumption) | (apply gl; assumption) | (refine gd (by apply gl; assumption) ?_; assumption) | (simp_all; done))) | exact odl rfl (by with_reducible rfl) | exact od rfl) (by first | (refine og rfl ?_; (first | assumption | (refine gd ?_ ?_ <;> assumption) | (refine gd rfl ?_; assumption) | (apply gl; assumption) | (refine gd (by apply gl; assumption) ?_; assumption) | (simp_all; done))) | exact odl rfl (by with_reducible rfl) | exact od rfl) (by omega) (by simp only [maxLen]; omega)) rfl rfl (fun _ _ h => h.elim) ?_; rintro _ _ ⟨u, rfl, rfl⟩)
      | (refine al_en rfl (ao_store_row 2 rfl el_int rfl (by first | (refine og rfl ?_; (first | assumption | (refine gd ?_ ?_ <;> assumption) | (refine gd rfl ?_; assumption) | (apply gl; assumption) | (refine gd (by apply gl; assumption) ?_; assumption) | (simp_all; done))) | exact odl rfl (by with_reducible rfl) | exact od rfl) (by simp; omega) (by first | (refine og rfl ?_; (first | assumption | (refine gd ?_ ?_ <;> assumption) | (refine gd rfl ?_; assumption) | (apply gl; assumption) | (refine gd (by apply gl; assumption) ?_; assumption) | (simp_all; done))) | exact odl rfl (by with_reducible rfl) | exact od rfl) (ca_v (by rfl))) rfl (fun _ _ h => h.elim) ?_; rintro _ _ rfl)
    | refine aw_seq ?_
      | refine aw_region0 ?_
      | refine al_nil ?_
      | refine th_n ?_
      | refine th_e ?_
      | refine th_r ?_
      | refine ib_n ?_
      | refine ib_e rfl ?_
      | refine ib_e' rfl ?_
      | refine ib_r ?_
      | refine aw_block ?_
      | refine aw_exit ?_
      | refine aw_ret ?_
      | refine aw_skip ?_
      | refine aw_region1 (by kernel_rfl) (by kernel_rfl) ?_
      | (refine aw_cond rfl ?_ ?_ <;> intro hb <;> (try simp only [decide_eq_true_eq, decide_eq_false_iff_not, Bool.and_eq_true, Bool.or_eq_true, Bool.not_eq_true', Bool.and_eq_false_iff, Bool.or_eq_false_iff, Bool.not_eq_false'] at hb) <;> (first | (exfalso; omega) | skip))
    | (refine al_es rfl (ao_box rfl (by first | exact od rfl | exact og rfl (by assumption)) (by first | exact ca_agg | exact ca_v rfl | exact ca_sl)) rfl rfl (fun _ _ h => h.elim) ?_; rintro _ _ ⟨bb, rfl, rfl⟩)
    | (refine al_es rfl (ao_empty rfl un_ el_) rfl rfl (fun _ _ h => h.elim) ?_; rintro _ _ ⟨u, rfl, rfl⟩)
    | (refine al_es rfl (ao_append 0 rfl un_ el_ (by first | exact od rfl | exact og rfl (by assumption)) rfl (by first | exact od rfl | exact og rfl (by assumption)) (by omega) (by simp only [maxLen]; omega)) rfl rfl (fun _ _ h => h.elim) ?_; rintro _ _ ⟨u, rfl, rfl⟩)
    | (apply al_y
       case hy =>
        first
        | apply qy_plain rfl
        | apply qy_run rfl rfl (guard_b rfl) rfl
        | exact qy_skip rfl rfl (guard_b rfl) rfl
        | (apply qy_gv rfl rfl (by first | exact guard_b rfl | exact guard_gv rfl); intro hk; have hk2 := hk; (try simp only [Bool.true_and, Bool.and_eq_true, Bool.or_eq_true, beq_iff_eq, decide_eq_true_eq, decide_eq_false_iff_not, Bool.not_eq_true', Bool.not_eq_false', Bool.and_eq_false_iff, Bool.or_eq_false_iff] at hk2))
        first
        | fail
        | ((first | apply ay_move rfl | apply ay_assign rfl | apply ay_not rfl | apply ay_lss rfl | apply ay_leq rfl | apply ay_gtr rfl | apply ay_geq rfl | apply k_eql rfl | apply k_neq rfl | apply ay_and rfl | apply ay_or rfl | apply ay_call rfl | apply k_len rfl | apply k_ix rfl | apply k_ld rfl | apply k_fa rfl | apply k_fd rfl | apply ay_build rfl st_ | apply ay_extract rfl | apply ay_slice rfl un_ el_ | apply bs_cell1 rfl un_ | apply bs_cell2 rfl un_ | apply kn_add rfl | apply kn_sub rfl | apply kn_mul rfl | apply kn_quo rfl | apply kn_rem rfl)
         <;> (repeat' (
          first
          | ((first | refine og rfl ?_ | refine ogn rfl ?_); (first | assumption | (refine gd ?_ ?_ <;> assumption) | (refine gd rfl ?_; assumption) | (apply gl; assumption) | (refine gd (by apply gl; assumption) ?_; assumption) | (simp_all; done))) | exact odln rfl (by with_reducible rfl) | exact odn rfl | exact od rfl
          | exact c1
          | exact un_ | exact el_ | exact agg_ | exact sz_ | exact sp_ | exact fl_ | exact st_
          | exact nk_sl un_ | exact nk_row 0 un_ rfl | exact ik_sl un_ el_ (List.getElem?_eq_getElem (by first | omega | (simp; omega))) | exact lk_el el_ | exact lk_1 agg_ | exact ak_ip fl_ sp_ | exact dk_1 fl_ agg_ rfl
          | exact lk_v1 0 agg_ rfl rfl | exact lk_v1 1 agg_ rfl rfl | exact lk_vn 0 agg_ sz_ rfl rfl | exact ak_var fl_ sp_
          | exact ik_row 2 un_ el_ rfl (by simp; omega)
          | exact ek_int | exact ek_bool un_ | exact ek_cell
          | exact fit64 (by omega) (by omega) | exact fit32 (by omega) (by omega) | exact fit8 (by omega) (by omega)
          | exact pa_nil | apply pk | exact ca_agg | exact ca_v rfl | exact ca_sl | exact sc_0 | apply SetC.here | apply SetC.next
          | exact opds0 | apply opds1 | exact lo_none | apply lo_k | exact hi_none | apply hi_k
          | exact rfl | omega | intro hp)); done)
        | ((first | apply ay_add rfl | apply ay_sub rfl | apply ay_mul rfl | apply ay_quo rfl | apply ay_rem rfl)
         <;> first | exact (by first | (refine og rfl ?_; (first | assumption | (refine gd ?_ ?_ <;> assumption) | (refine gd rfl ?_; assumption) | (apply gl; assumption) | (refine gd (by apply gl; assumption) ?_; assumption) | (simp_all; done))) | exact od rfl) | omega | exact (by first | exact fit64 (by omega) (by omega) | exact fit32 (by omega) (by omega) | exact fit8 (by omega) (by omega)))
       case hx => rfl
       case hd => rfl)
    | (refine al_last (by kernel_rfl) ?_)
    | (apply al_freezeF 0 rfl
       case hz => repeat' (first | exact fzf_nil | apply fzf_cons | exact fz_here | apply fz_agg | apply fz_tup | exact fz_keep | exact fzl_nil | apply fzl_cons | fail))
    | fail)
    all_goals first | (exfalso; simp at hb; done) | skip
    · refine ⟨_, [], (by first | exact res1 rfl rfl | exact res2 rfl rfl rfl | exact res3 rfl rfl rfl rfl | exact res0 rfl | fail), List.nil_sublist _, ?_, rfl⟩
      have h5 : 500 < l.length := by omega
      simp only [lay3, layR, if_pos h0, if_pos h5]
      exact sub_tup (subl1 sub_nil (subl1 (Sub.refl _) (subl1 (Sub.refl _) subl0)))
    have h5 : l.length ≤ 500 := by omega
    refine aw_ent (ent_perm (M' := [varO ba 3 [I (a' : Nat)], varO bw 3 [I (w' : Nat)], rowO i64T 3 u (List.replicate l.length 0)]) (List.perm_append_comm (l₁ := [varO ba 3 [I (a' : Nat)], varO bw 3 [I (w' : Nat)]]) (l₂ := [rowO i64T 3 u (List.replicate l.length 0)]))) ?_
    refine aw_for3 (fun (k : Nat) (p : List Int) (e : Nat) => [(1, I e), (10, vA (.func (.func 42) #[] [.pointer (some ⟨bw, 0, none⟩), .pointer (some ⟨ba, 0, none⟩)].toArray)), (11, vA u), (29, slA i32T l), (30, I l.length), (31, I k)])
      (fun k p e => [varO ba 3 [I e], varO bw 3 [I (w' : Nat)], rowO i64T 3 u (p ++ List.replicate (l.length - k) 0)]) (fun k p e => k ≤ l.length ∧ (p, e) = layM w' a' (l.take k)) (fun k _ _ => l.length - k) 0 [] a' ⟨Nat.zero_le _, rfl⟩ (by repeat' (first | exact weak_nil | refine weak_cons rfl ?_ | fail)) rfl ?_
    rintro k p e ⟨h1, h2⟩
    have hl := layM_len w' a' l k h1
    rw [← h2] at hl
    obtain ⟨hl1, hl2⟩ := hl
    simp only at hl1 hl2
    have ha : e ≤ 20000 := by omega
    by_cases hlt : k < l.length
    · have hset := set_prefix p l.length k ((stepM w' e l[k]).1 : Int) hl1 hlt
      repeat' (first
      | (refine al_es rfl (ao_call rfl (by repeat' (first | exact opds0 | apply opds1 (by first | (refine og rfl ?_; (first | assumption | (refine gd ?_ ?_ <;> assumption) | (refine gd rfl ?_; assumption) | (apply gl; assumption) | (refine gd (by apply gl; assumption) ?_; assumption) | (simp_all; done))) | exact od rfl) | fail)) (f_layer _ _) rfl) rfl rfl (fun _ _ h => by obtain ⟨_, _, h⟩ := h; exact h.elim) ?_; rintro _ _ ⟨_, rfl, ba, bw, rfl, rfl⟩)
        | (refine al_es rfl (ao_callv (Cs := [_, _]) rfl (by first | (refine og rfl ?_; (first | assumption | (refine gd ?_ ?_ <;> assumption) | (refine gd rfl ?_; assumption) | (apply gl; assumption) | (refine gd (by apply gl; assumption) ?_; assumption) | (simp_all; done))) | exact od rfl) (by intro G; exact ⟨Rep.va _ _, Rep.va _ _, trivial⟩) (by repeat' (first | exact opds0 | apply opds1 (by first | (refine og rfl ?_; (first | assumption | (refine gd ?_ ?_ <;> assumption) | (refine gd rfl ?_; assumption) | (apply gl; assumption) | (refine gd (by apply gl; assumption) ?_; assumption) | (simp_all; done))) | exact od rfl) | fail)) (f_layer1 _ _ _ _ _ hw ha) rfl) rfl rfl (fun _ _ h => by obtain ⟨_, _, h⟩ := h; exact h.elim) ?_; rintro _ _ ⟨_, rfl, rfl, rfl⟩)
        | (refine al_es rfl (ao_make rfl un_ el_ (by first | (refine og rfl ?_; (first | assumption | (refine gd ?_ ?_ <;> assumption) | (refine gd rfl ?_; assumption) | (apply gl; assumption) | (refine gd (by apply gl; assumption) ?_; assumption) | (simp_all; done))) | exact odl rfl (by with_reducible rfl) | exact od rfl) (by first | (refine og rfl ?_; (first | assumption | (refine gd ?_ ?_ <;> assumption) | (refine gd rfl ?_; assumption) | (apply gl; assumption) | (refine gd (by apply gl; assumption) ?_; assumption) | (simp_all; done))) | exact odl rfl (by with_reducible rfl) | exact od rfl) (by omega) (by simp only [maxLen]; omega)) rfl rfl (fun _ _ h => h.elim) ?_; rintro _ _ ⟨u, rfl, rfl⟩)
        | (refine al_en rfl (ao_store_row 2 rfl el_int rfl (by first | (refine og rfl ?_; (first | assumption | (refine gd ?_ ?_ <;> assumption) | (refine gd rfl ?_; assumption) | (apply gl; assumption) | (refine gd (by apply gl; assumption) ?_; assumption) | (simp_all; done))) | exact odl rfl (by with_reducible rfl) | exact od rfl) (by simp; omega) (by first | (refine og rfl ?_; (first | assumption | (refine gd ?_ ?_ <;> assumption) | (refine gd rfl ?_; assumption) | (apply gl; assumption) | (refine gd (by apply gl; assumption) ?_; assumption) | (simp_all; done))) | exact odl rfl (by with_reducible rfl) | exact od rfl) (ca_v (by rfl))) rfl (fun _ _ h => h.elim) ?_; rintro _ _ rfl)
      | refine aw_seq ?_
        | refine aw_region0 ?_
        | refine al_nil ?_
        | refine th_n ?_
        | refine th_e ?_
        | refine th_r ?_
        | refine ib_n ?_
        | refine ib_e rfl ?_
        | refine ib_e' rfl ?_
        | refine ib_r ?_
        | refine aw_block ?_
        | refine aw_exit ?_
        | refine aw_ret ?_
        | refine aw_skip ?_
        | refine aw_region1 (by kernel_rfl) (by kernel_rfl) ?_
        | (refine aw_cond rfl ?_ ?_ <;> intro hb <;> (try simp only [decide_eq_true_eq, decide_eq_false_iff_not, Bool.and_eq_true, Bool.or_eq_true, Bool.not_eq_true', Bool.and_eq_false_iff, Bool.or_eq_false_iff, Bool.not_eq_false'] at hb) <;> (first | (exfalso; omega) | skip))
      | (refine al_es rfl (ao_box rfl (by first | exact od rfl | exact og rfl (by assumption)) (by first | exact ca_agg | exact ca_v rfl | exact ca_sl)) rfl rfl (fun _ _ h => h.elim) ?_; rintro _ _ ⟨bb, rfl, rfl⟩)
      | (refine al_es rfl (ao_empty rfl un_ el_) rfl rfl (fun _ _ h => h.elim) ?_; rintro _ _ ⟨u, rfl, rfl⟩)
      | (refine al_es rfl (ao_append 0 rfl un_ el_ (by first | exact od rfl | exact og rfl (by assumption)) rfl (by first | exact od rfl | exact og rfl (by assumption)) (by omega) (by simp only [maxLen]; omega)) rfl rfl (fun _ _ h => h.elim) ?_; rintro _ _ ⟨u, rfl, rfl⟩)
      | (apply al_y
         case hy =>
          first
          | apply qy_plain rfl
          | apply qy_run rfl rfl (guard_b rfl) rfl
          | exact qy_skip rfl rfl (guard_b rfl) rfl
          | (apply qy_gv rfl rfl (by first | exact guard_b rfl | exact guard_gv rfl); intro hk; have hk2 := hk; (try simp only [Bool.true_and, Bool.and_eq_true, Bool.or_eq_true, beq_iff_eq, decide_eq_true_eq, decide_eq_false_iff_not, Bool.not_eq_true', Bool.not_eq_false', Bool.and_eq_false_iff, Bool.or_eq_false_iff] at hk2))
          first
          | fail
          | ((first | apply ay_move rfl | apply ay_assign rfl | apply ay_not rfl | apply ay_lss rfl | apply ay_leq rfl | apply ay_gtr rfl | apply ay_geq rfl | apply k_eql rfl | apply k_neq rfl | apply ay_and rfl | apply ay_or rfl | apply ay_call rfl | apply k_len rfl | apply k_ix rfl | apply k_ld rfl | apply k_fa rfl | apply k_fd rfl | apply ay_build rfl st_ | apply ay_extract rfl | apply ay_slice rfl un_ el_ | apply bs_cell1 rfl un_ | apply bs_cell2 rfl un_ | apply kn_add rfl | apply kn_sub rfl | apply kn_mul rfl | apply kn_quo rfl | apply kn_rem rfl)
           <;> (repeat' (
            first
            | ((first | refine og rfl ?_ | refine ogn rfl ?_); (first | assumption | (refine gd ?_ ?_ <;> assumption) | (refine gd rfl ?_; assumption) | (apply gl; assumption) | (refine gd (by apply gl; assumption) ?_; assumption) | (simp_all; done))) | exact odln rfl (by with_reducible rfl) | exact odn rfl | exact od rfl
            | exact c1
            | exact un_ | exact el_ | exact agg_ | exact sz_ | exact sp_ | exact fl_ | exact st_
            | exact nk_sl un_ | exact nk_row 0 un_ rfl | exact ik_sl un_ el_ (List.getElem?_eq_getElem (by first | omega | (simp; omega))) | exact lk_el el_ | exact lk_1 agg_ | exact ak_ip fl_ sp_ | exact dk_1 fl_ agg_ rfl
            | exact lk_v1 0 agg_ rfl rfl | exact lk_v1 1 agg_ rfl rfl | exact lk_vn 0 agg_ sz_ rfl rfl | exact ak_var fl_ sp_
            | exact ik_row 2 un_ el_ rfl (by simp; omega)
            | exact ek_int | exact ek_bool un_ | exact ek_cell
            | exact fit64 (by omega) (by omega) | exact fit32 (by omega) (by omega) | exact fit8 (by omega) (by omega)
            | exact pa_nil | apply pk | exact ca_agg | exact ca_v rfl | exact ca_sl | exact sc_0 | apply SetC.here | apply SetC.next
            | exact opds0 | apply opds1 | exact lo_none | apply lo_k | exact hi_none | apply hi_k
            | exact rfl | omega | intro hp)); done)
          | ((first | apply ay_add rfl | apply ay_sub rfl | apply ay_mul rfl | apply ay_quo rfl | apply ay_rem rfl)
           <;> first | exact (by first | (refine og rfl ?_; (first | assumption | (refine gd ?_ ?_ <;> assumption) | (refine gd rfl ?_; assumption) | (apply gl; assumption) | (refine gd (by apply gl; assumption) ?_; assumption) | (simp_all; done))) | exact od rfl) | omega | exact (by first | exact fit64 (by omega) (by omega) | exact fit32 (by omega) (by omega) | exact fit8 (by omega) (by omega)))
         case hx => rfl
         case hd => rfl)
      | (refine al_last (by kernel_rfl) ?_)
      | (apply al_freezeF 0 rfl
         case hz => repeat' (first | exact fzf_nil | apply fzf_cons | exact fz_here | apply fz_agg | apply fz_tup | exact fz_keep | exact fzl_nil | apply fzl_cons | fail))
      | fail)
      refine ⟨k + 1, p ++ [((stepM w' e l[k]).1 : Int)], (stepM w' e l[k]).2, ⟨by omega, ?_⟩, by omega, (by repeat' (first | exact weak_nil | refine weak_cons rfl ?_ | fail)), by rw [← hset]; rfl⟩
      rw [layM_snoc w' a' l k hlt, ← h2]; rfl
    · apply aw_freezeF 2 rfl
      case hz => repeat' (first | exact fzf_nil | apply fzf_cons | exact fz_here | exact fz_keep)
      repeat' (first
      | (refine al_es rfl (ao_call rfl (by repeat' (first | exact opds0 | apply opds1 (by first | (refine og rfl ?_; (first | assumption | (refine gd ?_ ?_ <;> assumption) | (refine gd rfl ?_; assumption) | (apply gl; assumption) | (refine gd (by apply gl; assumption) ?_; assumption) | (simp_all; done))) | exact od rfl) | fail)) (f_layer _ _) rfl) rfl rfl (fun _ _ h => by obtain ⟨_, _, h⟩ := h; exact h.elim) ?_; rintro _ _ ⟨_, rfl, ba, bw, rfl, rfl⟩)
        | (refine al_es rfl (ao_callv (Cs := [_, _]) rfl (by first | (refine og rfl ?_; (first | assumption | (refine gd ?_ ?_ <;> assumption) | (refine gd rfl ?_; assumption) | (apply gl; assumption) | (refine gd (by apply gl; assumption) ?_; assumption) | (simp_all; done))) | exact od rfl) (by intro G; exact ⟨Rep.va _ _, Rep.va _ _, trivial⟩) (by repeat' (first | exact opds0 | apply opds1 (by first | (refine og rfl ?_; (first | assumption | (refine gd ?_ ?_ <;> assumption) | (refine gd rfl ?_; assumption) | (apply gl; assumption) | (refine gd (by apply gl; assumption) ?_; assumption) | (simp_all; done))) | exact od rfl) | fail)) (f_layer1 _ _ _ _ _ hw ha) rfl) rfl rfl (fun _ _ h => by obtain ⟨_, _, h⟩ := h; exact h.elim) ?_; rintro _ _ ⟨_, rfl, rfl, rfl⟩)
        | (refine al_es rfl (ao_make rfl un_ el_ (by first | (refine og rfl ?_; (first | assumption | (refine gd ?_ ?_ <;> assumption) | (refine gd rfl ?_; assumption) | (apply gl; assumption) | (refine gd (by apply gl; assumption) ?_; assumption) | (simp_all; done))) | exact odl rfl (by with_reducible rfl) | exact od rfl) (by first | (refine og rfl ?_; (first | assumption | (refine gd ?_ ?_ <;> assumption) | (refine gd rfl ?_; assumption) | (apply gl; assumption) | (refine gd (by apply gl; assumption) ?_; assumption) | (simp_all; done))) | exact odl rfl (by with_reducible rfl) | exact od rfl) (by omega) (by simp only [maxLen]; omega)) rfl rfl (fun _ _ h => h.elim) ?_; rintro _ _ ⟨u, rfl, rfl⟩)
        | (refine al_en rfl (ao_store_row 2 rfl el_int rfl (by first | (refine og rfl ?_; (first | assumption | (refine gd ?_ ?_ <;> assumption) | (refine gd rfl ?_; assumption) | (apply gl; assumption) | (refine gd (by apply gl; assumption) ?_; assumption) | (simp_all; done))) | exact odl rfl (by with_reducible rfl) | exact od rfl) (by simp; omega) (by first | (refine og rfl ?_; (first | assumption | (refine gd ?_ ?_ <;> assumption) | (refine gd rfl ?_; assumption) | (apply gl; assumption) | (refine gd (by apply gl; assumption) ?_; assumption) | (simp_all; done))) | exact odl rfl (by with_reducible rfl) | exact od rfl) (ca_v (by rfl))) rfl (fun _ _ h => h.elim) ?_; rintro _ _ rfl)
      | refine aw_seq ?_
        | refine aw_region0 ?_
        | refine al_nil ?_
        | refine th_n ?_
        | refine th_e ?_
        | refine th_r ?_
        | refine ib_n ?_
        | refine ib_e rfl ?_
        | refine ib_e' rfl ?_
        | refine ib_r ?_
        | refine aw_block ?_
        | refine aw_exit ?_
        | refine aw_ret ?_
        | refine aw_skip ?_
        | refine aw_region1 (by kernel_rfl) (by kernel_rfl) ?_
        | (refine aw_cond rfl ?_ ?_ <;> intro hb <;> (try simp only [decide_eq_true_eq, decide_eq_false_iff_not, Bool.and_eq_true, Bool.or_eq_true, Bool.not_eq_true', Bool.and_eq_false_iff, Bool.or_eq_false_iff, Bool.not_eq_false'] at hb) <;> (first | (exfalso; omega) | skip))
      | (refine al_es rfl (ao_box rfl (by first | exact od rfl | exact og rfl (by assumption)) (by first | exact ca_agg | exact ca_v rfl | exact ca_sl)) rfl rfl (fun _ _ h => h.elim) ?_; rintro _ _ ⟨bb, rfl, rfl⟩)
      | (refine al_es rfl (ao_empty rfl un_ el_) rfl rfl (fun _ _ h => h.elim) ?_; rintro _ _ ⟨u, rfl, rfl⟩)
      | (refine al_es rfl (ao_append 0 rfl un_ el_ (by first | exact od rfl | exact og rfl (by assumption)) rfl (by first | exact od rfl | exact og rfl (by assumption)) (by omega) (by simp only [maxLen]; omega)) rfl rfl (fun _ _ h => h.elim) ?_; rintro _ _ ⟨u, rfl, rfl⟩)
      | (apply al_y
         case hy =>
          first
          | apply qy_plain rfl
          | apply qy_run rfl rfl (guard_b rfl) rfl
          | exact qy_skip rfl rfl (guard_b rfl) rfl
          | (apply qy_gv rfl rfl (by first | exact guard_b rfl | exact guard_gv rfl); intro hk; have hk2 := hk; (try simp only [Bool.true_and, Bool.and_eq_true, Bool.or_eq_true, beq_iff_eq, decide_eq_true_eq, decide_eq_false_iff_not, Bool.not_eq_true', Bool.not_eq_false', Bool.and_eq_false_iff, Bool.or_eq_false_iff] at hk2))
          first
          | fail
          | ((first | apply ay_move rfl | apply ay_assign rfl | apply ay_not rfl | apply ay_lss rfl | apply ay_leq rfl | apply ay_gtr rfl | apply ay_geq rfl | apply k_eql rfl | apply k_neq rfl | apply ay_and rfl | apply ay_or rfl | apply ay_call rfl | apply k_len rfl | apply k_ix rfl | apply k_ld rfl | apply k_fa rfl | apply k_fd rfl | apply ay_build rfl st_ | apply ay_extract rfl | apply ay_slice rfl un_ el_ | apply bs_cell1 rfl un_ | apply bs_cell2 rfl un_ | apply kn_add rfl | apply kn_sub rfl | apply kn_mul rfl | apply kn_quo rfl | apply kn_rem rfl)
           <;> (repeat' (
            first
            | ((first | refine og rfl ?_ | refine ogn rfl ?_); (first | assumption | (refine gd ?_ ?_ <;> assumption) | (refine gd rfl ?_; assumption) | (apply gl; assumption) | (refine gd (by apply gl; assumption) ?_; assumption) | (simp_all; done))) | exact odln rfl (by with_reducible rfl) | exact odn rfl | exact od rfl
            | exact c1
            | exact un_ | exact el_ | exact agg_ | exact sz_ | exact sp_ | exact fl_ | exact st_
            | exact nk_sl un_ | exact nk_row 0 un_ rfl | exact ik_sl un_ el_ (List.getElem?_eq_getElem (by first | omega | (simp; omega))) | exact lk_el el_ | exact lk_1 agg_ | exact ak_ip fl_ sp_ | exact dk_1 fl_ agg_ rfl
            | exact lk_v1 0 agg_ rfl rfl | exact lk_v1 1 agg_ rfl rfl | exact lk_vn 0 agg_ sz_ rfl rfl | exact ak_var fl_ sp_
            | exact ik_row 2 un_ el_ rfl (by simp; omega)
            | exact ek_int | exact ek_bool un_ | exact ek_cell
            | exact fit64 (by omega) (by omega) | exact fit32 (by omega) (by omega) | exact fit8 (by omega) (by omega)
            | exact pa_nil | apply pk | exact ca_agg | exact ca_v rfl | exact ca_sl | exact sc_0 | apply SetC.here | apply SetC.next
            | exact opds0 | apply opds1 | exact lo_none | apply lo_k | exact hi_none | apply hi_k
            | exact rfl | omega | intro hp)); done)
          | ((first | apply ay_add rfl | apply ay_sub rfl | apply ay_mul rfl | apply ay_quo rfl | apply ay_rem rfl)
           <;> first | exact (by first | (refine og rfl ?_; (first | assumption | (refine gd ?_ ?_ <;> assumption) | (refine gd rfl ?_; assumption) | (apply gl; assumption) | (refine gd (by apply gl; assumption) ?_; assumption) | (simp_all; done))) | exact od rfl) | omega | exact (by first | exact fit64 (by omega) (by omega) | exact fit32 (by omega) (by omega) | exact fit8 (by omega) (by omega)))
         case hx => rfl
         case hd => rfl)
      | (refine al_last (by kernel_rfl) ?_)
      | (apply al_freezeF 0 rfl
         case hz => repeat' (first | exact fzf_nil | apply fzf_cons | exact fz_here | apply fz_agg | apply fz_tup | exact fz_keep | exact fzl_nil | apply fzl_cons | fail))
      | fail)
      refine ⟨_, [], (by first | exact res1 rfl rfl | exact res2 rfl rfl rfl | exact res3 rfl rfl rfl rfl | exact res0 rfl | fail), List.nil_sublist _, Sub.eq ?_, rfl⟩
      have h6 : ¬ 500 < l.length := by omega
      have h7 : l.length - k = 0 := by omega
      rw [List.take_of_length_le (by omega)] at h2
      simp only [lay3, layR, if_pos h0, if_neg h6, Int.toNat_natCast, h7, ← h2]
      simp
end Go.Proofs.YtdnoealpchehlaaDoor
