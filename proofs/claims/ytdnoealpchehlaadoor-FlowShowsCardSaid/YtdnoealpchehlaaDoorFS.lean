/- Layer 4 (flow): each sign's cells are where it is laid, and all else is blank. No condition. -/
import Derived.Test.YtdnoealpchehlaaDoorFC
namespace Go.Proofs.YtdnoealpchehlaaDoor
set_option linter.unusedSimpArgs false
set_option linter.unusedVariables false
open Go Go.RowKit
attribute [local irreducible] AW AL AO QY Opd OpdN vA gvA tupA aggA slA slcA ipA rpA EqK LnK IxK LdK FaK FdK
set_option maxRecDepth 100000

def bl (c : List Cell) : Nat := c.countP fun x => decide (x = ((32, 0) : Cell))
def spn (l : List Int) : Nat := l.countP fun x => decide (x = 32)
theorem bl_cellsM (r : Int) : bl (cellsM r) = if r = 32 then 1 else 0 := by
  unfold cellsM
  by_cases h : r = 32
  · subst h; decide
  · rw [if_neg h]
    split
    · rename_i hc
      have hx : (if r = 127 then 63 else r + 64) ≠ (32 : Int) := by
        simp [ctl] at hc
        split <;> omega
      simp [bl, hx]
    · split
      · split <;> simp [bl, h]
      · simp [bl]
theorem flow_bl (w a : Nat) (l : List Int) (k : Nat) (h : k ≤ l.length) : ∃ d, bl (flowM w a (l.take k)).1 = spn (l.take k) + d ∧ (flowM w a (l.take k)).1.length = (rowM (l.take k)).length + d := by
  induction k with
  | zero => exact ⟨0, by simp [flowM, bl, spn, rowM]⟩
  | succ k ih =>
    obtain ⟨d, i1, i2⟩ := ih (by omega)
    refine ⟨d + ((stepM w (flowM w a (l.take k)).2 l[k]).1 - (flowM w a (l.take k)).2), ?_⟩
    have hb := bl_cellsM l[k]
    rw [flowM_snoc w a l k (by omega), rowM_snoc l k (by omega), List.take_succ_eq_append_getElem (show k < l.length by omega)]
    simp only [cellStep, bl, spn, List.countP_append, List.length_append, List.length_replicate] at i1 hb ⊢
    have h1 : List.countP (fun x => decide (x = ((32, 0) : Cell))) (List.replicate ((stepM w (flowM w a (l.take k)).2 l[k]).1 - (flowM w a (l.take k)).2) ((32, 0) : Cell)) = (stepM w (flowM w a (l.take k)).2 l[k]).1 - (flowM w a (l.take k)).2 := by simp [List.countP_replicate]
    have h2 : List.countP (fun x => decide (x = (32 : Int))) [l[k]] = if l[k] = 32 then 1 else 0 := by simp [List.countP_cons]
    rw [h1, h2, hb]
    omega
theorem flow_pre (w a : Nat) (l : List Int) (k : Nat) : ∀ m, k ≤ m → m ≤ l.length → ∃ rest, (flowM w a (l.take m)).1 = (flowM w a (l.take k)).1 ++ rest := by
  intro m
  induction m with
  | zero => intro h _; obtain rfl : k = 0 := by omega
            exact ⟨[], by simp⟩
  | succ m ih =>
    intro h h2
    by_cases hk : k = m + 1
    · subst hk; exact ⟨[], by simp⟩
    · obtain ⟨rest, hr⟩ := ih (by omega) (by omega)
      rw [flowM_snoc w a l m (by omega)]
      simp only [cellStep, hr, List.append_assoc]
      exact ⟨_, rfl⟩
/-- where a sign's cells stand -/
theorem flow_seg (w a : Nat) (l : List Int) (k : Nat) (h : k < l.length) : ∃ e f, (layM w a (l.take k)).2 = e ∧ f = (stepM w e l[k]).1 ∧ a ≤ f ∧ f + wd l[k] ≤ (layM w a l).2 ∧ (((flowM w a l).1.drop (f - a)).take (wd l[k])) = cellsM l[k] := by
  obtain ⟨g1, g2⟩ := layM_mono w a l k h
  obtain ⟨i1, i2⟩ := flowM_lay w a l k (by omega)
  obtain ⟨j1, j2⟩ := flowM_lay w a l (k + 1) (by omega)
  obtain ⟨m1, m2⟩ := flowM_lay w a l l.length (Nat.le_refl _)
  obtain ⟨rest, hr⟩ := flow_pre w a l (k + 1) l.length (by omega) (Nat.le_refl _)
  rw [List.take_of_length_le (Nat.le_refl _)] at hr m1 m2
  refine ⟨_, _, rfl, rfl, by omega, ?_, ?_⟩
  · have hs : (stepM w (layM w a (l.take k)).2 l[k]).1 + wd l[k] = (layM w a (l.take (k + 1))).2 := g2
    have hl : (flowM w a (l.take (k + 1))).1.length ≤ (flowM w a l).1.length := by rw [hr, List.length_append]; omega
    omega
  · rw [hr, flowM_snoc w a l k h]
    simp only [cellStep]
    have e1 : (stepM w (layM w a (l.take k)).2 l[k]).1 - a = ((flowM w a (l.take k)).1 ++ List.replicate ((stepM w (flowM w a (l.take k)).2 l[k]).1 - (flowM w a (l.take k)).2) ((32, 0) : Cell)).length := by
      simp only [List.length_append, List.length_replicate, i1]; omega
    rw [e1, List.append_assoc, List.drop_left]
    exact List.take_left (l₁ := cellsM l[k])
set_option maxHeartbeats 1000000 in
theorem shows_ok (w a e : Nat) (l p : List Int) (c : List Cell) (hw : 2 ≤ w ∧ w ≤ 80) (ha : a ≤ 9999) (h5 : l.length ≤ 500) (hp : p.length = l.length) (hc : c.length + a = e) (he : e ≤ a + 3 * l.length) (d : Nat) (hd1 : bl c = spn l + d) (hd2 : c.length = (rowM l).length + d)
    (hseg : ∀ k (h : k < l.length), ∃ f : Nat, p[k]? = some (f : Int) ∧ a ≤ f ∧ f + wd l[k] ≤ e ∧ (c.drop (f - a)).take (wd l[k]) = cellsM l[k])
    (c1 : AP Tryd.prog tab0 31 [I w, I a, slA i32T l] (tupA [slA i64T p, I e, I 0])) (c2 : AP Tryd.prog tab0 34 [I w, I a, slA i32T l] (tupA [slA cellT c, I 0])) :
    AP Tryd.prog tab0 13 [I w, I a, slA i32T l] (B true) := by
  refine af_intro Tryd.func13 rfl (by decide) Tryd.ntmps13 rfl ?_
  repeat' (first
  | fail
  | refine aw_seq ?_
    | refine aw_region0 ?_
    | refine al_nil ?_
    | refine th_n ?_
    | refine th_e ?_
    | refine th_r ?_
    | refine ib_n ?_
    | refine ib_e rfl ?_
    | refine ib_e' rfl ?_
    | refine ib_r ?_
    | refine aw_block ?_
    | refine aw_exit ?_
    | refine aw_ret ?_
    | refine aw_skip ?_
    | refine aw_region1 (by kernel_rfl) (by kernel_rfl) ?_
    | (refine aw_cond rfl ?_ ?_ <;> intro hb <;> (try simp only [decide_eq_true_eq, decide_eq_false_iff_not, Bool.and_eq_true, Bool.or_eq_true, Bool.not_eq_true', Bool.and_eq_false_iff, Bool.or_eq_false_iff, Bool.not_eq_false'] at hb) <;> (first | (exfalso; omega) | skip))
  | (refine al_es rfl (ao_box rfl (by first | exact od rfl | exact og rfl (by assumption)) (by first | exact ca_agg | exact ca_v rfl | exact ca_sl)) rfl rfl (fun _ _ h => h.elim) ?_; rintro _ _ ⟨bb, rfl, rfl⟩)
  | (refine al_es rfl (ao_empty rfl un_ el_) rfl rfl (fun _ _ h => h.elim) ?_; rintro _ _ ⟨u, rfl, rfl⟩)
  | (refine al_es rfl (ao_append 0 rfl un_ el_ (by first | exact od rfl | exact og rfl (by assumption)) rfl (by first | exact od rfl | exact og rfl (by assumption)) ?h1 ?h2) rfl rfl (fun _ _ h => h.elim) ?_
     case h1 => (try simp only [List.length_append, List.length_nil, List.length_cons, List.nil_append, List.length_replicate]); omega
     case h2 => (try simp only [List.length_append, List.length_nil, List.length_cons, List.nil_append, List.length_replicate]); simp only [maxLen]; omega
     rintro _ _ ⟨u, rfl, rfl⟩)
  | (apply al_y
     case hy =>
      first
      | apply qy_plain rfl
      | apply qy_run rfl rfl (guard_b rfl) rfl
      | exact qy_skip rfl rfl (guard_b rfl) rfl
      | (apply qy_gv rfl rfl (by first | exact guard_b rfl | exact guard_gv rfl); intro hk; have hk2 := hk; (try simp only [Bool.true_and, Bool.and_eq_true, Bool.or_eq_true, beq_iff_eq, decide_eq_true_eq, decide_eq_false_iff_not, Bool.not_eq_true', Bool.not_eq_false', Bool.and_eq_false_iff, Bool.or_eq_false_iff] at hk2))
      first
      | fail
      | ((first | apply ay_move rfl | apply ay_assign rfl | apply ay_not rfl | apply ay_lss rfl | apply ay_leq rfl | apply ay_gtr rfl | apply ay_geq rfl | apply k_eql rfl | apply k_neq rfl | apply ay_and rfl | apply ay_or rfl | apply ay_call rfl | apply k_len rfl | apply k_ix rfl | apply k_ld rfl | apply k_fa rfl | apply k_fd rfl | apply ay_build rfl st_ | apply ay_extract rfl | apply ay_slice rfl un_ el_ | apply bs_cell1 rfl un_ | apply bs_cell2 rfl un_ | apply kn_add rfl | apply kn_sub rfl | apply kn_mul rfl | apply kn_quo rfl | apply kn_rem rfl)
       <;> (repeat' (
        first
        | ((first | refine og rfl ?_ | refine ogn rfl ?_); (first | assumption | (refine gd ?_ ?_ <;> assumption) | (refine gd rfl ?_; assumption) | (apply gl; assumption) | (refine gd (by apply gl; assumption) ?_; assumption) | (simp_all; done))) | exact odln rfl (by with_reducible rfl) | exact odn rfl | exact od rfl
        | exact f_flows | exact c1 | exact c2 | exact c3 | exact c4 | exact c5
        | exact un_ | exact el_ | exact agg_ | exact sz_ | exact sp_ | exact fl_ | exact st_
        | exact nk_sl un_ | exact nk_row 0 un_ rfl | exact ik_sl un_ el_ (by first | exact hat | exact List.getElem?_eq_getElem (by first | omega | (simp; omega)) | exact get_in (by first | omega | (simp; omega))) | exact lk_el el_ | exact lk_1 agg_ | exact ak_ip fl_ sp_ | exact dk_1 fl_ agg_ rfl
        | exact lk_v1 0 agg_ rfl rfl | exact lk_v1 1 agg_ rfl rfl | exact lk_vn 0 agg_ sz_ rfl rfl | exact ak_var fl_ sp_
        | fail
        | exact ek_int | exact ek_bool un_ | exact ek_cell
        | exact fit64 (by omega) (by omega) | exact fit32 (by omega) (by omega) | exact fit8 (by omega) (by omega)
        | exact pa_nil | apply pk | exact ca_agg | exact ca_v rfl | exact ca_sl | exact sc_0 | apply SetC.here | apply SetC.next
        | exact opds0 | apply opds1 | exact lo_none | apply lo_k | exact hi_none | apply hi_k
        | exact rfl | omega | intro hp)); done)
      | ((first | apply ay_add rfl | apply ay_sub rfl | apply ay_mul rfl | apply ay_quo rfl | apply ay_rem rfl)
       <;> first | exact (by first | (refine og rfl ?_; (first | assumption | (refine gd ?_ ?_ <;> assumption) | (refine gd rfl ?_; assumption) | (apply gl; assumption) | (refine gd (by apply gl; assumption) ?_; assumption) | (simp_all; done))) | exact od rfl) | omega | exact (by first | exact fit64 (by omega) (by omega) | exact fit32 (by omega) (by omega) | exact fit8 (by omega) (by omega)))
     case hx => rfl
     case hd => rfl)
  | (refine al_last (by kernel_rfl) ?_)
  | (apply al_freezeF 0 rfl
     case hz => repeat' (first | exact fzf_nil | apply fzf_cons | exact fz_here | apply fz_agg | apply fz_tup | exact fz_keep | exact fzl_nil | apply fzl_cons | fail))
  | fail)
  all_goals first | (exfalso; simp at hb; done) | (exfalso; omega) | skip
  have hb0 : bl c ≤ c.length := List.countP_le_length
  have hrow := rowM_len l
  have c5 : AP Tryd.prog tab0 26 [slA i32T l] (slA cellT (rowM l)) := f_Row l (by omega)
  refine aw_for2 (fun i n : Nat => [(1, I (a : Nat)), (2, slA i32T l), (7, slA i64T p), (8, I (e : Nat)), (10, slA cellT c), (12, I n), (13, I i)]) (fun _ _ => []) (fun i n => i ≤ c.length ∧ n = bl (c.take i)) (fun i _ => c.length - i) 0 0 ⟨Nat.zero_le _, rfl⟩ (by repeat' (first | exact weak_nil | refine weak_cons rfl ?_ | fail)) rfl ?_
  rintro i n ⟨h1, h2⟩
  have hn : n ≤ i := by
    have : bl (c.take i) ≤ (c.take i).length := List.countP_le_length
    rw [List.length_take] at this; omega
  by_cases hlt : i < c.length
  · have hsn : bl (c.take (i + 1)) = bl (c.take i) + if c[i] = (32, 0) then 1 else 0 := by
      rw [List.take_succ_eq_append_getElem hlt]; simp only [bl, List.countP_append, List.countP_cons, List.countP_nil]
      by_cases hc : c[i] = (32, 0) <;> simp [hc]
    repeat' (first
    | fail
    | refine aw_seq ?_
      | refine aw_region0 ?_
      | refine al_nil ?_
      | refine th_n ?_
      | refine th_e ?_
      | refine th_r ?_
      | refine ib_n ?_
      | refine ib_e rfl ?_
      | refine ib_e' rfl ?_
      | refine ib_r ?_
      | refine aw_block ?_
      | refine aw_exit ?_
      | refine aw_ret ?_
      | refine aw_skip ?_
      | refine aw_region1 (by kernel_rfl) (by kernel_rfl) ?_
      | (refine aw_cond rfl ?_ ?_ <;> intro hb <;> (try simp only [decide_eq_true_eq, decide_eq_false_iff_not, Bool.and_eq_true, Bool.or_eq_true, Bool.not_eq_true', Bool.and_eq_false_iff, Bool.or_eq_false_iff, Bool.not_eq_false'] at hb) <;> (first | (exfalso; omega) | skip))
    | (refine al_es rfl (ao_box rfl (by first | exact od rfl | exact og rfl (by assumption)) (by first | exact ca_agg | exact ca_v rfl | exact ca_sl)) rfl rfl (fun _ _ h => h.elim) ?_; rintro _ _ ⟨bb, rfl, rfl⟩)
    | (refine al_es rfl (ao_empty rfl un_ el_) rfl rfl (fun _ _ h => h.elim) ?_; rintro _ _ ⟨u, rfl, rfl⟩)
    | (refine al_es rfl (ao_append 0 rfl un_ el_ (by first | exact od rfl | exact og rfl (by assumption)) rfl (by first | exact od rfl | exact og rfl (by assumption)) ?h1 ?h2) rfl rfl (fun _ _ h => h.elim) ?_
       case h1 => (try simp only [List.length_append, List.length_nil, List.length_cons, List.nil_append, List.length_replicate]); omega
       case h2 => (try simp only [List.length_append, List.length_nil, List.length_cons, List.nil_append, List.length_replicate]); simp only [maxLen]; omega
       rintro _ _ ⟨u, rfl, rfl⟩)
    | (apply al_y
       case hy =>
        first
        | apply qy_plain rfl
        | apply qy_run rfl rfl (guard_b rfl) rfl
        | exact qy_skip rfl rfl (guard_b rfl) rfl
        | (apply qy_gv rfl rfl (by first | exact guard_b rfl | exact guard_gv rfl); intro hk; have hk2 := hk; (try simp only [Bool.true_and, Bool.and_eq_true, Bool.or_eq_true, beq_iff_eq, decide_eq_true_eq, decide_eq_false_iff_not, Bool.not_eq_true', Bool.not_eq_false', Bool.and_eq_false_iff, Bool.or_eq_false_iff] at hk2))
        first
        | fail
        | ((first | apply ay_move rfl | apply ay_assign rfl | apply ay_not rfl | apply ay_lss rfl | apply ay_leq rfl | apply ay_gtr rfl | apply ay_geq rfl | apply k_eql rfl | apply k_neq rfl | apply ay_and rfl | apply ay_or rfl | apply ay_call rfl | apply k_len rfl | apply k_ix rfl | apply k_ld rfl | apply k_fa rfl | apply k_fd rfl | apply ay_build rfl st_ | apply ay_extract rfl | apply ay_slice rfl un_ el_ | apply bs_cell1 rfl un_ | apply bs_cell2 rfl un_ | apply kn_add rfl | apply kn_sub rfl | apply kn_mul rfl | apply kn_quo rfl | apply kn_rem rfl)
         <;> (repeat' (
          first
          | ((first | refine og rfl ?_ | refine ogn rfl ?_); (first | assumption | (refine gd ?_ ?_ <;> assumption) | (refine gd rfl ?_; assumption) | (apply gl; assumption) | (refine gd (by apply gl; assumption) ?_; assumption) | (simp_all; done))) | exact odln rfl (by with_reducible rfl) | exact odn rfl | exact od rfl
          | exact f_flows | exact c1 | exact c2 | exact c3 | exact c4 | exact c5
          | exact un_ | exact el_ | exact agg_ | exact sz_ | exact sp_ | exact fl_ | exact st_
          | exact nk_sl un_ | exact nk_row 0 un_ rfl | exact ik_sl un_ el_ (by first | exact hat | exact List.getElem?_eq_getElem (by first | omega | (simp; omega)) | exact get_in (by first | omega | (simp; omega))) | exact lk_el el_ | exact lk_1 agg_ | exact ak_ip fl_ sp_ | exact dk_1 fl_ agg_ rfl
          | exact lk_v1 0 agg_ rfl rfl | exact lk_v1 1 agg_ rfl rfl | exact lk_vn 0 agg_ sz_ rfl rfl | exact ak_var fl_ sp_
          | fail
          | exact ek_int | exact ek_bool un_ | exact ek_cell
          | exact fit64 (by omega) (by omega) | exact fit32 (by omega) (by omega) | exact fit8 (by omega) (by omega)
          | exact pa_nil | apply pk | exact ca_agg | exact ca_v rfl | exact ca_sl | exact sc_0 | apply SetC.here | apply SetC.next
          | exact opds0 | apply opds1 | exact lo_none | apply lo_k | exact hi_none | apply hi_k
          | exact rfl | omega | intro hp)); done)
        | ((first | apply ay_add rfl | apply ay_sub rfl | apply ay_mul rfl | apply ay_quo rfl | apply ay_rem rfl)
         <;> first | exact (by first | (refine og rfl ?_; (first | assumption | (refine gd ?_ ?_ <;> assumption) | (refine gd rfl ?_; assumption) | (apply gl; assumption) | (refine gd (by apply gl; assumption) ?_; assumption) | (simp_all; done))) | exact od rfl) | omega | exact (by first | exact fit64 (by omega) (by omega) | exact fit32 (by omega) (by omega) | exact fit8 (by omega) (by omega)))
       case hx => rfl
       case hd => rfl)
    | (refine al_last (by kernel_rfl) ?_)
    | (apply al_freezeF 0 rfl
       case hz => repeat' (first | exact fzf_nil | apply fzf_cons | exact fz_here | apply fz_agg | apply fz_tup | exact fz_keep | exact fzl_nil | apply fzl_cons | fail))
    | fail)
    · rw [if_pos (by simpa [Prod.ext_iff] using hb)] at hsn
      exact ⟨i + 1, n + 1, ⟨by omega, by omega⟩, by omega, (by repeat' (first | exact weak_nil | refine weak_cons rfl ?_ | fail)), rfl⟩
    · rw [if_neg (by simpa [Prod.ext_iff] using hb)] at hsn
      exact ⟨i + 1, n, ⟨by omega, by omega⟩, by omega, (by repeat' (first | exact weak_nil | refine weak_cons rfl ?_ | fail)), rfl⟩
  · repeat' (first
    | fail
    | refine aw_seq ?_
      | refine aw_region0 ?_
      | refine al_nil ?_
      | refine th_n ?_
      | refine th_e ?_
      | refine th_r ?_
      | refine ib_n ?_
      | refine ib_e rfl ?_
      | refine ib_e' rfl ?_
      | refine ib_r ?_
      | refine aw_block ?_
      | refine aw_exit ?_
      | refine aw_ret ?_
      | refine aw_skip ?_
      | refine aw_region1 (by kernel_rfl) (by kernel_rfl) ?_
      | (refine aw_cond rfl ?_ ?_ <;> intro hb <;> (try simp only [decide_eq_true_eq, decide_eq_false_iff_not, Bool.and_eq_true, Bool.or_eq_true, Bool.not_eq_true', Bool.and_eq_false_iff, Bool.or_eq_false_iff, Bool.not_eq_false'] at hb) <;> (first | (exfalso; omega) | skip))
    | (refine al_es rfl (ao_box rfl (by first | exact od rfl | exact og rfl (by assumption)) (by first | exact ca_agg | exact ca_v rfl | exact ca_sl)) rfl rfl (fun _ _ h => h.elim) ?_; rintro _ _ ⟨bb, rfl, rfl⟩)
    | (refine al_es rfl (ao_empty rfl un_ el_) rfl rfl (fun _ _ h => h.elim) ?_; rintro _ _ ⟨u, rfl, rfl⟩)
    | (refine al_es rfl (ao_append 0 rfl un_ el_ (by first | exact od rfl | exact og rfl (by assumption)) rfl (by first | exact od rfl | exact og rfl (by assumption)) ?h1 ?h2) rfl rfl (fun _ _ h => h.elim) ?_
       case h1 => (try simp only [List.length_append, List.length_nil, List.length_cons, List.nil_append, List.length_replicate]); omega
       case h2 => (try simp only [List.length_append, List.length_nil, List.length_cons, List.nil_append, List.length_replicate]); simp only [maxLen]; omega
       rintro _ _ ⟨u, rfl, rfl⟩)
    | (apply al_y
       case hy =>
        first
        | apply qy_plain rfl
        | apply qy_run rfl rfl (guard_b rfl) rfl
        | exact qy_skip rfl rfl (guard_b rfl) rfl
        | (apply qy_gv rfl rfl (by first | exact guard_b rfl | exact guard_gv rfl); intro hk; have hk2 := hk; (try simp only [Bool.true_and, Bool.and_eq_true, Bool.or_eq_true, beq_iff_eq, decide_eq_true_eq, decide_eq_false_iff_not, Bool.not_eq_true', Bool.not_eq_false', Bool.and_eq_false_iff, Bool.or_eq_false_iff] at hk2))
        first
        | fail
        | ((first | apply ay_move rfl | apply ay_assign rfl | apply ay_not rfl | apply ay_lss rfl | apply ay_leq rfl | apply ay_gtr rfl | apply ay_geq rfl | apply k_eql rfl | apply k_neq rfl | apply ay_and rfl | apply ay_or rfl | apply ay_call rfl | apply k_len rfl | apply k_ix rfl | apply k_ld rfl | apply k_fa rfl | apply k_fd rfl | apply ay_build rfl st_ | apply ay_extract rfl | apply ay_slice rfl un_ el_ | apply bs_cell1 rfl un_ | apply bs_cell2 rfl un_ | apply kn_add rfl | apply kn_sub rfl | apply kn_mul rfl | apply kn_quo rfl | apply kn_rem rfl)
         <;> (repeat' (
          first
          | ((first | refine og rfl ?_ | refine ogn rfl ?_); (first | assumption | (refine gd ?_ ?_ <;> assumption) | (refine gd rfl ?_; assumption) | (apply gl; assumption) | (refine gd (by apply gl; assumption) ?_; assumption) | (simp_all; done))) | exact odln rfl (by with_reducible rfl) | exact odn rfl | exact od rfl
          | exact f_flows | exact c1 | exact c2 | exact c3 | exact c4 | exact c5
          | exact un_ | exact el_ | exact agg_ | exact sz_ | exact sp_ | exact fl_ | exact st_
          | exact nk_sl un_ | exact nk_row 0 un_ rfl | exact ik_sl un_ el_ (by first | exact hat | exact List.getElem?_eq_getElem (by first | omega | (simp; omega)) | exact get_in (by first | omega | (simp; omega))) | exact lk_el el_ | exact lk_1 agg_ | exact ak_ip fl_ sp_ | exact dk_1 fl_ agg_ rfl
          | exact lk_v1 0 agg_ rfl rfl | exact lk_v1 1 agg_ rfl rfl | exact lk_vn 0 agg_ sz_ rfl rfl | exact ak_var fl_ sp_
          | fail
          | exact ek_int | exact ek_bool un_ | exact ek_cell
          | exact fit64 (by omega) (by omega) | exact fit32 (by omega) (by omega) | exact fit8 (by omega) (by omega)
          | exact pa_nil | apply pk | exact ca_agg | exact ca_v rfl | exact ca_sl | exact sc_0 | apply SetC.here | apply SetC.next
          | exact opds0 | apply opds1 | exact lo_none | apply lo_k | exact hi_none | apply hi_k
          | exact rfl | omega | intro hp)); done)
        | ((first | apply ay_add rfl | apply ay_sub rfl | apply ay_mul rfl | apply ay_quo rfl | apply ay_rem rfl)
         <;> first | exact (by first | (refine og rfl ?_; (first | assumption | (refine gd ?_ ?_ <;> assumption) | (refine gd rfl ?_; assumption) | (apply gl; assumption) | (refine gd (by apply gl; assumption) ?_; assumption) | (simp_all; done))) | exact od rfl) | omega | exact (by first | exact fit64 (by omega) (by omega) | exact fit32 (by omega) (by omega) | exact fit8 (by omega) (by omega)))
       case hx => rfl
       case hd => rfl)
    | (refine al_last (by kernel_rfl) ?_)
    | (apply al_freezeF 0 rfl
       case hz => repeat' (first | exact fzf_nil | apply fzf_cons | exact fz_here | apply fz_agg | apply fz_tup | exact fz_keep | exact fzl_nil | apply fzl_cons | fail))
    | fail)
    rw [List.take_of_length_le (by omega)] at h2
    refine aw_for2 (fun i n : Nat => [(1, I (a : Nat)), (2, slA i32T l), (7, slA i64T p), (8, I (e : Nat)), (10, slA cellT c), (12, I n), (14, I i)]) (fun _ _ => []) (fun i n => i ≤ l.length ∧ n + spn (l.take i) = bl c) (fun i _ => l.length - i) 0 n ⟨Nat.zero_le _, h2⟩ (by repeat' (first | exact weak_nil | refine weak_cons rfl ?_ | fail)) rfl ?_
    clear hlt h1 h2 hn
    rintro j n ⟨h1, h2⟩
    by_cases hlt : j < l.length
    · obtain ⟨f, hat, k1, k2, k3⟩ := hseg j hlt
      have hk := wd_le l[j]
      have c3 : AP Tryd.prog tab0 16 [R l[j]] (slA cellT (cellsM l[j])) := f_Cells l[j]
      have hk2 : (cellsM l[j]).length = wd l[j] := rfl
      have hd : f - a + wd l[j] - (f - a) = wd l[j] := by omega
      have c4 : AP Tryd.prog tab0 15 [slA cellT ((c.drop (f - a)).take (f - a + (cellsM l[j]).length - (f - a))), slA cellT (cellsM l[j])] (B true) := (f_ref02Same _ _).to (congrArg B (by rw [hk2, hd, k3]; simp))
      have hsn : spn (l.take (j + 1)) = spn (l.take j) + if l[j] = 32 then 1 else 0 := by
        rw [List.take_succ_eq_append_getElem hlt]; simp only [spn, List.countP_append, List.countP_cons, List.countP_nil]
        by_cases hc : l[j] = 32 <;> simp [hc]
      have hle : spn (l.take (j + 1)) ≤ spn l := (List.take_sublist _ _).countP_le
      have hpos : l[j] = 32 → 1 ≤ n := fun h => by rw [if_pos h] at hsn; omega
      repeat' (first
      | fail
      | refine aw_seq ?_
        | refine aw_region0 ?_
        | refine al_nil ?_
        | refine th_n ?_
        | refine th_e ?_
        | refine th_r ?_
        | refine ib_n ?_
        | refine ib_e rfl ?_
        | refine ib_e' rfl ?_
        | refine ib_r ?_
        | refine aw_block ?_
        | refine aw_exit ?_
        | refine aw_ret ?_
        | refine aw_skip ?_
        | refine aw_region1 (by kernel_rfl) (by kernel_rfl) ?_
        | (refine aw_cond rfl ?_ ?_ <;> intro hb <;> (try simp only [decide_eq_true_eq, decide_eq_false_iff_not, Bool.and_eq_true, Bool.or_eq_true, Bool.not_eq_true', Bool.and_eq_false_iff, Bool.or_eq_false_iff, Bool.not_eq_false'] at hb) <;> (first | (exfalso; omega) | skip))
      | (refine al_es rfl (ao_box rfl (by first | exact od rfl | exact og rfl (by assumption)) (by first | exact ca_agg | exact ca_v rfl | exact ca_sl)) rfl rfl (fun _ _ h => h.elim) ?_; rintro _ _ ⟨bb, rfl, rfl⟩)
      | (refine al_es rfl (ao_empty rfl un_ el_) rfl rfl (fun _ _ h => h.elim) ?_; rintro _ _ ⟨u, rfl, rfl⟩)
      | (refine al_es rfl (ao_append 0 rfl un_ el_ (by first | exact od rfl | exact og rfl (by assumption)) rfl (by first | exact od rfl | exact og rfl (by assumption)) ?h1 ?h2) rfl rfl (fun _ _ h => h.elim) ?_
         case h1 => (try simp only [List.length_append, List.length_nil, List.length_cons, List.nil_append, List.length_replicate]); omega
         case h2 => (try simp only [List.length_append, List.length_nil, List.length_cons, List.nil_append, List.length_replicate]); simp only [maxLen]; omega
         rintro _ _ ⟨u, rfl, rfl⟩)
      | (apply al_y
         case hy =>
          first
          | apply qy_plain rfl
          | apply qy_run rfl rfl (guard_b rfl) rfl
          | exact qy_skip rfl rfl (guard_b rfl) rfl
          | (apply qy_gv rfl rfl (by first | exact guard_b rfl | exact guard_gv rfl); intro hk; have hk2 := hk; (try simp only [Bool.true_and, Bool.and_eq_true, Bool.or_eq_true, beq_iff_eq, decide_eq_true_eq, decide_eq_false_iff_not, Bool.not_eq_true', Bool.not_eq_false', Bool.and_eq_false_iff, Bool.or_eq_false_iff] at hk2))
          first
          | fail
          | ((first | apply ay_move rfl | apply ay_assign rfl | apply ay_not rfl | apply ay_lss rfl | apply ay_leq rfl | apply ay_gtr rfl | apply ay_geq rfl | apply k_eql rfl | apply k_neq rfl | apply ay_and rfl | apply ay_or rfl | apply ay_call rfl | apply k_len rfl | apply k_ix rfl | apply k_ld rfl | apply k_fa rfl | apply k_fd rfl | apply ay_build rfl st_ | apply ay_extract rfl | apply ay_slice rfl un_ el_ | apply bs_cell1 rfl un_ | apply bs_cell2 rfl un_ | apply kn_add rfl | apply kn_sub rfl | apply kn_mul rfl | apply kn_quo rfl | apply kn_rem rfl)
           <;> (repeat' (
            first
            | ((first | refine og rfl ?_ | refine ogn rfl ?_); (first | assumption | (refine gd ?_ ?_ <;> assumption) | (refine gd rfl ?_; assumption) | (apply gl; assumption) | (refine gd (by apply gl; assumption) ?_; assumption) | (simp_all; done))) | exact odln rfl (by with_reducible rfl) | exact odn rfl | exact od rfl
            | exact f_flows | exact c1 | exact c2 | exact c3 | exact c4 | exact c5
            | exact un_ | exact el_ | exact agg_ | exact sz_ | exact sp_ | exact fl_ | exact st_
            | exact nk_sl un_ | exact nk_row 0 un_ rfl | exact ik_sl un_ el_ (by first | exact hat | exact List.getElem?_eq_getElem (by first | omega | (simp; omega)) | exact get_in (by first | omega | (simp; omega))) | exact lk_el el_ | exact lk_1 agg_ | exact ak_ip fl_ sp_ | exact dk_1 fl_ agg_ rfl
            | exact lk_v1 0 agg_ rfl rfl | exact lk_v1 1 agg_ rfl rfl | exact lk_vn 0 agg_ sz_ rfl rfl | exact ak_var fl_ sp_
            | fail
            | exact ek_int | exact ek_bool un_ | exact ek_cell
            | exact fit64 (by omega) (by omega) | exact fit32 (by omega) (by omega) | exact fit8 (by omega) (by omega)
            | exact pa_nil | apply pk | exact ca_agg | exact ca_v rfl | exact ca_sl | exact sc_0 | apply SetC.here | apply SetC.next
            | exact opds0 | apply opds1 | exact lo_none | apply lo_k | exact hi_none | apply hi_k
            | exact rfl | omega | intro hp)); done)
          | ((first | apply ay_add rfl | apply ay_sub rfl | apply ay_mul rfl | apply ay_quo rfl | apply ay_rem rfl)
           <;> first | exact (by first | (refine og rfl ?_; (first | assumption | (refine gd ?_ ?_ <;> assumption) | (refine gd rfl ?_; assumption) | (apply gl; assumption) | (refine gd (by apply gl; assumption) ?_; assumption) | (simp_all; done))) | exact od rfl) | omega | exact (by first | exact fit64 (by omega) (by omega) | exact fit32 (by omega) (by omega) | exact fit8 (by omega) (by omega)))
         case hx => rfl
         case hd => rfl)
      | (refine al_last (by kernel_rfl) ?_)
      | (apply al_freezeF 0 rfl
         case hz => repeat' (first | exact fzf_nil | apply fzf_cons | exact fz_here | apply fz_agg | apply fz_tup | exact fz_keep | exact fzl_nil | apply fzl_cons | fail))
      | fail)
      all_goals first | (exfalso; simp at hb; omega) | skip
      · rw [if_pos (by omega)] at hsn
        exact ⟨j + 1, n - 1, ⟨by omega, by omega⟩, by omega, (by repeat' (first | exact weak_nil | refine weak_cons rfl ?_ | fail)), rfl⟩
      · rw [if_neg (by omega)] at hsn
        exact ⟨j + 1, n, ⟨by omega, by omega⟩, by omega, (by repeat' (first | exact weak_nil | refine weak_cons rfl ?_ | fail)), rfl⟩
    · repeat' (first
      | fail
      | refine aw_seq ?_
        | refine aw_region0 ?_
        | refine al_nil ?_
        | refine th_n ?_
        | refine th_e ?_
        | refine th_r ?_
        | refine ib_n ?_
        | refine ib_e rfl ?_
        | refine ib_e' rfl ?_
        | refine ib_r ?_
        | refine aw_block ?_
        | refine aw_exit ?_
        | refine aw_ret ?_
        | refine aw_skip ?_
        | refine aw_region1 (by kernel_rfl) (by kernel_rfl) ?_
        | (refine aw_cond rfl ?_ ?_ <;> intro hb <;> (try simp only [decide_eq_true_eq, decide_eq_false_iff_not, Bool.and_eq_true, Bool.or_eq_true, Bool.not_eq_true', Bool.and_eq_false_iff, Bool.or_eq_false_iff, Bool.not_eq_false'] at hb) <;> (first | (exfalso; omega) | skip))
      | (refine al_es rfl (ao_box rfl (by first | exact od rfl | exact og rfl (by assumption)) (by first | exact ca_agg | exact ca_v rfl | exact ca_sl)) rfl rfl (fun _ _ h => h.elim) ?_; rintro _ _ ⟨bb, rfl, rfl⟩)
      | (refine al_es rfl (ao_empty rfl un_ el_) rfl rfl (fun _ _ h => h.elim) ?_; rintro _ _ ⟨u, rfl, rfl⟩)
      | (refine al_es rfl (ao_append 0 rfl un_ el_ (by first | exact od rfl | exact og rfl (by assumption)) rfl (by first | exact od rfl | exact og rfl (by assumption)) ?h1 ?h2) rfl rfl (fun _ _ h => h.elim) ?_
         case h1 => (try simp only [List.length_append, List.length_nil, List.length_cons, List.nil_append, List.length_replicate]); omega
         case h2 => (try simp only [List.length_append, List.length_nil, List.length_cons, List.nil_append, List.length_replicate]); simp only [maxLen]; omega
         rintro _ _ ⟨u, rfl, rfl⟩)
      | (apply al_y
         case hy =>
          first
          | apply qy_plain rfl
          | apply qy_run rfl rfl (guard_b rfl) rfl
          | exact qy_skip rfl rfl (guard_b rfl) rfl
          | (apply qy_gv rfl rfl (by first | exact guard_b rfl | exact guard_gv rfl); intro hk; have hk2 := hk; (try simp only [Bool.true_and, Bool.and_eq_true, Bool.or_eq_true, beq_iff_eq, decide_eq_true_eq, decide_eq_false_iff_not, Bool.not_eq_true', Bool.not_eq_false', Bool.and_eq_false_iff, Bool.or_eq_false_iff] at hk2))
          first
          | fail
          | ((first | apply ay_move rfl | apply ay_assign rfl | apply ay_not rfl | apply ay_lss rfl | apply ay_leq rfl | apply ay_gtr rfl | apply ay_geq rfl | apply k_eql rfl | apply k_neq rfl | apply ay_and rfl | apply ay_or rfl | apply ay_call rfl | apply k_len rfl | apply k_ix rfl | apply k_ld rfl | apply k_fa rfl | apply k_fd rfl | apply ay_build rfl st_ | apply ay_extract rfl | apply ay_slice rfl un_ el_ | apply bs_cell1 rfl un_ | apply bs_cell2 rfl un_ | apply kn_add rfl | apply kn_sub rfl | apply kn_mul rfl | apply kn_quo rfl | apply kn_rem rfl)
           <;> (repeat' (
            first
            | ((first | refine og rfl ?_ | refine ogn rfl ?_); (first | assumption | (refine gd ?_ ?_ <;> assumption) | (refine gd rfl ?_; assumption) | (apply gl; assumption) | (refine gd (by apply gl; assumption) ?_; assumption) | (simp_all; done))) | exact odln rfl (by with_reducible rfl) | exact odn rfl | exact od rfl
            | exact f_flows | exact c1 | exact c2 | exact c3 | exact c4 | exact c5
            | exact un_ | exact el_ | exact agg_ | exact sz_ | exact sp_ | exact fl_ | exact st_
            | exact nk_sl un_ | exact nk_row 0 un_ rfl | exact ik_sl un_ el_ (by first | exact hat | exact List.getElem?_eq_getElem (by first | omega | (simp; omega)) | exact get_in (by first | omega | (simp; omega))) | exact lk_el el_ | exact lk_1 agg_ | exact ak_ip fl_ sp_ | exact dk_1 fl_ agg_ rfl
            | exact lk_v1 0 agg_ rfl rfl | exact lk_v1 1 agg_ rfl rfl | exact lk_vn 0 agg_ sz_ rfl rfl | exact ak_var fl_ sp_
            | fail
            | exact ek_int | exact ek_bool un_ | exact ek_cell
            | exact fit64 (by omega) (by omega) | exact fit32 (by omega) (by omega) | exact fit8 (by omega) (by omega)
            | exact pa_nil | apply pk | exact ca_agg | exact ca_v rfl | exact ca_sl | exact sc_0 | apply SetC.here | apply SetC.next
            | exact opds0 | apply opds1 | exact lo_none | apply lo_k | exact hi_none | apply hi_k
            | exact rfl | omega | intro hp)); done)
          | ((first | apply ay_add rfl | apply ay_sub rfl | apply ay_mul rfl | apply ay_quo rfl | apply ay_rem rfl)
           <;> first | exact (by first | (refine og rfl ?_; (first | assumption | (refine gd ?_ ?_ <;> assumption) | (refine gd rfl ?_; assumption) | (apply gl; assumption) | (refine gd (by apply gl; assumption) ?_; assumption) | (simp_all; done))) | exact od rfl) | omega | exact (by first | exact fit64 (by omega) (by omega) | exact fit32 (by omega) (by omega) | exact fit8 (by omega) (by omega)))
         case hx => rfl
         case hd => rfl)
      | (refine al_last (by kernel_rfl) ?_)
      | (apply al_freezeF 0 rfl
         case hz => repeat' (first | exact fzf_nil | apply fzf_cons | exact fz_here | apply fz_agg | apply fz_tup | exact fz_keep | exact fzl_nil | apply fzl_cons | fail))
      | fail)
      rw [List.take_of_length_le (by omega)] at h2
      refine ⟨_, [], (by first | exact res1 rfl rfl | exact res2 rfl rfl rfl | exact res3 rfl rfl rfl rfl | exact res0 rfl | fail), List.nil_sublist _, Sub.eq (congrArg B ?_), rfl⟩
      simp; omega
theorem l_FlowShows (w a : Int) (l : List Int) : AP Tryd.prog tab0 13 [I w, I a, slA i32T l] (B true) := by
  by_cases he : (layR w a l).2.2 = 0
  · obtain ⟨w', a', rfl, rfl, hw1, hw2, ha1, h5, hR⟩ := layR_ok w a l he
    have hfull := layM_len w' a' l l.length (Nat.le_refl _)
    have hf := (flowM_lay w' a' l l.length (Nat.le_refl _)).2
    obtain ⟨d, hd1, hd2⟩ := flow_bl w' a' l l.length (Nat.le_refl _)
    rw [List.take_of_length_le (Nat.le_refl _)] at hfull hf hd1 hd2
    refine shows_ok w' a' (layM w' a' l).2 l (layM w' a' l).1 (flowM w' a' l).1 ⟨hw1, hw2⟩ ha1 h5 hfull.1 hf hfull.2 d hd1 hd2 (fun k hk => ?_) ((f_Lay w' a' l).to (by rw [hR]; rfl)) ((f_flowCells w' a' l).to (by simp only [cells2, cellsR, if_pos he, Int.toNat_natCast]))
    obtain ⟨e, f, e1, e2, e3, e4, e5⟩ := flow_seg w' a' l k hk
    have hat := layM_at w' a' l l.length k hk (Nat.le_refl _) hk
    rw [List.take_of_length_le (Nat.le_refl _), e1, ← e2] at hat
    exact ⟨f, hat, e3, e4, e5⟩
  · have c1 : AP Tryd.prog tab0 31 [I w, I a, slA i32T l] (tupA [slA i64T (layR w a l).1, I (layR w a l).2.1, I (layR w a l).2.2]) := f_Lay w a l
    have c2 : AP Tryd.prog tab0 34 [I w, I a, slA i32T l] (tupA [slA cellT [], I (layR w a l).2.2]) := (f_flowCells w a l).to (by simp only [cells2, cellsR, if_neg he])
    generalize (layR w a l).1 = p at c1
    generalize (layR w a l).2.1 = m at *
    generalize (layR w a l).2.2 = e at *
    refine af_intro Tryd.func13 rfl (by decide) Tryd.ntmps13 rfl ?_
    repeat' (first
    | fail
    | refine aw_seq ?_
      | refine aw_region0 ?_
      | refine al_nil ?_
      | refine th_n ?_
      | refine th_e ?_
      | refine th_r ?_
      | refine ib_n ?_
      | refine ib_e rfl ?_
      | refine ib_e' rfl ?_
      | refine ib_r ?_
      | refine aw_block ?_
      | refine aw_exit ?_
      | refine aw_ret ?_
      | refine aw_skip ?_
      | refine aw_region1 (by kernel_rfl) (by kernel_rfl) ?_
      | (refine aw_cond rfl ?_ ?_ <;> intro hb <;> (try simp only [decide_eq_true_eq, decide_eq_false_iff_not, Bool.and_eq_true, Bool.or_eq_true, Bool.not_eq_true', Bool.and_eq_false_iff, Bool.or_eq_false_iff, Bool.not_eq_false'] at hb) <;> (first | (exfalso; omega) | skip))
    | (refine al_es rfl (ao_box rfl (by first | exact od rfl | exact og rfl (by assumption)) (by first | exact ca_agg | exact ca_v rfl | exact ca_sl)) rfl rfl (fun _ _ h => h.elim) ?_; rintro _ _ ⟨bb, rfl, rfl⟩)
    | (refine al_es rfl (ao_empty rfl un_ el_) rfl rfl (fun _ _ h => h.elim) ?_; rintro _ _ ⟨u, rfl, rfl⟩)
    | (refine al_es rfl (ao_append 0 rfl un_ el_ (by first | exact od rfl | exact og rfl (by assumption)) rfl (by first | exact od rfl | exact og rfl (by assumption)) ?h1 ?h2) rfl rfl (fun _ _ h => h.elim) ?_
       case h1 => (try simp only [List.length_append, List.length_nil, List.length_cons, List.nil_append, List.length_replicate]); omega
       case h2 => (try simp only [List.length_append, List.length_nil, List.length_cons, List.nil_append, List.length_replicate]); simp only [maxLen]; omega
       rintro _ _ ⟨u, rfl, rfl⟩)
    | (apply al_y
       case hy =>
        first
        | apply qy_plain rfl
        | apply qy_run rfl rfl (guard_b rfl) rfl
        | exact qy_skip rfl rfl (guard_b rfl) rfl
        | (apply qy_gv rfl rfl (by first | exact guard_b rfl | exact guard_gv rfl); intro hk; have hk2 := hk; (try simp only [Bool.true_and, Bool.and_eq_true, Bool.or_eq_true, beq_iff_eq, decide_eq_true_eq, decide_eq_false_iff_not, Bool.not_eq_true', Bool.not_eq_false', Bool.and_eq_false_iff, Bool.or_eq_false_iff] at hk2))
        first
        | fail
        | ((first | apply ay_move rfl | apply ay_assign rfl | apply ay_not rfl | apply ay_lss rfl | apply ay_leq rfl | apply ay_gtr rfl | apply ay_geq rfl | apply k_eql rfl | apply k_neq rfl | apply ay_and rfl | apply ay_or rfl | apply ay_call rfl | apply k_len rfl | apply k_ix rfl | apply k_ld rfl | apply k_fa rfl | apply k_fd rfl | apply ay_build rfl st_ | apply ay_extract rfl | apply ay_slice rfl un_ el_ | apply bs_cell1 rfl un_ | apply bs_cell2 rfl un_ | apply kn_add rfl | apply kn_sub rfl | apply kn_mul rfl | apply kn_quo rfl | apply kn_rem rfl)
         <;> (repeat' (
          first
          | ((first | refine og rfl ?_ | refine ogn rfl ?_); (first | assumption | (refine gd ?_ ?_ <;> assumption) | (refine gd rfl ?_; assumption) | (apply gl; assumption) | (refine gd (by apply gl; assumption) ?_; assumption) | (simp_all; done))) | exact odln rfl (by with_reducible rfl) | exact odn rfl | exact od rfl
          | exact f_flows | exact c1 | exact c2 | exact c3 | exact c4 | exact c5
          | exact un_ | exact el_ | exact agg_ | exact sz_ | exact sp_ | exact fl_ | exact st_
          | exact nk_sl un_ | exact nk_row 0 un_ rfl | exact ik_sl un_ el_ (List.getElem?_eq_getElem (by first | omega | (simp; omega))) | exact lk_el el_ | exact lk_1 agg_ | exact ak_ip fl_ sp_ | exact dk_1 fl_ agg_ rfl
          | exact lk_v1 0 agg_ rfl rfl | exact lk_v1 1 agg_ rfl rfl | exact lk_vn 0 agg_ sz_ rfl rfl | exact ak_var fl_ sp_
          | fail
          | exact ek_int | exact ek_bool un_ | exact ek_cell
          | exact fit64 (by omega) (by omega) | exact fit32 (by omega) (by omega) | exact fit8 (by omega) (by omega)
          | exact pa_nil | apply pk | exact ca_agg | exact ca_v rfl | exact ca_sl | exact sc_0 | apply SetC.here | apply SetC.next
          | exact opds0 | apply opds1 | exact lo_none | apply lo_k | exact hi_none | apply hi_k
          | exact rfl | omega | intro hp)); done)
        | ((first | apply ay_add rfl | apply ay_sub rfl | apply ay_mul rfl | apply ay_quo rfl | apply ay_rem rfl)
         <;> first | exact (by first | (refine og rfl ?_; (first | assumption | (refine gd ?_ ?_ <;> assumption) | (refine gd rfl ?_; assumption) | (apply gl; assumption) | (refine gd (by apply gl; assumption) ?_; assumption) | (simp_all; done))) | exact od rfl) | omega | exact (by first | exact fit64 (by omega) (by omega) | exact fit32 (by omega) (by omega) | exact fit8 (by omega) (by omega)))
       case hx => rfl
       case hd => rfl)
    | (refine al_last (by kernel_rfl) ?_)
    | (apply al_freezeF 0 rfl
       case hz => repeat' (first | exact fzf_nil | apply fzf_cons | exact fz_here | apply fz_agg | apply fz_tup | exact fz_keep | exact fzl_nil | apply fzl_cons | fail))
    | fail)
    all_goals first | exact ⟨_, [], (by first | exact res1 rfl rfl | exact res2 rfl rfl rfl | exact res3 rfl rfl rfl rfl | exact res0 rfl | fail), List.nil_sublist _, (by first | exact Sub.refl _ | exact sub_slc | (refine sub_tup ?_; repeat' (first | exact subl0 | refine subl1 (by first | exact Sub.refl _ | exact sub_slc | fail) ?_ | fail)) | fail), rfl⟩ | exact ⟨_, [], (by first | exact res1 rfl rfl | exact res2 rfl rfl rfl | exact res3 rfl rfl rfl rfl | exact res0 rfl | fail), List.nil_sublist _, Sub.eq (congrArg B (by simp)), rfl⟩ | (exfalso; simp [he] at hb; done)
end Go.Proofs.YtdnoealpchehlaaDoor
