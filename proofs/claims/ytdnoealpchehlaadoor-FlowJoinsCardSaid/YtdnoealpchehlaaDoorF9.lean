/- Layer 4 (flow): cells. No condition. -/
import Derived.Test.YtdnoealpchehlaaDoorF8
namespace Go.Proofs.YtdnoealpchehlaaDoor
set_option linter.unusedSimpArgs false
set_option linter.unusedVariables false
open Go Go.RowKit
section
variable {T0 : Gh} {fr : Fr} {M : List Own} {ops : Array Oper} {o : Oper}
theorem bs_cell0 {t : TypeId} {x : Operand} {n : Int} (ho : o.op = .buildSlice t 1 #[(0, x)]) (hu : Tryd.prog.underlying t = some (.slice 29)) (hx : Opd T0 fr x (aggA [R n, I 0])) : AY Tryd.prog T0 ops o fr M (slA cellT [(n, 0)]) := bs_cell1 ho hu hx
end
theorem get_in {α : Type} [Inhabited α] {l : List α} {i : Nat} (h : i < l.length) : l[i]? = some (l[i]!) := by simp [h]
attribute [local irreducible] AW AL AO QY Opd OpdN vA gvA tupA aggA slA slcA ipA rpA EqK LnK IxK LdK FaK FdK
set_option maxRecDepth 100000

def cellStep (w : Nat) (s : List Cell × Nat) (r : Int) : List Cell × Nat := (s.1 ++ List.replicate ((stepM w s.2 r).1 - s.2) (32, 0) ++ cellsM r, (stepM w s.2 r).2)
def flowM (w a : Nat) (l : List Int) : List Cell × Nat := l.foldl (cellStep w) ([], a)
theorem flowM_snoc (w a : Nat) (l : List Int) (k : Nat) (h : k < l.length) : flowM w a (l.take (k + 1)) = cellStep w (flowM w a (l.take k)) l[k] := by
  rw [flowM, flowM, List.take_succ_eq_append_getElem h, List.foldl_append]; rfl
theorem flowM_lay (w a : Nat) (l : List Int) (k : Nat) (h : k ≤ l.length) : (flowM w a (l.take k)).2 = (layM w a (l.take k)).2 ∧ (flowM w a (l.take k)).1.length + a = (layM w a (l.take k)).2 := by
  induction k with
  | zero => simp [layM, flowM]
  | succ k ih =>
    obtain ⟨i1, i2⟩ := ih (by omega)
    rw [layM_snoc w a l k (by omega), flowM_snoc w a l k (by omega)]
    have h1 := wd_le l[k]
    have h2 := fromM_le w (layM w a (l.take k)).2 (wd l[k]) h1.2
    refine ⟨by simp only [layStep, cellStep, i1], ?_⟩
    have h3 : (cellsM l[k]).length = wd l[k] := rfl
    simp only [layStep, cellStep, stepM, List.length_append, List.length_replicate, i1, h3]
    omega
theorem layM_mono (w a : Nat) (l : List Int) (k : Nat) (h : k < l.length) : (layM w a (l.take k)).2 ≤ (stepM w (layM w a (l.take k)).2 l[k]).1 ∧ (stepM w (layM w a (l.take k)).2 l[k]).2 = (layM w a (l.take (k + 1))).2 := by
  rw [layM_snoc w a l k h]
  have h1 := wd_le l[k]
  exact ⟨(fromM_le w (layM w a (l.take k)).2 (wd l[k]) h1.2).1, rfl⟩
/-- where a sign is laid -/
theorem layM_at (w a : Nat) (l : List Int) : ∀ m k, k < m → m ≤ l.length → ∀ hk : k < l.length, (layM w a (l.take m)).1[k]? = some (((stepM w (layM w a (l.take k)).2 l[k]).1 : Nat) : Int) := by
  intro m
  induction m with
  | zero => intro k h; omega
  | succ m ih =>
    intro k h1 h2 hk
    rw [layM_snoc w a l m (by omega)]
    have hl := (layM_len w a l m (by omega)).1
    simp only [layStep]
    by_cases hkm : k < m
    · rw [List.getElem?_append_left (by omega)]; exact ih k hkm (by omega) hk
    · have : k = m := by omega
      subst this
      rw [List.getElem?_append_right (by omega), hl, Nat.sub_self]; rfl
def cellsR (w a : Int) (l : List Int) : List Cell × Int := if (layR w a l).2.2 = 0 then ((flowM w.toNat a.toNat l).1, 0) else ([], (layR w a l).2.2)
def cells2 (x : List Cell × Int) : AV := tupA [slA cellT x.1, I x.2]
theorem layR_ok (w a : Int) (l : List Int) (h : (layR w a l).2.2 = 0) : ∃ w' a' : Nat, w = w' ∧ a = a' ∧ 2 ≤ w' ∧ w' ≤ 80 ∧ a' ≤ 9999 ∧ l.length ≤ 500 ∧ layR w a l = ((layM w' a' l).1, ((layM w' a' l).2 : Int), 0) := by
  rcases chk_cases w a with h0 | ⟨w', a', rfl, rfl, hw1, hw2, ha1, h0⟩
  · simp only [layR, if_neg h0] at h; exact absurd h h0
  · by_cases h5 : 500 < l.length
    · simp only [layR, if_pos h0, if_pos h5] at h; exact absurd h (by decide)
    · exact ⟨w', a', rfl, rfl, hw1, hw2, ha1, by omega, by simp only [layR, if_pos h0, if_neg h5, Int.toNat_natCast]⟩
theorem f_flowCells (w a : Int) (l : List Int) : AP Tryd.prog tab0 34 [I w, I a, slA i32T l] (cells2 (cellsR w a l)) := by
  by_cases he : (layR w a l).2.2 = 0
  · obtain ⟨w', a', rfl, rfl, hw1, hw2, ha1, h5, hR⟩ := layR_ok w a l he
    have c1 : AP Tryd.prog tab0 31 [I w', I a', slA i32T l] (tupA [slA i64T (layM w' a' l).1, I (layM w' a' l).2, I 0]) := (f_Lay w' a' l).to (by rw [hR]; rfl)
    refine af_intro Tryd.func34 rfl (by decide) Tryd.ntmps34 rfl ?_
    repeat' (first
    | fail
    | refine aw_seq ?_
      | refine aw_region0 ?_
      | refine al_nil ?_
      | refine th_n ?_
      | refine th_e ?_
      | refine th_r ?_
      | refine ib_n ?_
      | refine ib_e rfl ?_
      | refine ib_e' rfl ?_
      | refine ib_r ?_
      | refine aw_block ?_
      | refine aw_exit ?_
      | refine aw_ret ?_
      | refine aw_skip ?_
      | refine aw_region1 (by kernel_rfl) (by kernel_rfl) ?_
      | (refine aw_cond rfl ?_ ?_ <;> intro hb <;> (try simp only [decide_eq_true_eq, decide_eq_false_iff_not, Bool.and_eq_true, Bool.or_eq_true, Bool.not_eq_true', Bool.and_eq_false_iff, Bool.or_eq_false_iff, Bool.not_eq_false'] at hb) <;> (first | (exfalso; omega) | skip))
    | (refine al_es rfl (ao_box rfl (by first | exact od rfl | exact og rfl (by assumption)) (by first | exact ca_agg | exact ca_v rfl | exact ca_sl)) rfl rfl (fun _ _ h => h.elim) ?_; rintro _ _ ⟨bb, rfl, rfl⟩)
    | (refine al_es rfl (ao_empty rfl un_ el_) rfl rfl (fun _ _ h => h.elim) ?_; rintro _ _ ⟨u, rfl, rfl⟩)
    | (refine al_es rfl (ao_append 0 rfl un_ el_ (by first | (refine og rfl ?_; (first | assumption | (refine gd ?_ ?_ <;> assumption) | (refine gd rfl ?_; assumption) | (apply gl; assumption) | (refine gd (by apply gl; assumption) ?_; assumption) | (simp_all; done))) | exact od rfl) rfl (by first | (refine og rfl ?_; (first | assumption | (refine gd ?_ ?_ <;> assumption) | (refine gd rfl ?_; assumption) | (apply gl; assumption) | (refine gd (by apply gl; assumption) ?_; assumption) | (simp_all; done))) | exact od rfl) (by (try simp only [List.length_append, List.length_nil, List.length_cons, List.nil_append, List.length_replicate]); omega) (by (try simp only [List.length_append, List.length_nil, List.length_cons, List.nil_append, List.length_replicate]); simp only [maxLen]; omega)) rfl rfl (fun _ _ h => h.elim) ?_; rintro _ _ ⟨u, rfl, rfl⟩)
    | (apply al_y
       case hy =>
        first
        | apply qy_plain rfl
        | apply qy_run rfl rfl (guard_b rfl) rfl
        | exact qy_skip rfl rfl (guard_b rfl) rfl
        | (apply qy_gv rfl rfl (by first | exact guard_b rfl | exact guard_gv rfl); intro hk; have hk2 := hk; (try simp only [Bool.true_and, Bool.and_eq_true, Bool.or_eq_true, beq_iff_eq, decide_eq_true_eq, decide_eq_false_iff_not, Bool.not_eq_true', Bool.not_eq_false', Bool.and_eq_false_iff, Bool.or_eq_false_iff] at hk2))
        first
        | exact ay_len_row 0 rfl rfl un_ (by first | (refine og rfl ?_; (first | assumption | (refine gd ?_ ?_ <;> assumption) | (refine gd rfl ?_; assumption) | (apply gl; assumption) | (refine gd (by apply gl; assumption) ?_; assumption) | (simp_all; done))) | exact od rfl) rfl | exact bs_cell0 rfl un_ (by first | (refine og rfl ?_; (first | assumption | (refine gd ?_ ?_ <;> assumption) | (refine gd rfl ?_; assumption) | (apply gl; assumption) | (refine gd (by apply gl; assumption) ?_; assumption) | (simp_all; done))) | exact od rfl)
        | ((first | apply ay_move rfl | apply ay_assign rfl | apply ay_not rfl | apply ay_lss rfl | apply ay_leq rfl | apply ay_gtr rfl | apply ay_geq rfl | apply k_eql rfl | apply k_neq rfl | apply ay_and rfl | apply ay_or rfl | apply ay_call rfl | apply k_len rfl | apply k_ix rfl | apply k_ld rfl | apply k_fa rfl | apply k_fd rfl | apply ay_build rfl st_ | apply ay_extract rfl | apply ay_slice rfl un_ el_ | apply bs_cell1 rfl un_ | apply bs_cell2 rfl un_ | apply kn_add rfl | apply kn_sub rfl | apply kn_mul rfl | apply kn_quo rfl | apply kn_rem rfl)
         <;> (repeat' (
          first
          | ((first | refine og rfl ?_ | refine ogn rfl ?_); (first | assumption | (refine gd ?_ ?_ <;> assumption) | (refine gd rfl ?_; assumption) | (apply gl; assumption) | (refine gd (by apply gl; assumption) ?_; assumption) | (simp_all; done))) | exact odln rfl (by with_reducible rfl) | exact odn rfl | exact od rfl
          | exact c1 | exact f_Cells _
          | exact un_ | exact el_ | exact agg_ | exact sz_ | exact sp_ | exact fl_ | exact st_
          | exact nk_sl un_ | exact nk_row 0 un_ rfl | exact ik_sl un_ el_ (by first | exact hat | exact List.getElem?_eq_getElem (by first | omega | (simp; omega)) | exact get_in (by first | omega | (simp; omega)) | fail) | exact lk_el el_ | exact lk_1 agg_ | exact ak_ip fl_ sp_ | exact dk_1 fl_ agg_ rfl
          | exact lk_v1 0 agg_ rfl rfl | exact lk_v1 1 agg_ rfl rfl | exact lk_vn 0 agg_ sz_ rfl rfl | exact ak_var fl_ sp_
          | fail
          | exact ek_int | exact ek_bool un_ | exact ek_cell
          | exact fit64 (by omega) (by omega) | exact fit32 (by omega) (by omega) | exact fit8 (by omega) (by omega)
          | exact pa_nil | apply pk | exact ca_agg | exact ca_v rfl | exact ca_sl | exact sc_0 | apply SetC.here | apply SetC.next
          | exact opds0 | apply opds1 | exact lo_none | apply lo_k | exact hi_none | apply hi_k
          | exact rfl | omega | intro hp)); done)
        | ((first | apply ay_add rfl | apply ay_sub rfl | apply ay_mul rfl | apply ay_quo rfl | apply ay_rem rfl)
         <;> first | exact (by first | (refine og rfl ?_; (first | assumption | (refine gd ?_ ?_ <;> assumption) | (refine gd rfl ?_; assumption) | (apply gl; assumption) | (refine gd (by apply gl; assumption) ?_; assumption) | (simp_all; done))) | exact od rfl) | omega | exact (by first | exact fit64 (by omega) (by omega) | exact fit32 (by omega) (by omega) | exact fit8 (by omega) (by omega)))
       case hx => rfl
       case hd => rfl)
    | (refine al_last (by kernel_rfl) ?_)
    | (apply al_freezeF 0 rfl
       case hz => repeat' (first | exact fzf_nil | apply fzf_cons | exact fz_here | apply fz_agg | apply fz_tup | exact fz_keep | exact fzl_nil | apply fzl_cons | fail))
    | fail)
    all_goals first | (exfalso; simp at hb; done) | skip
    refine aw_nil cellT 29 ?_
    have hfull := layM_len w' a' l l.length (Nat.le_refl _)
    rw [List.take_of_length_le (Nat.le_refl _)] at hfull
    refine aw_for2 (fun (k : Nat) (u : Value) => [(1, I (a' : Nat)), (8, slA i64T (layM w' a' l).1), (11, vA u), (25, slA i32T l), (26, I l.length), (27, I k)])
      (fun k u => [rowO cellT 29 u (flowM w' a' (l.take k)).1]) (fun k _ => k ≤ l.length) (fun k _ => l.length - k) 0 _ (Nat.zero_le _) (by repeat' (first | exact weak_nil | refine weak_cons rfl ?_ | fail)) rfl ?_
    rintro k u h1
    obtain ⟨f1, f2⟩ := flowM_lay w' a' l k h1
    have hl := layM_len w' a' l k h1
    by_cases hlt : k < l.length
    · have hat := layM_at w' a' l l.length k hlt (Nat.le_refl _) hlt
      rw [List.take_of_length_le (Nat.le_refl _)] at hat
      obtain ⟨g1, g2⟩ := layM_mono w' a' l k hlt
      have hw1 := wd_le l[k]
      have hw2 : (cellsM l[k]).length = wd l[k] := rfl
      have hsn := flowM_snoc w' a' l k hlt
      have hst : (stepM w' (layM w' a' (l.take k)).2 l[k]).1 ≤ (layM w' a' (l.take k)).2 + 1 := (fromM_le w' _ (wd l[k]) hw1.2).2
      simp only [cellStep, f1] at hsn
      generalize hfr : (stepM w' (layM w' a' (l.take k)).2 l[k]).1 = from_ at hat g1 hsn hst
      generalize hS : (flowM w' a' (l.take k)).1 = S at f2 hsn ⊢
      generalize hE : (layM w' a' (l.take k)).2 = e at f1 f2 hl g1 hsn hst
      repeat' (first
      | fail
      | refine aw_seq ?_
        | refine aw_region0 ?_
        | refine al_nil ?_
        | refine th_n ?_
        | refine th_e ?_
        | refine th_r ?_
        | refine ib_n ?_
        | refine ib_e rfl ?_
        | refine ib_e' rfl ?_
        | refine ib_r ?_
        | refine aw_block ?_
        | refine aw_exit ?_
        | refine aw_ret ?_
        | refine aw_skip ?_
        | refine aw_region1 (by kernel_rfl) (by kernel_rfl) ?_
        | (refine aw_cond rfl ?_ ?_ <;> intro hb <;> (try simp only [decide_eq_true_eq, decide_eq_false_iff_not, Bool.and_eq_true, Bool.or_eq_true, Bool.not_eq_true', Bool.and_eq_false_iff, Bool.or_eq_false_iff, Bool.not_eq_false'] at hb) <;> (first | (exfalso; omega) | skip))
      | (refine al_es rfl (ao_box rfl (by first | exact od rfl | exact og rfl (by assumption)) (by first | exact ca_agg | exact ca_v rfl | exact ca_sl)) rfl rfl (fun _ _ h => h.elim) ?_; rintro _ _ ⟨bb, rfl, rfl⟩)
      | (refine al_es rfl (ao_empty rfl un_ el_) rfl rfl (fun _ _ h => h.elim) ?_; rintro _ _ ⟨u, rfl, rfl⟩)
      | (refine al_es rfl (ao_append 0 rfl un_ el_ (by first | (refine og rfl ?_; (first | assumption | (refine gd ?_ ?_ <;> assumption) | (refine gd rfl ?_; assumption) | (apply gl; assumption) | (refine gd (by apply gl; assumption) ?_; assumption) | (simp_all; done))) | exact od rfl) rfl (by first | (refine og rfl ?_; (first | assumption | (refine gd ?_ ?_ <;> assumption) | (refine gd rfl ?_; assumption) | (apply gl; assumption) | (refine gd (by apply gl; assumption) ?_; assumption) | (simp_all; done))) | exact od rfl) (by (try simp only [List.length_append, List.length_nil, List.length_cons, List.nil_append, List.length_replicate]); omega) (by (try simp only [List.length_append, List.length_nil, List.length_cons, List.nil_append, List.length_replicate]); simp only [maxLen]; omega)) rfl rfl (fun _ _ h => h.elim) ?_; rintro _ _ ⟨u, rfl, rfl⟩)
      | (apply al_y
         case hy =>
          first
          | apply qy_plain rfl
          | apply qy_run rfl rfl (guard_b rfl) rfl
          | exact qy_skip rfl rfl (guard_b rfl) rfl
          | (apply qy_gv rfl rfl (by first | exact guard_b rfl | exact guard_gv rfl); intro hk; have hk2 := hk; (try simp only [Bool.true_and, Bool.and_eq_true, Bool.or_eq_true, beq_iff_eq, decide_eq_true_eq, decide_eq_false_iff_not, Bool.not_eq_true', Bool.not_eq_false', Bool.and_eq_false_iff, Bool.or_eq_false_iff] at hk2))
          first
          | exact ay_len_row 0 rfl rfl un_ (by first | (refine og rfl ?_; (first | assumption | (refine gd ?_ ?_ <;> assumption) | (refine gd rfl ?_; assumption) | (apply gl; assumption) | (refine gd (by apply gl; assumption) ?_; assumption) | (simp_all; done))) | exact od rfl) rfl | exact bs_cell0 rfl un_ (by first | (refine og rfl ?_; (first | assumption | (refine gd ?_ ?_ <;> assumption) | (refine gd rfl ?_; assumption) | (apply gl; assumption) | (refine gd (by apply gl; assumption) ?_; assumption) | (simp_all; done))) | exact od rfl)
          | ((first | apply ay_move rfl | apply ay_assign rfl | apply ay_not rfl | apply ay_lss rfl | apply ay_leq rfl | apply ay_gtr rfl | apply ay_geq rfl | apply k_eql rfl | apply k_neq rfl | apply ay_and rfl | apply ay_or rfl | apply ay_call rfl | apply k_len rfl | apply k_ix rfl | apply k_ld rfl | apply k_fa rfl | apply k_fd rfl | apply ay_build rfl st_ | apply ay_extract rfl | apply ay_slice rfl un_ el_ | apply bs_cell1 rfl un_ | apply bs_cell2 rfl un_ | apply kn_add rfl | apply kn_sub rfl | apply kn_mul rfl | apply kn_quo rfl | apply kn_rem rfl)
           <;> (repeat' (
            first
            | ((first | refine og rfl ?_ | refine ogn rfl ?_); (first | assumption | (refine gd ?_ ?_ <;> assumption) | (refine gd rfl ?_; assumption) | (apply gl; assumption) | (refine gd (by apply gl; assumption) ?_; assumption) | (simp_all; done))) | exact odln rfl (by with_reducible rfl) | exact odn rfl | exact od rfl
            | exact c1 | exact f_Cells _
            | exact un_ | exact el_ | exact agg_ | exact sz_ | exact sp_ | exact fl_ | exact st_
            | exact nk_sl un_ | exact nk_row 0 un_ rfl | exact ik_sl un_ el_ (by first | exact hat | exact List.getElem?_eq_getElem (by first | omega | (simp; omega)) | exact get_in (by first | omega | (simp; omega)) | fail) | exact lk_el el_ | exact lk_1 agg_ | exact ak_ip fl_ sp_ | exact dk_1 fl_ agg_ rfl
            | exact lk_v1 0 agg_ rfl rfl | exact lk_v1 1 agg_ rfl rfl | exact lk_vn 0 agg_ sz_ rfl rfl | exact ak_var fl_ sp_
            | fail
            | exact ek_int | exact ek_bool un_ | exact ek_cell
            | exact fit64 (by omega) (by omega) | exact fit32 (by omega) (by omega) | exact fit8 (by omega) (by omega)
            | exact pa_nil | apply pk | exact ca_agg | exact ca_v rfl | exact ca_sl | exact sc_0 | apply SetC.here | apply SetC.next
            | exact opds0 | apply opds1 | exact lo_none | apply lo_k | exact hi_none | apply hi_k
            | exact rfl | omega | intro hp)); done)
          | ((first | apply ay_add rfl | apply ay_sub rfl | apply ay_mul rfl | apply ay_quo rfl | apply ay_rem rfl)
           <;> first | exact (by first | (refine og rfl ?_; (first | assumption | (refine gd ?_ ?_ <;> assumption) | (refine gd rfl ?_; assumption) | (apply gl; assumption) | (refine gd (by apply gl; assumption) ?_; assumption) | (simp_all; done))) | exact od rfl) | omega | exact (by first | exact fit64 (by omega) (by omega) | exact fit32 (by omega) (by omega) | exact fit8 (by omega) (by omega)))
         case hx => rfl
         case hd => rfl)
      | (refine al_last (by kernel_rfl) ?_)
      | (apply al_freezeF 0 rfl
         case hz => repeat' (first | exact fzf_nil | apply fzf_cons | exact fz_here | apply fz_agg | apply fz_tup | exact fz_keep | exact fzl_nil | apply fzl_cons | fail))
      | fail)
      refine aw_for2 (fun (j : Nat) (u : Value) => [(1, I (a' : Nat)), (8, slA i64T (layM w' a' l).1), (11, vA u), (25, slA i32T l), (26, I l.length), (27, I k), (13, R l[k]), (40, I (from_ - a' - S.length : Nat)), (41, I j)])
        (fun j u => [rowO cellT 29 u (S ++ List.replicate j (32, 0))]) (fun j _ => j ≤ from_ - a' - S.length) (fun j _ => from_ - a' - S.length - j) 0 u (Nat.zero_le _) (by repeat' (first | exact weak_nil | refine weak_cons rfl ?_ | fail)) (by simp) ?_
      clear u
      rintro j u i1
      by_cases hj : j < from_ - a' - S.length
      · repeat' (first
        | fail
        | refine aw_seq ?_
          | refine aw_region0 ?_
          | refine al_nil ?_
          | refine th_n ?_
          | refine th_e ?_
          | refine th_r ?_
          | refine ib_n ?_
          | refine ib_e rfl ?_
          | refine ib_e' rfl ?_
          | refine ib_r ?_
          | refine aw_block ?_
          | refine aw_exit ?_
          | refine aw_ret ?_
          | refine aw_skip ?_
          | refine aw_region1 (by kernel_rfl) (by kernel_rfl) ?_
          | (refine aw_cond rfl ?_ ?_ <;> intro hb <;> (try simp only [decide_eq_true_eq, decide_eq_false_iff_not, Bool.and_eq_true, Bool.or_eq_true, Bool.not_eq_true', Bool.and_eq_false_iff, Bool.or_eq_false_iff, Bool.not_eq_false'] at hb) <;> (first | (exfalso; omega) | skip))
        | (refine al_es rfl (ao_box rfl (by first | exact od rfl | exact og rfl (by assumption)) (by first | exact ca_agg | exact ca_v rfl | exact ca_sl)) rfl rfl (fun _ _ h => h.elim) ?_; rintro _ _ ⟨bb, rfl, rfl⟩)
        | (refine al_es rfl (ao_empty rfl un_ el_) rfl rfl (fun _ _ h => h.elim) ?_; rintro _ _ ⟨u, rfl, rfl⟩)
        | (refine al_es rfl (ao_append 0 rfl un_ el_ (by first | (refine og rfl ?_; (first | assumption | (refine gd ?_ ?_ <;> assumption) | (refine gd rfl ?_; assumption) | (apply gl; assumption) | (refine gd (by apply gl; assumption) ?_; assumption) | (simp_all; done))) | exact od rfl) rfl (by first | (refine og rfl ?_; (first | assumption | (refine gd ?_ ?_ <;> assumption) | (refine gd rfl ?_; assumption) | (apply gl; assumption) | (refine gd (by apply gl; assumption) ?_; assumption) | (simp_all; done))) | exact od rfl) (by (try simp only [List.length_append, List.length_nil, List.length_cons, List.nil_append, List.length_replicate]); omega) (by (try simp only [List.length_append, List.length_nil, List.length_cons, List.nil_append, List.length_replicate]); simp only [maxLen]; omega)) rfl rfl (fun _ _ h => h.elim) ?_; rintro _ _ ⟨u, rfl, rfl⟩)
        | (apply al_y
           case hy =>
            first
            | apply qy_plain rfl
            | apply qy_run rfl rfl (guard_b rfl) rfl
            | exact qy_skip rfl rfl (guard_b rfl) rfl
            | (apply qy_gv rfl rfl (by first | exact guard_b rfl | exact guard_gv rfl); intro hk; have hk2 := hk; (try simp only [Bool.true_and, Bool.and_eq_true, Bool.or_eq_true, beq_iff_eq, decide_eq_true_eq, decide_eq_false_iff_not, Bool.not_eq_true', Bool.not_eq_false', Bool.and_eq_false_iff, Bool.or_eq_false_iff] at hk2))
            first
            | exact ay_len_row 0 rfl rfl un_ (by first | (refine og rfl ?_; (first | assumption | (refine gd ?_ ?_ <;> assumption) | (refine gd rfl ?_; assumption) | (apply gl; assumption) | (refine gd (by apply gl; assumption) ?_; assumption) | (simp_all; done))) | exact od rfl) rfl | exact bs_cell0 rfl un_ (by first | (refine og rfl ?_; (first | assumption | (refine gd ?_ ?_ <;> assumption) | (refine gd rfl ?_; assumption) | (apply gl; assumption) | (refine gd (by apply gl; assumption) ?_; assumption) | (simp_all; done))) | exact od rfl)
            | ((first | apply ay_move rfl | apply ay_assign rfl | apply ay_not rfl | apply ay_lss rfl | apply ay_leq rfl | apply ay_gtr rfl | apply ay_geq rfl | apply k_eql rfl | apply k_neq rfl | apply ay_and rfl | apply ay_or rfl | apply ay_call rfl | apply k_len rfl | apply k_ix rfl | apply k_ld rfl | apply k_fa rfl | apply k_fd rfl | apply ay_build rfl st_ | apply ay_extract rfl | apply ay_slice rfl un_ el_ | apply bs_cell1 rfl un_ | apply bs_cell2 rfl un_ | apply kn_add rfl | apply kn_sub rfl | apply kn_mul rfl | apply kn_quo rfl | apply kn_rem rfl)
             <;> (repeat' (
              first
              | ((first | refine og rfl ?_ | refine ogn rfl ?_); (first | assumption | (refine gd ?_ ?_ <;> assumption) | (refine gd rfl ?_; assumption) | (apply gl; assumption) | (refine gd (by apply gl; assumption) ?_; assumption) | (simp_all; done))) | exact odln rfl (by with_reducible rfl) | exact odn rfl | exact od rfl
              | exact c1 | exact f_Cells _
              | exact un_ | exact el_ | exact agg_ | exact sz_ | exact sp_ | exact fl_ | exact st_
              | exact nk_sl un_ | exact nk_row 0 un_ rfl | exact ik_sl un_ el_ (by first | exact hat | exact List.getElem?_eq_getElem (by first | omega | (simp; omega)) | exact get_in (by first | omega | (simp; omega)) | fail) | exact lk_el el_ | exact lk_1 agg_ | exact ak_ip fl_ sp_ | exact dk_1 fl_ agg_ rfl
              | exact lk_v1 0 agg_ rfl rfl | exact lk_v1 1 agg_ rfl rfl | exact lk_vn 0 agg_ sz_ rfl rfl | exact ak_var fl_ sp_
              | fail
              | exact ek_int | exact ek_bool un_ | exact ek_cell
              | exact fit64 (by omega) (by omega) | exact fit32 (by omega) (by omega) | exact fit8 (by omega) (by omega)
              | exact pa_nil | apply pk | exact ca_agg | exact ca_v rfl | exact ca_sl | exact sc_0 | apply SetC.here | apply SetC.next
              | exact opds0 | apply opds1 | exact lo_none | apply lo_k | exact hi_none | apply hi_k
              | exact rfl | omega | intro hp)); done)
            | ((first | apply ay_add rfl | apply ay_sub rfl | apply ay_mul rfl | apply ay_quo rfl | apply ay_rem rfl)
             <;> first | exact (by first | (refine og rfl ?_; (first | assumption | (refine gd ?_ ?_ <;> assumption) | (refine gd rfl ?_; assumption) | (apply gl; assumption) | (refine gd (by apply gl; assumption) ?_; assumption) | (simp_all; done))) | exact od rfl) | omega | exact (by first | exact fit64 (by omega) (by omega) | exact fit32 (by omega) (by omega) | exact fit8 (by omega) (by omega)))
           case hx => rfl
           case hd => rfl)
        | (refine al_last (by kernel_rfl) ?_)
        | (apply al_freezeF 0 rfl
           case hz => repeat' (first | exact fzf_nil | apply fzf_cons | exact fz_here | apply fz_agg | apply fz_tup | exact fz_keep | exact fzl_nil | apply fzl_cons | fail))
        | fail)
        refine ⟨j + 1, _, by omega, by omega, (by repeat' (first | exact weak_nil | refine weak_cons rfl ?_ | fail)), by rw [List.replicate_succ', ← List.append_assoc]; rfl⟩
      · have hj2 : j = from_ - e := by omega
        repeat' (first
        | fail
        | refine aw_seq ?_
          | refine aw_region0 ?_
          | refine al_nil ?_
          | refine th_n ?_
          | refine th_e ?_
          | refine th_r ?_
          | refine ib_n ?_
          | refine ib_e rfl ?_
          | refine ib_e' rfl ?_
          | refine ib_r ?_
          | refine aw_block ?_
          | refine aw_exit ?_
          | refine aw_ret ?_
          | refine aw_skip ?_
          | refine aw_region1 (by kernel_rfl) (by kernel_rfl) ?_
          | (refine aw_cond rfl ?_ ?_ <;> intro hb <;> (try simp only [decide_eq_true_eq, decide_eq_false_iff_not, Bool.and_eq_true, Bool.or_eq_true, Bool.not_eq_true', Bool.and_eq_false_iff, Bool.or_eq_false_iff, Bool.not_eq_false'] at hb) <;> (first | (exfalso; omega) | skip))
        | (refine al_es rfl (ao_box rfl (by first | exact od rfl | exact og rfl (by assumption)) (by first | exact ca_agg | exact ca_v rfl | exact ca_sl)) rfl rfl (fun _ _ h => h.elim) ?_; rintro _ _ ⟨bb, rfl, rfl⟩)
        | (refine al_es rfl (ao_empty rfl un_ el_) rfl rfl (fun _ _ h => h.elim) ?_; rintro _ _ ⟨u, rfl, rfl⟩)
        | (refine al_es rfl (ao_append 0 rfl un_ el_ (by first | (refine og rfl ?_; (first | assumption | (refine gd ?_ ?_ <;> assumption) | (refine gd rfl ?_; assumption) | (apply gl; assumption) | (refine gd (by apply gl; assumption) ?_; assumption) | (simp_all; done))) | exact od rfl) rfl (by first | (refine og rfl ?_; (first | assumption | (refine gd ?_ ?_ <;> assumption) | (refine gd rfl ?_; assumption) | (apply gl; assumption) | (refine gd (by apply gl; assumption) ?_; assumption) | (simp_all; done))) | exact od rfl) (by (try simp only [List.length_append, List.length_nil, List.length_cons, List.nil_append, List.length_replicate]); omega) (by (try simp only [List.length_append, List.length_nil, List.length_cons, List.nil_append, List.length_replicate]); simp only [maxLen]; omega)) rfl rfl (fun _ _ h => h.elim) ?_; rintro _ _ ⟨u, rfl, rfl⟩)
        | (apply al_y
           case hy =>
            first
            | apply qy_plain rfl
            | apply qy_run rfl rfl (guard_b rfl) rfl
            | exact qy_skip rfl rfl (guard_b rfl) rfl
            | (apply qy_gv rfl rfl (by first | exact guard_b rfl | exact guard_gv rfl); intro hk; have hk2 := hk; (try simp only [Bool.true_and, Bool.and_eq_true, Bool.or_eq_true, beq_iff_eq, decide_eq_true_eq, decide_eq_false_iff_not, Bool.not_eq_true', Bool.not_eq_false', Bool.and_eq_false_iff, Bool.or_eq_false_iff] at hk2))
            first
            | exact ay_len_row 0 rfl rfl un_ (by first | (refine og rfl ?_; (first | assumption | (refine gd ?_ ?_ <;> assumption) | (refine gd rfl ?_; assumption) | (apply gl; assumption) | (refine gd (by apply gl; assumption) ?_; assumption) | (simp_all; done))) | exact od rfl) rfl | exact bs_cell0 rfl un_ (by first | (refine og rfl ?_; (first | assumption | (refine gd ?_ ?_ <;> assumption) | (refine gd rfl ?_; assumption) | (apply gl; assumption) | (refine gd (by apply gl; assumption) ?_; assumption) | (simp_all; done))) | exact od rfl)
            | ((first | apply ay_move rfl | apply ay_assign rfl | apply ay_not rfl | apply ay_lss rfl | apply ay_leq rfl | apply ay_gtr rfl | apply ay_geq rfl | apply k_eql rfl | apply k_neq rfl | apply ay_and rfl | apply ay_or rfl | apply ay_call rfl | apply k_len rfl | apply k_ix rfl | apply k_ld rfl | apply k_fa rfl | apply k_fd rfl | apply ay_build rfl st_ | apply ay_extract rfl | apply ay_slice rfl un_ el_ | apply bs_cell1 rfl un_ | apply bs_cell2 rfl un_ | apply kn_add rfl | apply kn_sub rfl | apply kn_mul rfl | apply kn_quo rfl | apply kn_rem rfl)
             <;> (repeat' (
              first
              | ((first | refine og rfl ?_ | refine ogn rfl ?_); (first | assumption | (refine gd ?_ ?_ <;> assumption) | (refine gd rfl ?_; assumption) | (apply gl; assumption) | (refine gd (by apply gl; assumption) ?_; assumption) | (simp_all; done))) | exact odln rfl (by with_reducible rfl) | exact odn rfl | exact od rfl
              | exact c1 | exact f_Cells _
              | exact un_ | exact el_ | exact agg_ | exact sz_ | exact sp_ | exact fl_ | exact st_
              | exact nk_sl un_ | exact nk_row 0 un_ rfl | exact ik_sl un_ el_ (by first | exact hat | exact List.getElem?_eq_getElem (by first | omega | (simp; omega)) | exact get_in (by first | omega | (simp; omega)) | fail) | exact lk_el el_ | exact lk_1 agg_ | exact ak_ip fl_ sp_ | exact dk_1 fl_ agg_ rfl
              | exact lk_v1 0 agg_ rfl rfl | exact lk_v1 1 agg_ rfl rfl | exact lk_vn 0 agg_ sz_ rfl rfl | exact ak_var fl_ sp_
              | fail
              | exact ek_int | exact ek_bool un_ | exact ek_cell
              | exact fit64 (by omega) (by omega) | exact fit32 (by omega) (by omega) | exact fit8 (by omega) (by omega)
              | exact pa_nil | apply pk | exact ca_agg | exact ca_v rfl | exact ca_sl | exact sc_0 | apply SetC.here | apply SetC.next
              | exact opds0 | apply opds1 | exact lo_none | apply lo_k | exact hi_none | apply hi_k
              | exact rfl | omega | intro hp)); done)
            | ((first | apply ay_add rfl | apply ay_sub rfl | apply ay_mul rfl | apply ay_quo rfl | apply ay_rem rfl)
             <;> first | exact (by first | (refine og rfl ?_; (first | assumption | (refine gd ?_ ?_ <;> assumption) | (refine gd rfl ?_; assumption) | (apply gl; assumption) | (refine gd (by apply gl; assumption) ?_; assumption) | (simp_all; done))) | exact od rfl) | omega | exact (by first | exact fit64 (by omega) (by omega) | exact fit32 (by omega) (by omega) | exact fit8 (by omega) (by omega)))
           case hx => rfl
           case hd => rfl)
        | (refine al_last (by kernel_rfl) ?_)
        | (apply al_freezeF 0 rfl
           case hz => repeat' (first | exact fzf_nil | apply fzf_cons | exact fz_here | apply fz_agg | apply fz_tup | exact fz_keep | exact fzl_nil | apply fzl_cons | fail))
        | fail)
        refine ⟨k + 1, _, by omega, by omega, (by repeat' (first | exact weak_nil | refine weak_cons rfl ?_ | fail)), by rw [hsn, ← hj2]; rfl⟩
    · apply aw_freezeF 0 rfl
      case hz => repeat' (first | exact fzf_nil | apply fzf_cons | exact fz_here | exact fz_keep)
      repeat' (first
      | fail
      | refine aw_seq ?_
        | refine aw_region0 ?_
        | refine al_nil ?_
        | refine th_n ?_
        | refine th_e ?_
        | refine th_r ?_
        | refine ib_n ?_
        | refine ib_e rfl ?_
        | refine ib_e' rfl ?_
        | refine ib_r ?_
        | refine aw_block ?_
        | refine aw_exit ?_
        | refine aw_ret ?_
        | refine aw_skip ?_
        | refine aw_region1 (by kernel_rfl) (by kernel_rfl) ?_
        | (refine aw_cond rfl ?_ ?_ <;> intro hb <;> (try simp only [decide_eq_true_eq, decide_eq_false_iff_not, Bool.and_eq_true, Bool.or_eq_true, Bool.not_eq_true', Bool.and_eq_false_iff, Bool.or_eq_false_iff, Bool.not_eq_false'] at hb) <;> (first | (exfalso; omega) | skip))
      | (refine al_es rfl (ao_box rfl (by first | exact od rfl | exact og rfl (by assumption)) (by first | exact ca_agg | exact ca_v rfl | exact ca_sl)) rfl rfl (fun _ _ h => h.elim) ?_; rintro _ _ ⟨bb, rfl, rfl⟩)
      | (refine al_es rfl (ao_empty rfl un_ el_) rfl rfl (fun _ _ h => h.elim) ?_; rintro _ _ ⟨u, rfl, rfl⟩)
      | (refine al_es rfl (ao_append 0 rfl un_ el_ (by first | (refine og rfl ?_; (first | assumption | (refine gd ?_ ?_ <;> assumption) | (refine gd rfl ?_; assumption) | (apply gl; assumption) | (refine gd (by apply gl; assumption) ?_; assumption) | (simp_all; done))) | exact od rfl) rfl (by first | (refine og rfl ?_; (first | assumption | (refine gd ?_ ?_ <;> assumption) | (refine gd rfl ?_; assumption) | (apply gl; assumption) | (refine gd (by apply gl; assumption) ?_; assumption) | (simp_all; done))) | exact od rfl) (by (try simp only [List.length_append, List.length_nil, List.length_cons, List.nil_append, List.length_replicate]); omega) (by (try simp only [List.length_append, List.length_nil, List.length_cons, List.nil_append, List.length_replicate]); simp only [maxLen]; omega)) rfl rfl (fun _ _ h => h.elim) ?_; rintro _ _ ⟨u, rfl, rfl⟩)
      | (apply al_y
         case hy =>
          first
          | apply qy_plain rfl
          | apply qy_run rfl rfl (guard_b rfl) rfl
          | exact qy_skip rfl rfl (guard_b rfl) rfl
          | (apply qy_gv rfl rfl (by first | exact guard_b rfl | exact guard_gv rfl); intro hk; have hk2 := hk; (try simp only [Bool.true_and, Bool.and_eq_true, Bool.or_eq_true, beq_iff_eq, decide_eq_true_eq, decide_eq_false_iff_not, Bool.not_eq_true', Bool.not_eq_false', Bool.and_eq_false_iff, Bool.or_eq_false_iff] at hk2))
          first
          | exact ay_len_row 0 rfl rfl un_ (by first | (refine og rfl ?_; (first | assumption | (refine gd ?_ ?_ <;> assumption) | (refine gd rfl ?_; assumption) | (apply gl; assumption) | (refine gd (by apply gl; assumption) ?_; assumption) | (simp_all; done))) | exact od rfl) rfl | exact bs_cell0 rfl un_ (by first | (refine og rfl ?_; (first | assumption | (refine gd ?_ ?_ <;> assumption) | (refine gd rfl ?_; assumption) | (apply gl; assumption) | (refine gd (by apply gl; assumption) ?_; assumption) | (simp_all; done))) | exact od rfl)
          | ((first | apply ay_move rfl | apply ay_assign rfl | apply ay_not rfl | apply ay_lss rfl | apply ay_leq rfl | apply ay_gtr rfl | apply ay_geq rfl | apply k_eql rfl | apply k_neq rfl | apply ay_and rfl | apply ay_or rfl | apply ay_call rfl | apply k_len rfl | apply k_ix rfl | apply k_ld rfl | apply k_fa rfl | apply k_fd rfl | apply ay_build rfl st_ | apply ay_extract rfl | apply ay_slice rfl un_ el_ | apply bs_cell1 rfl un_ | apply bs_cell2 rfl un_ | apply kn_add rfl | apply kn_sub rfl | apply kn_mul rfl | apply kn_quo rfl | apply kn_rem rfl)
           <;> (repeat' (
            first
            | ((first | refine og rfl ?_ | refine ogn rfl ?_); (first | assumption | (refine gd ?_ ?_ <;> assumption) | (refine gd rfl ?_; assumption) | (apply gl; assumption) | (refine gd (by apply gl; assumption) ?_; assumption) | (simp_all; done))) | exact odln rfl (by with_reducible rfl) | exact odn rfl | exact od rfl
            | exact c1 | exact f_Cells _
            | exact un_ | exact el_ | exact agg_ | exact sz_ | exact sp_ | exact fl_ | exact st_
            | exact nk_sl un_ | exact nk_row 0 un_ rfl | exact ik_sl un_ el_ (by first | exact hat | exact List.getElem?_eq_getElem (by first | omega | (simp; omega)) | exact get_in (by first | omega | (simp; omega)) | fail) | exact lk_el el_ | exact lk_1 agg_ | exact ak_ip fl_ sp_ | exact dk_1 fl_ agg_ rfl
            | exact lk_v1 0 agg_ rfl rfl | exact lk_v1 1 agg_ rfl rfl | exact lk_vn 0 agg_ sz_ rfl rfl | exact ak_var fl_ sp_
            | fail
            | exact ek_int | exact ek_bool un_ | exact ek_cell
            | exact fit64 (by omega) (by omega) | exact fit32 (by omega) (by omega) | exact fit8 (by omega) (by omega)
            | exact pa_nil | apply pk | exact ca_agg | exact ca_v rfl | exact ca_sl | exact sc_0 | apply SetC.here | apply SetC.next
            | exact opds0 | apply opds1 | exact lo_none | apply lo_k | exact hi_none | apply hi_k
            | exact rfl | omega | intro hp)); done)
          | ((first | apply ay_add rfl | apply ay_sub rfl | apply ay_mul rfl | apply ay_quo rfl | apply ay_rem rfl)
           <;> first | exact (by first | (refine og rfl ?_; (first | assumption | (refine gd ?_ ?_ <;> assumption) | (refine gd rfl ?_; assumption) | (apply gl; assumption) | (refine gd (by apply gl; assumption) ?_; assumption) | (simp_all; done))) | exact od rfl) | omega | exact (by first | exact fit64 (by omega) (by omega) | exact fit32 (by omega) (by omega) | exact fit8 (by omega) (by omega)))
         case hx => rfl
         case hd => rfl)
      | (refine al_last (by kernel_rfl) ?_)
      | (apply al_freezeF 0 rfl
         case hz => repeat' (first | exact fzf_nil | apply fzf_cons | exact fz_here | apply fz_agg | apply fz_tup | exact fz_keep | exact fzl_nil | apply fzl_cons | fail))
      | fail)
      refine ⟨_, [], (by first | exact res1 rfl rfl | exact res2 rfl rfl rfl | exact res3 rfl rfl rfl rfl | exact res0 rfl | fail), List.nil_sublist _, Sub.eq ?_, rfl⟩
      rw [List.take_of_length_le (by omega)]
      simp only [cells2, cellsR, if_pos he, Int.toNat_natCast]
  · have c1 : AP Tryd.prog tab0 31 [I w, I a, slA i32T l] (tupA [slA i64T (layR w a l).1, I (layR w a l).2.1, I (layR w a l).2.2]) := f_Lay w a l
    refine af_intro Tryd.func34 rfl (by decide) Tryd.ntmps34 rfl ?_
    repeat' (first
    | fail
    | refine aw_seq ?_
      | refine aw_region0 ?_
      | refine al_nil ?_
      | refine th_n ?_
      | refine th_e ?_
      | refine th_r ?_
      | refine ib_n ?_
      | refine ib_e rfl ?_
      | refine ib_e' rfl ?_
      | refine ib_r ?_
      | refine aw_block ?_
      | refine aw_exit ?_
      | refine aw_ret ?_
      | refine aw_skip ?_
      | refine aw_region1 (by kernel_rfl) (by kernel_rfl) ?_
      | (refine aw_cond rfl ?_ ?_ <;> intro hb <;> (try simp only [decide_eq_true_eq, decide_eq_false_iff_not, Bool.and_eq_true, Bool.or_eq_true, Bool.not_eq_true', Bool.and_eq_false_iff, Bool.or_eq_false_iff, Bool.not_eq_false'] at hb) <;> (first | (exfalso; omega) | skip))
    | (refine al_es rfl (ao_box rfl (by first | exact od rfl | exact og rfl (by assumption)) (by first | exact ca_agg | exact ca_v rfl | exact ca_sl)) rfl rfl (fun _ _ h => h.elim) ?_; rintro _ _ ⟨bb, rfl, rfl⟩)
    | (refine al_es rfl (ao_empty rfl un_ el_) rfl rfl (fun _ _ h => h.elim) ?_; rintro _ _ ⟨u, rfl, rfl⟩)
    | (refine al_es rfl (ao_append 0 rfl un_ el_ (by first | (refine og rfl ?_; (first | assumption | (refine gd ?_ ?_ <;> assumption) | (refine gd rfl ?_; assumption) | (apply gl; assumption) | (refine gd (by apply gl; assumption) ?_; assumption) | (simp_all; done))) | exact od rfl) rfl (by first | (refine og rfl ?_; (first | assumption | (refine gd ?_ ?_ <;> assumption) | (refine gd rfl ?_; assumption) | (apply gl; assumption) | (refine gd (by apply gl; assumption) ?_; assumption) | (simp_all; done))) | exact od rfl) (by (try simp only [List.length_append, List.length_nil, List.length_cons, List.nil_append, List.length_replicate]); omega) (by (try simp only [List.length_append, List.length_nil, List.length_cons, List.nil_append, List.length_replicate]); simp only [maxLen]; omega)) rfl rfl (fun _ _ h => h.elim) ?_; rintro _ _ ⟨u, rfl, rfl⟩)
    | (apply al_y
       case hy =>
        first
        | apply qy_plain rfl
        | apply qy_run rfl rfl (guard_b rfl) rfl
        | exact qy_skip rfl rfl (guard_b rfl) rfl
        | (apply qy_gv rfl rfl (by first | exact guard_b rfl | exact guard_gv rfl); intro hk; have hk2 := hk; (try simp only [Bool.true_and, Bool.and_eq_true, Bool.or_eq_true, beq_iff_eq, decide_eq_true_eq, decide_eq_false_iff_not, Bool.not_eq_true', Bool.not_eq_false', Bool.and_eq_false_iff, Bool.or_eq_false_iff] at hk2))
        first
        | exact ay_len_row 0 rfl rfl un_ (by first | (refine og rfl ?_; (first | assumption | (refine gd ?_ ?_ <;> assumption) | (refine gd rfl ?_; assumption) | (apply gl; assumption) | (refine gd (by apply gl; assumption) ?_; assumption) | (simp_all; done))) | exact od rfl) rfl | exact bs_cell0 rfl un_ (by first | (refine og rfl ?_; (first | assumption | (refine gd ?_ ?_ <;> assumption) | (refine gd rfl ?_; assumption) | (apply gl; assumption) | (refine gd (by apply gl; assumption) ?_; assumption) | (simp_all; done))) | exact od rfl)
        | ((first | apply ay_move rfl | apply ay_assign rfl | apply ay_not rfl | apply ay_lss rfl | apply ay_leq rfl | apply ay_gtr rfl | apply ay_geq rfl | apply k_eql rfl | apply k_neq rfl | apply ay_and rfl | apply ay_or rfl | apply ay_call rfl | apply k_len rfl | apply k_ix rfl | apply k_ld rfl | apply k_fa rfl | apply k_fd rfl | apply ay_build rfl st_ | apply ay_extract rfl | apply ay_slice rfl un_ el_ | apply bs_cell1 rfl un_ | apply bs_cell2 rfl un_ | apply kn_add rfl | apply kn_sub rfl | apply kn_mul rfl | apply kn_quo rfl | apply kn_rem rfl)
         <;> (repeat' (
          first
          | ((first | refine og rfl ?_ | refine ogn rfl ?_); (first | assumption | (refine gd ?_ ?_ <;> assumption) | (refine gd rfl ?_; assumption) | (apply gl; assumption) | (refine gd (by apply gl; assumption) ?_; assumption) | (simp_all; done))) | exact odln rfl (by with_reducible rfl) | exact odn rfl | exact od rfl
          | exact c1 | exact f_Cells _
          | exact un_ | exact el_ | exact agg_ | exact sz_ | exact sp_ | exact fl_ | exact st_
          | exact nk_sl un_ | exact nk_row 0 un_ rfl | exact ik_sl un_ el_ (by first | exact hat | exact List.getElem?_eq_getElem (by first | omega | (simp; omega)) | exact get_in (by first | omega | (simp; omega)) | fail) | exact lk_el el_ | exact lk_1 agg_ | exact ak_ip fl_ sp_ | exact dk_1 fl_ agg_ rfl
          | exact lk_v1 0 agg_ rfl rfl | exact lk_v1 1 agg_ rfl rfl | exact lk_vn 0 agg_ sz_ rfl rfl | exact ak_var fl_ sp_
          | fail
          | exact ek_int | exact ek_bool un_ | exact ek_cell
          | exact fit64 (by omega) (by omega) | exact fit32 (by omega) (by omega) | exact fit8 (by omega) (by omega)
          | exact pa_nil | apply pk | exact ca_agg | exact ca_v rfl | exact ca_sl | exact sc_0 | apply SetC.here | apply SetC.next
          | exact opds0 | apply opds1 | exact lo_none | apply lo_k | exact hi_none | apply hi_k
          | exact rfl | omega | intro hp)); done)
        | ((first | apply ay_add rfl | apply ay_sub rfl | apply ay_mul rfl | apply ay_quo rfl | apply ay_rem rfl)
         <;> first | exact (by first | (refine og rfl ?_; (first | assumption | (refine gd ?_ ?_ <;> assumption) | (refine gd rfl ?_; assumption) | (apply gl; assumption) | (refine gd (by apply gl; assumption) ?_; assumption) | (simp_all; done))) | exact od rfl) | omega | exact (by first | exact fit64 (by omega) (by omega) | exact fit32 (by omega) (by omega) | exact fit8 (by omega) (by omega)))
       case hx => rfl
       case hd => rfl)
    | (refine al_last (by kernel_rfl) ?_)
    | (apply al_freezeF 0 rfl
       case hz => repeat' (first | exact fzf_nil | apply fzf_cons | exact fz_here | apply fz_agg | apply fz_tup | exact fz_keep | exact fzl_nil | apply fzl_cons | fail))
    | fail)
    · refine ⟨_, [], (by first | exact res1 rfl rfl | exact res2 rfl rfl rfl | exact res3 rfl rfl rfl rfl | exact res0 rfl | fail), List.nil_sublist _, ?_, rfl⟩
      simp only [cells2, cellsR, if_neg he]
      exact sub_tup (subl1 sub_nil (subl1 (Sub.refl _) subl0))
    all_goals exact absurd hb he
end Go.Proofs.YtdnoealpchehlaaDoor
