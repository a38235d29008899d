/- Layer 27 (belief): is a belief right, by the program. No condition. -/
import Derived.Test.YtockidoncngdbaaGreatDoorQ2B3
namespace Go.Proofs.YtockidoncngdbaaGreatDoor
set_option linter.unusedSimpArgs false
set_option linter.unusedVariables false
set_option linter.unusedSectionVars false
set_option maxHeartbeats 4000000
open Go Go.RowKit
theorem resCell1 {T0 : Gh} {fr : Fr} {M : List Own} {P : Program} {fn : Func} {s t e b : Nat} {A : AV} (h : fn.results = #[.cell s t]) (ha : ∀ w, (isAgg t).run P w = .ok false w) (hs : fr.get s = some (vA (.pointer (some ⟨b, 0, none⟩)))) (hM : varO b e [A] ∈ M) : ResA P T0 fn fr M A := fun w0 G F tmps w st hr => by
  obtain ⟨cs, h3, h4⟩ := st.own _ (List.mem_append_left F hM)
  obtain ⟨u, rfl⟩ : ∃ u, cs = [u] := List.length_eq_one_iff.1 h4.len
  have h5 := (slot_get hr hs).eq
  have h6 := run_loadVar1 ha h3
  refine ⟨u, ?_, h4.1⟩
  have h' : fn.results = [ResultVar.cell s t].toArray := by rw [h]
  rw [results_rv, h', List.mapM_toArray]
  simp only [List.mapM_cons, List.mapM_nil, rvOf, Sem.run_bind, map_eq_pure_bind, bind_assoc, Sem.run_pure, h5, asAddr, h6, Result.andThen_ok, pure_bind]
  simp
theorem ibm_n {id : Nat} {f : List Deferred → Fr → List Own → Prop} {Q : PostM} {D : List Deferred} {fr : Fr} {M : List Own} (h : f D fr M) : inBlockA id (thenM f Q D) .normal fr M := h
theorem ibm_r {id : Nat} {f : List Deferred → Fr → List Own → Prop} {Q : PostM} {D : List Deferred} {fr : Fr} {M : List Own} (h : Q D .ret fr M) : inBlockA id (thenM f Q D) .ret fr M := h
variable {T0 : Gh} [TabS T0]
attribute [local irreducible] thenA inBlockA AW AL AO QY varO rowO rsA Opd OpdN vA gvA tupA aggA slA slcA ipA rpA EqK LnK IxK LdK FaK FdK
set_option maxRecDepth 100000
instance cAgBo : AggC 4 false := ⟨na_bool⟩
instance cAlBo : AlC 4 (.bool false) [.bool false] [B false] := ⟨by kernel_rfl, rfl, rfl⟩
theorem perm3 {α : Type _} (r a b c d : α) : List.Perm [r, a, b, c, d] [a, b, c, r, d] := (List.perm_middle (l₁ := [a, b, c]) (a := r) (l₂ := [d])).symm
theorem okBe_no {w h x y : Int} {l : List Guess} {b s : Bool} (hn : ¬ (sidesM w h = true ∧ (l.length : Int) = w * h)) : okBe w h l x y b s = false := by
  unfold okBe
  rw [show decide (OkL w h l) = false from decide_eq_false_iff_not.2 fun ⟨a, c, _⟩ => hn ⟨by simpa [sidesM, and_assoc] using a, c⟩]; rfl
theorem f_beIs0 (w h : Int) (l : List Guess) (x y : Int) (b s : Bool) (hs : sidesM w h ≠ true) : AP Tryz.prog T0 8 [belA w h l x y b s] (B (okBe w h l x y b s)) := by
  rw [okBe_no (fun h => hs h.1)]
  have c1 : AP Tryz.prog T0 35 [I w, I h] (tupA [gridA 0 0 [], I 4]) := (f_New w h).to (by simp only [newR, hs, grid2]; rfl)
  refine af_intro Tryz.func8 rfl (by decide) Tryz.ntmps8 rfl ?_
  repeat' (first
  | fail
  | refine s_y ?_
    | refine c_ ?_
    | (refine aw_if ?_ ?_ <;> intro hb <;> try (exfalso; first | assumption | omega | (simp only [or_self, and_self, not_true_eq_false, not_false_eq_true, or_false, false_or, and_false, false_and, true_and, and_true] at hb; first | done | omega)))
    | refine s_call ?_ (c := by first | exact c1 | fail)
    | refine s_op ?_ (hy := by first | fail | fail)
    | refine s_yg ?_
    | refine s_callg ?_ (c := by intro hk hk2; first | exact c1 | fail)
    | refine s_opg ?_ (hy := by intro hk hk2; first | fail | fail)
    | refine s_skip ?_
    | ((first | refine w_alloc ?_ | refine w_box ?_) <;> intro bb)
    | ((first | refine w_emp ?_ | refine w_make ?_ | refine w_app ?_) <;> intro u hu1 hu2)
    | refine w_stv ?_ | refine w_str ?_ | refine w_cpr ?_ | refine w_cps ?_
    | refine al_last (by kernel_rfl) ?_
  | fail)
  all_goals first | exact ⟨_, [], resCell1 rfl agg_ rfl mem_, List.nil_sublist _, Sub.refl _, rfl⟩ | skip
theorem f_beIs1 (w h : Nat) (l : List Guess) (x y : Int) (b s : Bool) (h1 : 2 ≤ w) (h2 : w ≤ 80) (h3 : 1 ≤ h) (h4 : h ≤ 24) (hl : l.length ≠ w * h) : AP Tryz.prog T0 8 [belA w h l x y b s] (B (okBe w h l x y b s)) := by
  have hb := side_le h2 h4
  have hnn : (0 : Int) ≤ ((w * h : Nat) : Int) := Int.natCast_nonneg _
  rw [okBe_no (fun h => hl (by have := h.2; rw [← Int.natCast_mul] at this; omega))]
  have c1 : AP Tryz.prog T0 35 [I w, I h] (tupA [gridA w h (List.replicate (w * h) (32, 0)), I 0]) := (f_New w h).to (by rw [newR, if_pos (by simp [sidesM]; omega)]; rfl)
  generalize List.replicate (w * h) ((32, 0) : Cell) = g0 at *
  refine af_intro Tryz.func8 rfl (by decide) Tryz.ntmps8 rfl ?_
  repeat' (first
  | fail
  | refine s_y ?_
    | refine c_ ?_
    | (refine aw_if ?_ ?_ <;> intro hb <;> try (exfalso; first | assumption | omega | (simp only [or_self, and_self, not_true_eq_false, not_false_eq_true, or_false, false_or, and_false, false_and, true_and, and_true] at hb; first | done | omega)))
    | refine s_call ?_ (c := by first | exact c1 | fail)
    | refine s_op ?_ (hy := by first | fail | fail)
    | refine s_yg ?_
    | refine s_callg ?_ (c := by intro hk hk2; first | exact c1 | fail)
    | refine s_opg ?_ (hy := by intro hk hk2; first | fail | fail)
    | refine s_skip ?_
    | ((first | refine w_alloc ?_ | refine w_box ?_) <;> intro bb)
    | ((first | refine w_emp ?_ | refine w_make ?_ | refine w_app ?_) <;> intro u hu1 hu2)
    | refine w_stv ?_ | refine w_str ?_ | refine w_cpr ?_ | refine w_cps ?_
    | refine al_last (by kernel_rfl) ?_
  | fail)
  all_goals first | exact ⟨_, [], resCell1 rfl agg_ rfl mem_, List.nil_sublist _, Sub.refl _, rfl⟩ | skip
theorem f_beIs2 (w h : Nat) (l : List Guess) (x y : Int) (b s : Bool) (h1 : 2 ≤ w) (h2 : w ≤ 80) (h3 : 1 ≤ h) (h4 : h ≤ 24) (hl : l.length = w * h) : AP Tryz.prog T0 8 [belA w h l x y b s] (B (okBe w h l x y b s)) := by
  have hb := side_le h2 h4
  have hnn : (0 : Int) ≤ ((w * h : Nat) : Int) := Int.natCast_nonneg _
  have c1 : AP Tryz.prog T0 35 [I w, I h] (tupA [gridA w h (List.replicate (w * h) (32, 0)), I 0]) := (f_New w h).to (by rw [newR, if_pos (by simp [sidesM]; omega)]; rfl)
  generalize List.replicate (w * h) ((32, 0) : Cell) = g0 at *
  have hall : okBe w h l x y b s = ((decide (∀ y, y < h → rowGs (rowOf w l y) = true)) && curB w h x y b s) := by
    unfold okBe; congr 1
    rw [decide_eq_decide, rows_gs (by omega) hl]
    exact ⟨fun k => by simpa using k.2.2, fun k => ⟨⟨by omega, by omega, by omega, by omega⟩, by rw [hl]; exact Int.natCast_mul w h, by simpa using k⟩⟩
  generalize okBe w h l x y b s = ok at *
  have hx := fun b2 b3 => x_chunk l w h b2 b3 (by omega) h2 hl (by omega)
  refine af_introM Tryz.func8 rfl (by decide) Tryz.ntmps8 rfl ?_
  refine awm_seq ?_
  repeat' (first
  | (apply al_call0 rfl rfl rfl rfl (c := f_chunk l w (by omega))
     case ha => exact os_
     rintro _ _ ⟨b2, b3, rfl, rfl⟩)
  | refine s_y ?_
    | refine c_ ?_
    | (refine aw_if ?_ ?_ <;> intro hb <;> try (exfalso; first | assumption | omega | (simp only [or_self, and_self, not_true_eq_false, not_false_eq_true, or_false, false_or, and_false, false_and, true_and, and_true] at hb; first | done | omega)))
    | refine s_call ?_ (c := by first | exact c1 | exact f_beRow _ (by omega) | fail)
    | refine s_op ?_ (hy := by first | fail | fail)
    | refine s_yg ?_
    | refine s_callg ?_ (c := by intro hk hk2; first | exact c1 | exact f_beRow _ (by omega) | fail)
    | refine s_opg ?_ (hy := by intro hk hk2; first | fail | fail)
    | refine s_skip ?_
    | ((first | refine w_alloc ?_ | refine w_box ?_) <;> intro bb)
    | ((first | refine w_emp ?_ | refine w_make ?_ | refine w_app ?_) <;> intro u hu1 hu2)
    | refine w_stv ?_ | refine w_str ?_ | refine w_cpr ?_ | refine w_cps ?_
    | refine al_last (by kernel_rfl) ?_
  | fail)
  refine awm_seq ?_
  repeat' (first
  | (apply al_call0 rfl rfl rfl rfl (c := f_chunk l w (by omega))
     case ha => exact os_
     rintro _ _ ⟨b2, b3, rfl, rfl⟩)
  | refine s_y ?_
    | refine c_ ?_
    | (refine aw_if ?_ ?_ <;> intro hb <;> try (exfalso; first | assumption | omega | (simp only [or_self, and_self, not_true_eq_false, not_false_eq_true, or_false, false_or, and_false, false_and, true_and, and_true] at hb; first | done | omega)))
    | refine s_call ?_ (c := by first | exact c1 | exact f_beRow _ (by omega) | fail)
    | refine s_op ?_ (hy := by first | fail | fail)
    | refine s_yg ?_
    | refine s_callg ?_ (c := by intro hk hk2; first | exact c1 | exact f_beRow _ (by omega) | fail)
    | refine s_opg ?_ (hy := by intro hk hk2; first | fail | fail)
    | refine s_skip ?_
    | ((first | refine w_alloc ?_ | refine w_box ?_) <;> intro bb)
    | ((first | refine w_emp ?_ | refine w_make ?_ | refine w_app ?_) <;> intro u hu1 hu2)
    | refine w_stv ?_ | refine w_str ?_ | refine w_cpr ?_ | refine w_cps ?_
    | refine al_last (by kernel_rfl) ?_
  | fail)
  all_goals first | (exfalso; omega) | (exfalso; simp at hb; omega) | skip
  refine awm_seqM ?_
  refine awm_seq ?_
  repeat' (first
  | (apply al_call0 rfl rfl rfl rfl (c := f_chunk l w (by omega))
     case ha => exact os_
     rintro _ _ ⟨b2, b3, rfl, rfl⟩)
  | refine s_y ?_
    | refine c_ ?_
    | (refine aw_if ?_ ?_ <;> intro hb <;> try (exfalso; first | assumption | omega | (simp only [or_self, and_self, not_true_eq_false, not_false_eq_true, or_false, false_or, and_false, false_and, true_and, and_true] at hb; first | done | omega)))
    | refine s_call ?_ (c := by first | exact c1 | exact f_beRow _ (by omega) | fail)
    | refine s_op ?_ (hy := by first | fail | fail)
    | refine s_yg ?_
    | refine s_callg ?_ (c := by intro hk hk2; first | exact c1 | exact f_beRow _ (by omega) | fail)
    | refine s_opg ?_ (hy := by intro hk hk2; first | fail | fail)
    | refine s_skip ?_
    | ((first | refine w_alloc ?_ | refine w_box ?_) <;> intro bb)
    | ((first | refine w_emp ?_ | refine w_make ?_ | refine w_app ?_) <;> intro u hu1 hu2)
    | refine w_stv ?_ | refine w_str ?_ | refine w_cpr ?_ | refine w_cps ?_
    | refine al_last (by kernel_rfl) ?_
  | fail)
  refine awm_block ?_
  rename_i a1 a2 a3 
  refine awm_range (fun pre => ∀ r ∈ pre, rowGs r = true) (fun pre => ∃ r ∈ pre, rowGs r = false) (fun _ => [varO a3 4 [B false]]) (fun _ => [varO a3 4 [B false]]) [_, _] [_, _] (fun _ hr => by cases hr) (perm3 _ _ _ _ _) rfl (hx _ _) rfl ?_ ?_ ?_
  · intro lo pre r t hpr hpre
    have hr : r.length ≤ 100000 := by
      have : r ∈ (List.range h).map (rowOf w l) := by rw [← hpr]; simp
      obtain ⟨yy, hy, rfl⟩ := List.mem_map.1 this
      rw [rowOf_len hl (by simpa using hy)]; omega
    repeat' (first
    | (apply al_call0 rfl rfl rfl rfl (c := f_chunk l w (by omega))
       case ha => exact os_
       rintro _ _ ⟨b2, b3, rfl, rfl⟩)
    | refine awr_seq ?_
    | refine awr_block ?_
    | refine awr_region0 rfl (by (repeat' (first | refine no_th ?_ | refine no_ib ?_)); first | exact noq_round | exact noq_no) ?_
    | refine awr_region1 rfl (by kernel_rfl) rfl (by (repeat' (first | refine no_th ?_ | refine no_ib ?_)); first | exact noq_round | exact noq_no) ?_
    | refine awr_skip ?_
    | refine awr_ret ?_
    | (refine awr_cond rfl ?_ ?_ <;> intro hb)
    | refine s_y ?_
      | refine c_ ?_
      | (refine aw_if ?_ ?_ <;> intro hb <;> try (exfalso; first | assumption | omega | (simp only [or_self, and_self, not_true_eq_false, not_false_eq_true, or_false, false_or, and_false, false_and, true_and, and_true] at hb; first | done | omega)))
      | refine s_call ?_ (c := by first | exact c1 | exact f_beRow _ (by omega) | fail)
      | refine s_op ?_ (hy := by first | fail | fail)
      | refine s_yg ?_
      | refine s_callg ?_ (c := by intro hk hk2; first | exact c1 | exact f_beRow _ (by omega) | fail)
      | refine s_opg ?_ (hy := by intro hk hk2; first | fail | fail)
      | refine s_skip ?_
      | ((first | refine w_alloc ?_ | refine w_box ?_) <;> intro bb)
      | ((first | refine w_emp ?_ | refine w_make ?_ | refine w_app ?_) <;> intro u hu1 hu2)
      | refine w_stv ?_ | refine w_str ?_ | refine w_cpr ?_ | refine w_cps ?_
      | refine al_last (by kernel_rfl) ?_
    | fail)
    · exact ⟨⟨r, by simp, by simpa using hb⟩, List.Sublist.refl _⟩
    · refine ⟨fun r' hr' => ?_, List.Sublist.refl _⟩
      rcases List.mem_append.1 hr' with h | h
      · exact hpre r' h
      · rw [List.mem_singleton.1 h]; simpa using hb
  · intro d hok
    have h0 : decide (∀ y, y < h → rowGs (rowOf w l y) = true) = true := decide_eq_true fun y hy => hok _ (List.mem_map.2 ⟨y, by simpa using hy, rfl⟩)
    rw [h0, Bool.true_and] at hall
    refine ibm_n (awm_aw ?_)
    repeat' (first
    | (apply al_call0 rfl rfl rfl rfl (c := f_chunk l w (by omega))
       case ha => exact os_
       rintro _ _ ⟨b2, b3, rfl, rfl⟩)
    | refine s_y ?_
      | refine c_ ?_
      | (refine aw_if ?_ ?_ <;> intro hb <;> try (exfalso; first | assumption | omega | (simp only [or_self, and_self, not_true_eq_false, not_false_eq_true, or_false, false_or, and_false, false_and, true_and, and_true] at hb; first | done | omega)))
      | refine s_call ?_ (c := by first | exact c1 | exact f_beRow _ (by omega) | fail)
      | refine s_op ?_ (hy := by first | fail | fail)
      | refine s_yg ?_
      | refine s_callg ?_ (c := by intro hk hk2; first | exact c1 | exact f_beRow _ (by omega) | fail)
      | refine s_opg ?_ (hy := by intro hk hk2; first | fail | fail)
      | refine s_skip ?_
      | ((first | refine w_alloc ?_ | refine w_box ?_) <;> intro bb)
      | ((first | refine w_emp ?_ | refine w_make ?_ | refine w_app ?_) <;> intro u hu1 hu2)
      | refine w_stv ?_ | refine w_str ?_ | refine w_cpr ?_ | refine w_cps ?_
      | refine al_last (by kernel_rfl) ?_
    | fail)
    · have hs : s = false := by simpa using hb
      refine retM_mark (resCell1 rfl agg_ rfl (List.Mem.head _)) (List.nil_sublist _) ⟨Sub.eq (congrArg B ?_), rfl⟩
      rw [hall, hs]; rfl
    · have hs : s = true := by simpa using hb
      refine retM_mark (resCell1 rfl agg_ rfl (List.Mem.head _)) (List.nil_sublist _) ⟨Sub.eq (congrArg B ?_), rfl⟩
      rw [hall, hs, show (((w - 1 : Nat) : Int)) = (w : Int) - 1 by omega]; rfl
  · intro d pre t hpr hbad
    obtain ⟨r, hr, hr2⟩ := hbad
    have h0 : decide (∀ y, y < h → rowGs (rowOf w l y) = true) = false := decide_eq_false fun k => by
      have : r ∈ (List.range h).map (rowOf w l) := by rw [← hpr]; exact List.mem_append_left _ hr
      obtain ⟨yy, hy, rfl⟩ := List.mem_map.1 this
      rw [k yy (by simpa using hy)] at hr2; cases hr2
    rw [h0, Bool.false_and] at hall
    refine ibm_r ?_
    refine retM_mark (resCell1 rfl agg_ rfl (List.Mem.head _)) (List.nil_sublist _) ⟨Sub.eq (congrArg B ?_), rfl⟩
    exact hall.symm
theorem f_beIs (w h : Int) (l : List Guess) (x y : Int) (b s : Bool) : AP Tryz.prog T0 8 [belA w h l x y b s] (B (okBe w h l x y b s)) := by
  by_cases hs : sidesM w h = true
  · obtain ⟨w, h, rfl, rfl, h1, h2, h3, h4⟩ := sides_nat hs
    by_cases hl : l.length = w * h
    · exact f_beIs2 w h l x y b s h1 h2 h3 h4 hl
    · exact f_beIs1 w h l x y b s h1 h2 h3 h4 hl
  · exact f_beIs0 w h l x y b s hs
end Go.Proofs.YtockidoncngdbaaGreatDoor
