/- Layer 27 (belief): the reference: new beliefs, are they right, what is laid, what is scrolled, where the cursor goes. No condition. -/
import Derived.Test.YtockidoncngdbaaGreatDoorQ2BA
import Derived.Test.YtockidoncngdbaaGreatDoorQ2H1
import Derived.Test.YtockidoncngdbaaGreatDoorQ2B4
namespace Go.Proofs.YtockidoncngdbaaGreatDoor
set_option linter.unusedSimpArgs false
set_option linter.unusedVariables false
set_option linter.unusedSectionVars false
set_option maxHeartbeats 4000000
open Go Go.RowKit
variable {T0 : Gh} [TabS T0]
attribute [local irreducible] thenA inBlockA AW AL AO QY varO rowO rsA Opd OpdN vA gvA tupA aggA slA slcA ipA rpA EqK LnK IxK LdK FaK FdK
set_option maxRecDepth 100000
theorem sidesM_t {w h : Nat} (h1 : 2 ≤ w) (h2 : w ≤ 80) (h3 : 1 ≤ h) (h4 : h ≤ 24) : sidesM w h = true := by simp [sidesM]; omega
theorem f_ref27NewO (w h : Nat) (h1 : 2 ≤ w) (h2 : w ≤ 80) (h3 : 1 ≤ h) (h4 : h ≤ 24) : AF Tryz.prog T0 47 [I w, I h] [] (fun A M' => ∃ u, A = tupA [aggA [I w, I h, vA u, I 0, I 0, B false, B false], I 0] ∧ M' = [rowO guT 65 u (List.replicate (w * h) gZero)]) := by
  have hb := side_le h2 h4
  have hnn : (0 : Int) ≤ ((w * h : Nat) : Int) := Int.natCast_nonneg _
  have c1 : AP Tryz.prog T0 44 [I w, I h] (B true) := (f_ref03Sides w h).to (by rw [sidesM_t h1 h2 h3 h4])
  refine af_intro Tryz.func47 rfl (by decide) Tryz.ntmps47 rfl ?_
  repeat' (first
  | fail
  | refine s_y ?_
    | refine c_ ?_
    | (refine aw_if ?_ ?_ <;> intro hb <;> try (exfalso; first | assumption | omega | (simp only [or_self, and_self, not_true_eq_false, not_false_eq_true, or_false, false_or, and_false, false_and, true_and, and_true] at hb; first | done | omega)))
    | refine s_call ?_ (c := by first | exact c1 | fail)
    | refine s_op ?_ (hy := by first | exact AY.sub (ay_buildSlice (T := guT) [((0, 0), false)] rfl un_ el_ rfl (by decide) ⟨_, px_, rfl⟩) sub_slc | fail)
    | refine s_yg ?_
    | refine s_callg ?_ (c := by intro hk hk2; first | exact c1 | fail)
    | refine s_opg ?_ (hy := by intro hk hk2; first | exact AY.sub (ay_buildSlice (T := guT) [((0, 0), false)] rfl un_ el_ rfl (by decide) ⟨_, px_, rfl⟩) sub_slc | fail)
    | refine s_skip ?_
    | ((first | refine w_alloc ?_ | refine w_box ?_) <;> intro bb)
    | ((first | refine w_emp ?_ | refine w_make ?_ | refine w_app ?_) <;> intro u hu1 hu2)
    | refine w_stv ?_ | refine w_str ?_ | refine w_cpr ?_ | refine w_cps ?_
    | refine al_last (by kernel_rfl) ?_
  | fail)
  all_goals first | (exfalso; simp at hb; done) | skip
  rename_i b4
  refine aw_nil guT 65 ?_
  refine aw_fl2 (fun (k : Nat) (u : Value) => [(0, I w), (1, I h), (4, vA (.pointer (some ⟨b4, 0, none⟩))), (6, vA (.pointer (some ⟨bb, 0, none⟩))), (7, I k)]) (fun k u => [rowO guT 65 u (List.replicate k gZero), varO bb 24 [I w, I h, vA u, I 0, I 0, B false, B false], varO b4 24 [I 0, I 0, vA (.slice none 0 0), I 0, I 0, B false, B false]]) (fun k _ => k ≤ w * h) (fun k _ => w * h - k) 0 _ (Nat.zero_le _) wk_ (List.Sublist.refl _) ?_
  rintro k u i1
  refine aw_rowc (List.Mem.head _) fun hu1 hu2 => ?_
  by_cases hlt : k < w * h
  · repeat' (first
    | fail
    | refine s_y ?_
      | refine c_ ?_
      | (refine aw_if ?_ ?_ <;> intro hb <;> try (exfalso; first | assumption | omega | (simp only [or_self, and_self, not_true_eq_false, not_false_eq_true, or_false, false_or, and_false, false_and, true_and, and_true] at hb; first | done | omega)))
      | refine s_call ?_ (c := by first | exact c1 | fail)
      | refine s_op ?_ (hy := by first | exact AY.sub (ay_buildSlice (T := guT) [((0, 0), false)] rfl un_ el_ rfl (by decide) ⟨_, px_, rfl⟩) sub_slc | fail)
      | refine s_yg ?_
      | refine s_callg ?_ (c := by intro hk hk2; first | exact c1 | fail)
      | refine s_opg ?_ (hy := by intro hk hk2; first | exact AY.sub (ay_buildSlice (T := guT) [((0, 0), false)] rfl un_ el_ rfl (by decide) ⟨_, px_, rfl⟩) sub_slc | fail)
      | refine s_skip ?_
      | ((first | refine w_alloc ?_ | refine w_box ?_) <;> intro bb)
      | ((first | refine w_emp ?_ | refine w_make ?_ | refine w_app ?_) <;> intro u hu1 hu2)
      | refine w_stv ?_ | refine w_str ?_ | refine w_cpr ?_ | refine w_cps ?_
      | refine al_last (by kernel_rfl) ?_
    | fail)
    exact ⟨k + 1, _, by omega, by omega, wk_, by rw [List.replicate_succ']; exact List.Sublist.refl _⟩
  · repeat' (first
    | fail
    | refine s_y ?_
      | refine c_ ?_
      | (refine aw_if ?_ ?_ <;> intro hb <;> try (exfalso; first | assumption | omega | (simp only [or_self, and_self, not_true_eq_false, not_false_eq_true, or_false, false_or, and_false, false_and, true_and, and_true] at hb; first | done | omega)))
      | refine s_call ?_ (c := by first | exact c1 | fail)
      | refine s_op ?_ (hy := by first | exact AY.sub (ay_buildSlice (T := guT) [((0, 0), false)] rfl un_ el_ rfl (by decide) ⟨_, px_, rfl⟩) sub_slc | fail)
      | refine s_yg ?_
      | refine s_callg ?_ (c := by intro hk hk2; first | exact c1 | fail)
      | refine s_opg ?_ (hy := by intro hk hk2; first | exact AY.sub (ay_buildSlice (T := guT) [((0, 0), false)] rfl un_ el_ rfl (by decide) ⟨_, px_, rfl⟩) sub_slc | fail)
      | refine s_skip ?_
      | ((first | refine w_alloc ?_ | refine w_box ?_) <;> intro bb)
      | ((first | refine w_emp ?_ | refine w_make ?_ | refine w_app ?_) <;> intro u hu1 hu2)
      | refine w_stv ?_ | refine w_str ?_ | refine w_cpr ?_ | refine w_cps ?_
      | refine al_last (by kernel_rfl) ?_
    | fail)
    exact ⟨_, [rowO guT 65 u (List.replicate k gZero)], rl_, sl_, u, rfl, by rw [show k = w * h by omega]⟩
theorem f_ref27New (w h : Int) : AP Tryz.prog T0 47 [I w, I h] (tupA [blA (newB w h).1, I (newB w h).2]) := by
  by_cases hs : sidesM w h = true
  · obtain ⟨w, h, rfl, rfl, h1, h2, h3, h4⟩ := sides_nat hs
    have := (f_ref27NewO (T0 := T0) w h h1 h2 h3 h4).frz1 fza_
    rw [newB, if_pos hs]
    simpa only [Int.toNat_natCast] using this
  · have c1 : AP Tryz.prog T0 44 [I w, I h] (B false) := (f_ref03Sides w h).to (by simp [hs])
    rw [newB, if_neg hs]
    refine af_intro Tryz.func47 rfl (by decide) Tryz.ntmps47 rfl ?_
    repeat' (first
    | fail
    | refine s_y ?_
      | refine c_ ?_
      | (refine aw_if ?_ ?_ <;> intro hb <;> try (exfalso; first | assumption | omega | (simp only [or_self, and_self, not_true_eq_false, not_false_eq_true, or_false, false_or, and_false, false_and, true_and, and_true] at hb; first | done | omega)))
      | refine s_call ?_ (c := by first | exact c1 | fail)
      | refine s_op ?_ (hy := by first | exact AY.sub (ay_buildSlice (T := guT) [((0, 0), false)] rfl un_ el_ rfl (by decide) ⟨_, px_, rfl⟩) sub_slc | fail)
      | refine s_yg ?_
      | refine s_callg ?_ (c := by intro hk hk2; first | exact c1 | fail)
      | refine s_opg ?_ (hy := by intro hk hk2; first | exact AY.sub (ay_buildSlice (T := guT) [((0, 0), false)] rfl un_ el_ rfl (by decide) ⟨_, px_, rfl⟩) sub_slc | fail)
      | refine s_skip ?_
      | ((first | refine w_alloc ?_ | refine w_box ?_) <;> intro bb)
      | ((first | refine w_emp ?_ | refine w_make ?_ | refine w_app ?_) <;> intro u hu1 hu2)
      | refine w_stv ?_ | refine w_str ?_ | refine w_cpr ?_ | refine w_cps ?_
      | refine al_last (by kernel_rfl) ?_
    | fail)
    all_goals first | (exfalso; simp at hb; done) | exact ⟨_, [], rl_, List.nil_sublist _, sub_tup (subl1 (sub_agg (subl1 (Sub.refl _) (subl1 (Sub.refl _) (subl1 sub_nilB (subl1 (Sub.refl _) (subl1 (Sub.refl _) (subl1 (Sub.refl _) (subl1 (Sub.refl _) subl0)))))))) (subl1 (Sub.refl _) subl0)), rfl⟩ | skip
theorem f_guess (w h : Nat) (l : List Guess) (x y : Int) (b s : Bool) (i : Nat) (hl : l.length = w * h) (hb : w * h ≤ 1920) (h1 : 2 ≤ w) (h2 : w ≤ 80) (h3 : 1 ≤ h) (hi : i < l.length) : AP Tryz.prog T0 45 [belA w h l x y b s, I i] (B (gsOk w l i)) := by
  have hat := g_in hi
  have hnx : i % w < w - 1 → i + 1 < l.length := fun k => by
    rcases Nat.lt_or_ge (i + 1) l.length with z | z
    · exact z
    · have := last_mod (w := w) (h := h) (j := i) (by omega) h3 (by omega); omega
  have hpv : 0 < i % w → 1 ≤ i := fun k => by
    rcases Nat.eq_zero_or_pos i with h | h
    · subst h; simp at k
    · exact h
  have hm := Nat.mod_lt i (show 0 < w by omega)
  have gn : i + 1 < l.length → l[i + 1]? = some (gAt l (i + 1)) := fun h => g_in h
  have gp : 1 ≤ i → l[i - 1]? = some (gAt l (i - 1)) := fun h => g_in (by omega)
  have hr : gsOk w l i = gsOk w l i := rfl
  conv at hr => rhs; unfold gsOk
  generalize gAt l (i + 1) = gx at *
  generalize gAt l (i - 1) = gy at *
  generalize gsOk w l i = rk at *
  generalize gAt l i = g at *
  obtain ⟨⟨x1, x2⟩, x3⟩ := gx
  obtain ⟨⟨y1, y2⟩, y3⟩ := gy
  obtain ⟨⟨c1, c2⟩, sg⟩ := g
  refine af_intro Tryz.func45 rfl (by decide) Tryz.ntmps45 rfl ?_
  repeat' (first
  | refine s_op ?_ (hy := by first | (apply k_ix rfl; exact oo_; exact on_; apply ik_sl un_ el_; first | exact hat | exact gn gb_ | exact gp gb_) | fail)
    | refine s_opg ?_ (hy := by intro hk hk2; first | (apply k_ix rfl; exact oog_; exact ong_; apply ik_sl un_ el_; first | exact gn gb_ | exact gp gb_) | fail)
  | refine s_y ?_
    | refine c_ ?_
    | (refine aw_if ?_ ?_ <;> intro hb <;> try (exfalso; first | assumption | omega | (simp only [or_self, and_self, not_true_eq_false, not_false_eq_true, or_false, false_or, and_false, false_and, true_and, and_true] at hb; first | done | omega)))
    | refine s_call ?_ (c := by first | exact f_ref02Is (_, _) | fail)
    | refine s_op ?_ (hy := by first | exact ay_loadn rfl agg_ sz_ oo_ (Nat.le_of_ble_eq_true rfl) | exact ay_loadn rfl agg_ sz_ oog_ (Nat.le_of_ble_eq_true rfl) | fail)
    | refine s_yg ?_
    | refine s_callg ?_ (c := by intro hk hk2; first | exact f_ref02Is (_, _) | fail)
    | refine s_opg ?_ (hy := by intro hk hk2; first | exact ay_loadn rfl agg_ sz_ oo_ (Nat.le_of_ble_eq_true rfl) | exact ay_loadn rfl agg_ sz_ oog_ (Nat.le_of_ble_eq_true rfl) | fail)
    | refine s_skip ?_
    | ((first | refine w_alloc ?_ | refine w_box ?_) <;> intro bb)
    | ((first | refine w_emp ?_ | refine w_make ?_ | refine w_app ?_) <;> intro u hu1 hu2)
    | refine w_stv ?_ | refine w_str ?_ | refine w_cpr ?_ | refine w_cps ?_
    | refine al_last (by kernel_rfl) ?_
  | fail)
  all_goals first | refine ⟨_, [], rl_, List.nil_sublist _, Sub.eq (congrArg B ?_), rfl⟩ | skip
  all_goals first | rw [hr] | skip
  all_goals first | (simp_all; done) | (cases sg <;> simp_all; done) | skip
  · rw [show decide (((i % w : Nat) : Int) < ((w - 1 : Nat) : Int)) = decide (i % w < w - 1) by rw [decide_eq_decide]; omega]
    generalize decide (i % w < w - 1) = q at *
    cases x3 <;> simp_all
  · rw [show decide ((0 : Int) < ((i % w : Nat) : Int)) = decide (0 < i % w) by rw [decide_eq_decide]; omega]
    generalize decide (0 < i % w) = q at *
    cases y3 <;> simp_all
noncomputable instance (w : Nat) (l : List Guess) : Decidable (GOk w l) := Classical.propDecidable _
theorem f_ref27Is (w h : Int) (l : List Guess) (x y : Int) (b s : Bool) : AP Tryz.prog T0 17 [belA w h l x y b s] (B (okBe w h l x y b s)) := by
  by_cases hs : sidesM w h = true
  · have c1 : AP Tryz.prog T0 44 [I w, I h] (B true) := (f_ref03Sides w h).to (by rw [hs])
    obtain ⟨w, h, rfl, rfl, h1, h2, h3, h4⟩ := sides_nat hs
    have hb := side_leB h2 h4
    have hnn : (0 : Int) ≤ ((w * h : Nat) : Int) := Int.natCast_nonneg _
    by_cases hlen : l.length = w * h
    · have hok : okBe w h l x y b s = ((decide (GOk w l)) && curB w h x y b s) := by
        unfold okBe; congr 1
        rw [decide_eq_decide]
        exact ⟨fun k => by have := k.2.2; simpa [GOk] using this, fun k => ⟨⟨by omega, by omega, by omega, by omega⟩, by rw [hlen]; exact Int.natCast_mul w h, by simpa [GOk] using k⟩⟩
      have cg : ∀ i, i < l.length → AP Tryz.prog T0 45 [belA w h l x y b s, I i] (B (gsOk w l i)) := fun i hi => f_guess w h l x y b s i hlen hb h1 h2 h3 hi
      generalize okBe w h l x y b s = ok at *
      refine af_intro Tryz.func17 rfl (by decide) Tryz.ntmps17 rfl ?_
      repeat' (first
      | fail
      | refine s_y ?_
        | refine c_ ?_
        | (refine aw_if ?_ ?_ <;> intro hb <;> try (exfalso; first | assumption | omega | (simp only [or_self, and_self, not_true_eq_false, not_false_eq_true, or_false, false_or, and_false, false_and, true_and, and_true] at hb; first | done | omega)))
        | refine s_call ?_ (c := by first | exact c1 | exact cg _ (by omega) | fail)
        | refine s_op ?_ (hy := by first | fail | fail)
        | refine s_yg ?_
        | refine s_callg ?_ (c := by intro hk hk2; first | exact c1 | exact cg _ (by omega) | fail)
        | refine s_opg ?_ (hy := by intro hk hk2; first | fail | fail)
        | refine s_skip ?_
        | ((first | refine w_alloc ?_ | refine w_box ?_) <;> intro bb)
        | ((first | refine w_emp ?_ | refine w_make ?_ | refine w_app ?_) <;> intro u hu1 hu2)
        | refine w_stv ?_ | refine w_str ?_ | refine w_cpr ?_ | refine w_cps ?_
        | refine al_last (by kernel_rfl) ?_
      | fail)
      all_goals first | (exfalso; simp at hb; omega) | (exfalso; omega) | skip
      refine aw_lf (fun k : Nat => [(3, I k)]) (fun k => k ≤ l.length ∧ ∀ j, j < k → gsOk w l j = true) (fun k => l.length - k) 0 ⟨Nat.zero_le _, fun _ k => absurd k (Nat.not_lt_zero _)⟩ ?_
      rintro k ⟨k1, k2⟩
      by_cases hlt : k < l.length
      · repeat' (first
        | fail
        | refine s_y ?_
          | refine c_ ?_
          | (refine aw_if ?_ ?_ <;> intro hb <;> try (exfalso; first | assumption | omega | (simp only [or_self, and_self, not_true_eq_false, not_false_eq_true, or_false, false_or, and_false, false_and, true_and, and_true] at hb; first | done | omega)))
          | refine s_call ?_ (c := by first | exact c1 | exact cg _ (by omega) | fail)
          | refine s_op ?_ (hy := by first | fail | fail)
          | refine s_yg ?_
          | refine s_callg ?_ (c := by intro hk hk2; first | exact c1 | exact cg _ (by omega) | fail)
          | refine s_opg ?_ (hy := by intro hk hk2; first | fail | fail)
          | refine s_skip ?_
          | ((first | refine w_alloc ?_ | refine w_box ?_) <;> intro bb)
          | ((first | refine w_emp ?_ | refine w_make ?_ | refine w_app ?_) <;> intro u hu1 hu2)
          | refine w_stv ?_ | refine w_str ?_ | refine w_cpr ?_ | refine w_cps ?_
          | refine al_last (by kernel_rfl) ?_
        | fail)
        all_goals first | (exfalso; omega) | skip
        · refine ⟨_, [], rl_, List.nil_sublist _, Sub.eq (congrArg B ?_), rfl⟩
          rw [hok, show decide (GOk w l) = false from decide_eq_false fun z => by rw [z k hlt] at hb; cases hb]; rfl
        · refine ⟨k + 1, ⟨by omega, fun j hj => ?_⟩, by omega, wx_, sl_⟩
          by_cases e : j = k
          · subst e; exact hb
          · exact k2 j (by omega)
      · have hall : decide (GOk w l) = true := decide_eq_true fun j hj => k2 j (by omega)
        rw [hall, Bool.true_and] at hok
        repeat' (first
        | fail
        | refine s_y ?_
          | refine c_ ?_
          | (refine aw_if ?_ ?_ <;> intro hb <;> try (exfalso; first | assumption | omega | (simp only [or_self, and_self, not_true_eq_false, not_false_eq_true, or_false, false_or, and_false, false_and, true_and, and_true] at hb; first | done | omega)))
          | refine s_call ?_ (c := by first | exact c1 | exact cg _ (by omega) | fail)
          | refine s_op ?_ (hy := by first | fail | fail)
          | refine s_yg ?_
          | refine s_callg ?_ (c := by intro hk hk2; first | exact c1 | exact cg _ (by omega) | fail)
          | refine s_opg ?_ (hy := by intro hk hk2; first | fail | fail)
          | refine s_skip ?_
          | ((first | refine w_alloc ?_ | refine w_box ?_) <;> intro bb)
          | ((first | refine w_emp ?_ | refine w_make ?_ | refine w_app ?_) <;> intro u hu1 hu2)
          | refine w_stv ?_ | refine w_str ?_ | refine w_cpr ?_ | refine w_cps ?_
          | refine al_last (by kernel_rfl) ?_
        | fail)
        all_goals first | (exfalso; omega) | skip
        · refine ⟨_, [], rl_, List.nil_sublist _, Sub.eq (congrArg B ?_), rfl⟩
          have hs : s = false := by simpa using hb
          rw [hok, hs]; rfl
        · refine ⟨_, [], rl_, List.nil_sublist _, Sub.eq (congrArg B ?_), rfl⟩
          have hs : s = true := by simpa using hb
          rw [hok, hs, show (((w - 1 : Nat) : Int)) = (w : Int) - 1 by omega]; rfl
    · rw [okBe_no (fun z => hlen (by have := z.2; rw [← Int.natCast_mul] at this; omega))]
      have cg : True := trivial
      refine af_intro Tryz.func17 rfl (by decide) Tryz.ntmps17 rfl ?_
      repeat' (first
      | fail
      | refine s_y ?_
        | refine c_ ?_
        | (refine aw_if ?_ ?_ <;> intro hb <;> try (exfalso; first | assumption | omega | (simp only [or_self, and_self, not_true_eq_false, not_false_eq_true, or_false, false_or, and_false, false_and, true_and, and_true] at hb; first | done | omega)))
        | refine s_call ?_ (c := by first | exact c1 | exact cg _ (by omega) | fail)
        | refine s_op ?_ (hy := by first | fail | fail)
        | refine s_yg ?_
        | refine s_callg ?_ (c := by intro hk hk2; first | exact c1 | exact cg _ (by omega) | fail)
        | refine s_opg ?_ (hy := by intro hk hk2; first | fail | fail)
        | refine s_skip ?_
        | ((first | refine w_alloc ?_ | refine w_box ?_) <;> intro bb)
        | ((first | refine w_emp ?_ | refine w_make ?_ | refine w_app ?_) <;> intro u hu1 hu2)
        | refine w_stv ?_ | refine w_str ?_ | refine w_cpr ?_ | refine w_cps ?_
        | refine al_last (by kernel_rfl) ?_
      | fail)
      all_goals first | exact ⟨_, [], rl_, List.nil_sublist _, Sub.refl _, rfl⟩ | (exfalso; omega) | (exfalso; simp at hb; omega)
  · rw [okBe_no (fun z => hs z.1)]
    have c1 : AP Tryz.prog T0 44 [I w, I h] (B false) := (f_ref03Sides w h).to (by simp [hs])
    have cg : True := trivial
    refine af_intro Tryz.func17 rfl (by decide) Tryz.ntmps17 rfl ?_
    repeat' (first
    | fail
    | refine s_y ?_
      | refine c_ ?_
      | (refine aw_if ?_ ?_ <;> intro hb <;> try (exfalso; first | assumption | omega | (simp only [or_self, and_self, not_true_eq_false, not_false_eq_true, or_false, false_or, and_false, false_and, true_and, and_true] at hb; first | done | omega)))
      | refine s_call ?_ (c := by first | exact c1 | exact cg _ (by omega) | fail)
      | refine s_op ?_ (hy := by first | exact ay_mulw rfl oog_ oog_ | fail)
      | refine s_yg ?_
      | refine s_callg ?_ (c := by intro hk hk2; first | exact c1 | exact cg _ (by omega) | fail)
      | refine s_opg ?_ (hy := by intro hk hk2; first | exact ay_mulw rfl oog_ oog_ | fail)
      | refine s_skip ?_
      | ((first | refine w_alloc ?_ | refine w_box ?_) <;> intro bb)
      | ((first | refine w_emp ?_ | refine w_make ?_ | refine w_app ?_) <;> intro u hu1 hu2)
      | refine w_stv ?_ | refine w_str ?_ | refine w_cpr ?_ | refine w_cps ?_
      | refine al_last (by kernel_rfl) ?_
    | fail)
    all_goals first | exact ⟨_, [], rl_, List.nil_sublist _, Sub.refl _, rfl⟩ | (exfalso; simp at hb; done)
end Go.Proofs.YtockidoncngdbaaGreatDoor
