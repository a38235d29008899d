/- Layer 27 (belief): what is forgotten, the belief of a terminal, does it agree, by the program. No condition. -/
import Derived.Test.YtockidoncngdbaaGreatDoorQ2BD
import Derived.Test.YtockidoncngdbaaGreatDoorQ2B7
import Derived.Test.YtockidoncngdbaaGreatDoorQ2AV
namespace Go.Proofs.YtockidoncngdbaaGreatDoor
set_option linter.unusedSimpArgs false
set_option linter.unusedVariables false
set_option linter.unusedSectionVars false
set_option maxHeartbeats 4000000
open Go Go.RowKit
set_option maxRecDepth 100000
theorem ofL_take {l : List Cell} {k : Nat} {c : Cell} (h : l[k]? = some c) : ofL (l.take (k + 1)) = ofL (l.take k) ++ [(c, true)] := by
  unfold ofL; rw [List.take_add_one, h, List.map_append]; rfl
theorem agrB_of {w h : Int} {l : List Guess} {x y : Int} {b s : Bool} {tl : List Cell} {tx ty : Int} {tb : Bool} (h1 : okBe w h l x y b s = true) (h2 : okT w h tl tx ty tb = true) : agrB (w, h, l, x, y, b, s) (w, h, tl, tx, ty, tb) = true ↔ Agr l tl ∧ (s = true → x = tx ∧ y = ty ∧ b = tb) := by
  unfold agrB
  rw [decide_eq_true_iff]
  exact ⟨fun z => z.2.2.2.2, fun z => ⟨h1, h2, rfl, rfl, z⟩⟩
theorem agrB_no {b : Bel} {t : Tm} (h : ¬ (okBl b = true ∧ okTm t = true ∧ b.1 = t.1 ∧ b.2.1 = t.2.1)) : agrB b t = false := by
  unfold agrB
  exact decide_eq_false fun z => h ⟨z.1, z.2.1, z.2.2.1, z.2.2.2.1⟩
theorem okBe_len2 {w h : Int} {l : List Guess} {x y : Int} {b s : Bool} (h1 : okBe w h l x y b s = true) : (l.length : Int) = w * h ∧ l.length ≤ 1920 ∧ (2 ≤ w ∧ w ≤ 80 ∧ 1 ≤ h ∧ h ≤ 24) := by
  obtain ⟨w', h', rfl, rfl, w2, w3, w4, w5, hl, hk, p1, p2⟩ := okBe_iff.1 h1
  have := side_leB w3 w5
  exact ⟨by rw [hl]; exact Int.natCast_mul w' h', by omega, by omega⟩
variable {T0 : Gh} [TabS T0]
attribute [local irreducible] thenA inBlockA AW AL AO QY varO rowO rsA Opd OpdN vA gvA tupA aggA slA slcA ipA rpA EqK LnK IxK LdK FaK FdK
theorem f_beForgetO (w h : Int) (l : List Guess) (x y : Int) (b s : Bool) (f t : Nat) (cur : Bool) (h1 : okBe w h l x y b s = true) (h2 : f ≤ t) (h3 : t ≤ l.length) : AF Tryz.prog T0 33 [belA w h l x y b s, I f, I t, B cur] [] (fun A M' => ∃ u, A = aggA [I w, I h, vA u, I (if cur then 0 else x), I (if cur then 0 else y), B (if cur then false else b), B (if cur then false else s)] ∧ M' = [gsO u (forB l f t)]) := by
  obtain ⟨hl, hl2, hw⟩ := okBe_len2 h1
  have c1 : AP Tryz.prog T0 8 [belA w h l x y b s] (B true) := (f_beIs w h l x y b s).to (by rw [h1])
  have c2 : True := trivial
  have co := f_beOwn (T0 := T0) w h l x y b s (by omega)
  rcases Nat.lt_or_eq_of_le h2 with hlt | heq
  · have heq : True := trivial
    unfold forB
    cases cur with
    | true =>
      refine af_intro Tryz.func33 rfl (by decide) Tryz.ntmps33 rfl ?_
      repeat' (first
      | (apply al_call0 rfl rfl rfl rfl (c := co)
         case ha => exact os_
         rintro _ _ ⟨u, rfl, rfl⟩; refine al_rowc (List.Mem.head _) fun hu1 hu2 => ?_)
        | refine w_clr ?_
        | refine w_clr0 ?_
      | refine s_y ?_
        | refine c_ ?_
        | (refine aw_if ?_ ?_ <;> intro hb <;> try (exfalso; first | assumption | omega | (simp only [or_self, and_self, not_true_eq_false, not_false_eq_true, or_false, false_or, and_false, false_and, true_and, and_true] at hb; first | done | omega)))
        | refine s_call ?_ (c := by first | exact c1 | exact c2 | exact f_sure (_, _) | fail)
        | refine s_op ?_ (hy := by first | (apply ay_cut_row0 rfl un_ el_; exact oo_; exact mem_; exact lo_; exact hi_; exact heq; exact le_; done) | fail)
        | refine s_yg ?_
        | refine s_callg ?_ (c := by intro hk hk2; first | exact c1 | exact c2 | exact f_sure (_, _) | fail)
        | refine s_opg ?_ (hy := by intro hk hk2; first | (apply ay_cut_row0 rfl un_ el_; exact oo_; exact mem_; exact lo_; exact hi_; exact heq; exact le_; done) | fail)
        | refine s_skip ?_
        | ((first | refine w_alloc ?_ | refine w_box ?_) <;> intro bb)
        | ((first | refine w_emp ?_ | refine w_make ?_ | refine w_app ?_) <;> intro u hu1 hu2)
        | refine w_stv ?_ | refine w_str ?_ | refine w_cpr ?_ | refine w_cps ?_
        | refine al_last (by kernel_rfl) ?_
      | fail)
      all_goals first | (exfalso; simp at hb; done) | (exfalso; simp at hb; omega) | (exfalso; omega) | exact ⟨_, [gsO u _], rl_, sl_, u, rfl, rfl⟩ | skip
    | false =>
      refine af_intro Tryz.func33 rfl (by decide) Tryz.ntmps33 rfl ?_
      repeat' (first
      | (apply al_call0 rfl rfl rfl rfl (c := co)
         case ha => exact os_
         rintro _ _ ⟨u, rfl, rfl⟩; refine al_rowc (List.Mem.head _) fun hu1 hu2 => ?_)
        | refine w_clr ?_
        | refine w_clr0 ?_
      | refine s_y ?_
        | refine c_ ?_
        | (refine aw_if ?_ ?_ <;> intro hb <;> try (exfalso; first | assumption | omega | (simp only [or_self, and_self, not_true_eq_false, not_false_eq_true, or_false, false_or, and_false, false_and, true_and, and_true] at hb; first | done | omega)))
        | refine s_call ?_ (c := by first | exact c1 | exact c2 | exact f_sure (_, _) | fail)
        | refine s_op ?_ (hy := by first | (apply ay_cut_row0 rfl un_ el_; exact oo_; exact mem_; exact lo_; exact hi_; exact heq; exact le_; done) | fail)
        | refine s_yg ?_
        | refine s_callg ?_ (c := by intro hk hk2; first | exact c1 | exact c2 | exact f_sure (_, _) | fail)
        | refine s_opg ?_ (hy := by intro hk hk2; first | (apply ay_cut_row0 rfl un_ el_; exact oo_; exact mem_; exact lo_; exact hi_; exact heq; exact le_; done) | fail)
        | refine s_skip ?_
        | ((first | refine w_alloc ?_ | refine w_box ?_) <;> intro bb)
        | ((first | refine w_emp ?_ | refine w_make ?_ | refine w_app ?_) <;> intro u hu1 hu2)
        | refine w_stv ?_ | refine w_str ?_ | refine w_cpr ?_ | refine w_cps ?_
        | refine al_last (by kernel_rfl) ?_
      | fail)
      all_goals first | (exfalso; simp at hb; done) | (exfalso; simp at hb; omega) | (exfalso; omega) | exact ⟨_, [gsO u _], rl_, sl_, u, rfl, rfl⟩ | skip
  · have e : forB l f t = l := by unfold forB; rw [heq, Nat.sub_self]; simp [ovr]
    rw [e]
    cases cur with
    | true =>
      refine af_intro Tryz.func33 rfl (by decide) Tryz.ntmps33 rfl ?_
      repeat' (first
      | (apply al_call0 rfl rfl rfl rfl (c := co)
         case ha => exact os_
         rintro _ _ ⟨u, rfl, rfl⟩; refine al_rowc (List.Mem.head _) fun hu1 hu2 => ?_)
        | refine w_clr ?_
        | refine w_clr0 ?_
      | refine s_y ?_
        | refine c_ ?_
        | (refine aw_if ?_ ?_ <;> intro hb <;> try (exfalso; first | assumption | omega | (simp only [or_self, and_self, not_true_eq_false, not_false_eq_true, or_false, false_or, and_false, false_and, true_and, and_true] at hb; first | done | omega)))
        | refine s_call ?_ (c := by first | exact c1 | exact c2 | exact f_sure (_, _) | fail)
        | refine s_op ?_ (hy := by first | (apply ay_cut_row0 rfl un_ el_; exact oo_; exact mem_; exact lo_; exact hi_; exact heq; exact le_; done) | fail)
        | refine s_yg ?_
        | refine s_callg ?_ (c := by intro hk hk2; first | exact c1 | exact c2 | exact f_sure (_, _) | fail)
        | refine s_opg ?_ (hy := by intro hk hk2; first | (apply ay_cut_row0 rfl un_ el_; exact oo_; exact mem_; exact lo_; exact hi_; exact heq; exact le_; done) | fail)
        | refine s_skip ?_
        | ((first | refine w_alloc ?_ | refine w_box ?_) <;> intro bb)
        | ((first | refine w_emp ?_ | refine w_make ?_ | refine w_app ?_) <;> intro u hu1 hu2)
        | refine w_stv ?_ | refine w_str ?_ | refine w_cpr ?_ | refine w_cps ?_
        | refine al_last (by kernel_rfl) ?_
      | fail)
      all_goals first | (exfalso; simp at hb; done) | (exfalso; simp at hb; omega) | (exfalso; omega) | exact ⟨_, [gsO u _], rl_, sl_, u, rfl, rfl⟩ | skip
    | false =>
      refine af_intro Tryz.func33 rfl (by decide) Tryz.ntmps33 rfl ?_
      repeat' (first
      | (apply al_call0 rfl rfl rfl rfl (c := co)
         case ha => exact os_
         rintro _ _ ⟨u, rfl, rfl⟩; refine al_rowc (List.Mem.head _) fun hu1 hu2 => ?_)
        | refine w_clr ?_
        | refine w_clr0 ?_
      | refine s_y ?_
        | refine c_ ?_
        | (refine aw_if ?_ ?_ <;> intro hb <;> try (exfalso; first | assumption | omega | (simp only [or_self, and_self, not_true_eq_false, not_false_eq_true, or_false, false_or, and_false, false_and, true_and, and_true] at hb; first | done | omega)))
        | refine s_call ?_ (c := by first | exact c1 | exact c2 | exact f_sure (_, _) | fail)
        | refine s_op ?_ (hy := by first | (apply ay_cut_row0 rfl un_ el_; exact oo_; exact mem_; exact lo_; exact hi_; exact heq; exact le_; done) | fail)
        | refine s_yg ?_
        | refine s_callg ?_ (c := by intro hk hk2; first | exact c1 | exact c2 | exact f_sure (_, _) | fail)
        | refine s_opg ?_ (hy := by intro hk hk2; first | (apply ay_cut_row0 rfl un_ el_; exact oo_; exact mem_; exact lo_; exact hi_; exact heq; exact le_; done) | fail)
        | refine s_skip ?_
        | ((first | refine w_alloc ?_ | refine w_box ?_) <;> intro bb)
        | ((first | refine w_emp ?_ | refine w_make ?_ | refine w_app ?_) <;> intro u hu1 hu2)
        | refine w_stv ?_ | refine w_str ?_ | refine w_cpr ?_ | refine w_cps ?_
        | refine al_last (by kernel_rfl) ?_
      | fail)
      all_goals first | (exfalso; simp at hb; done) | (exfalso; simp at hb; omega) | (exfalso; omega) | exact ⟨_, [gsO u _], rl_, sl_, u, rfl, rfl⟩ | skip
theorem f_beForget (w h : Int) (l : List Guess) (x y : Int) (b s : Bool) (f t : Int) (cur : Bool) : AP Tryz.prog T0 33 [belA w h l x y b s, I f, I t, B cur] (blA (forgetB (w, h, l, x, y, b, s) f t cur)) := by
  by_cases q : okBe w h l x y b s = true ∧ 0 ≤ f ∧ f ≤ t ∧ t ≤ l.length
  · obtain ⟨q0, q1, q2, q3⟩ := q
    obtain ⟨f, rfl⟩ := Int.eq_ofNat_of_zero_le q1
    obtain ⟨t, rfl⟩ := Int.eq_ofNat_of_zero_le (show 0 ≤ t by omega)
    have key := (f_beForgetO (T0 := T0) w h l x y b s f t cur q0 (by omega) (by omega)).frz1 fza_
    have e : forgetB (w, h, l, x, y, b, s) f t cur = (w, h, forB l f t, if cur then 0 else x, if cur then 0 else y, if cur then false else b, if cur then false else s) := by
      unfold forgetB
      rw [if_neg (fun z => z ⟨q0, q1, q2, q3⟩)]
      cases cur <;> rfl
    rw [e]; exact key
  · have e : forgetB (w, h, l, x, y, b, s) f t cur = (w, h, l, x, y, b, s) := by unfold forgetB; rw [if_pos q]
    rw [e]
    have c1 := f_beIs (T0 := T0) w h l x y b s
    have c2 : True := trivial
    have co : True := trivial
    have heq : True := trivial
    generalize okBe w h l x y b s = v at *
    refine af_intro Tryz.func33 rfl (by decide) Tryz.ntmps33 rfl ?_
    repeat' (first
    | (apply al_call0 rfl rfl rfl rfl (c := co)
       case ha => exact os_
       rintro _ _ ⟨u, rfl, rfl⟩; refine al_rowc (List.Mem.head _) fun hu1 hu2 => ?_)
      | refine w_clr ?_
      | refine w_clr0 ?_
    | refine s_y ?_
      | refine c_ ?_
      | (refine aw_if ?_ ?_ <;> intro hb <;> try (exfalso; first | assumption | omega | (simp only [or_self, and_self, not_true_eq_false, not_false_eq_true, or_false, false_or, and_false, false_and, true_and, and_true] at hb; first | done | omega)))
      | refine s_call ?_ (c := by first | exact c1 | exact c2 | exact f_sure (_, _) | fail)
      | refine s_op ?_ (hy := by first | (apply ay_cut_row0 rfl un_ el_; exact oo_; exact mem_; exact lo_; exact hi_; exact heq; exact le_; done) | fail)
      | refine s_yg ?_
      | refine s_callg ?_ (c := by intro hk hk2; first | exact c1 | exact c2 | exact f_sure (_, _) | fail)
      | refine s_opg ?_ (hy := by intro hk hk2; first | (apply ay_cut_row0 rfl un_ el_; exact oo_; exact mem_; exact lo_; exact hi_; exact heq; exact le_; done) | fail)
      | refine s_skip ?_
      | ((first | refine w_alloc ?_ | refine w_box ?_) <;> intro bb)
      | ((first | refine w_emp ?_ | refine w_make ?_ | refine w_app ?_) <;> intro u hu1 hu2)
      | refine w_stv ?_ | refine w_str ?_ | refine w_cpr ?_ | refine w_cps ?_
      | refine al_last (by kernel_rfl) ?_
    | fail)
    all_goals first | exact ⟨_, [], rl_, List.nil_sublist _, Sub.refl _, rfl⟩ | (exfalso; exact q ⟨hb.1.1.1, by omega, by omega, by omega⟩) | skip
theorem f_beOfO (w h : Int) (l : List Cell) (x y : Int) (b : Bool) (h1 : okT w h l x y b = true) : AF Tryz.prog T0 32 [termA w h l x y b] [] (fun A M' => ∃ u, A = tupA [aggA [I w, I h, vA u, I x, I y, B b, B true], I 0] ∧ M' = [gsO u (ofL l)]) := by
  have hl := (okG_len (okT_iff.1 h1).1).2.1
  have c1 : AP Tryz.prog T0 53 [termA w h l x y b] (B true) := (f_termIs w h l x y b).to (by rw [h1])
  have c2 : True := trivial
  refine af_intro Tryz.func32 rfl (by decide) Tryz.ntmps32 rfl ?_
  repeat' (first
  | fail
  | (apply aw_regionT 5; (case hD => decide +kernel); (case hB => decide +kernel); (case hg => decide +kernel); (case hm => kernel_rfl); (case hs => rfl))
    | refine endT_ ?_
  | refine aw_seq ?_
    | refine aw_region0 ?_
    | refine al_nil ?_
    | refine th_n ?_
    | refine th_e ?_
    | refine th_r ?_
    | refine ib_n ?_
    | refine ib_e rfl ?_
    | refine ib_e' rfl ?_
    | refine ib_r ?_
    | refine aw_block ?_
    | refine aw_exit ?_
    | refine aw_ret ?_
    | refine aw_skip ?_
    | (apply aw_region1q (by rfl) (by kernel_rfl) (by kernel_rfl))
  | refine s_y ?_
    | refine c_ ?_
    | (refine aw_if ?_ ?_ <;> intro hb <;> try (exfalso; first | assumption | omega | (simp only [or_self, and_self, not_true_eq_false, not_false_eq_true, or_false, false_or, and_false, false_and, true_and, and_true] at hb; first | done | omega)))
    | refine s_call ?_ (c := by first | exact c1 | exact c2 | exact f_sure (_, _) | fail)
    | refine s_op ?_ (hy := by first | exact AY.sub (ay_buildSlice (T := guT) [((_, _), _)] rfl un_ el_ rfl (by decide) ⟨_, px_, rfl⟩) sub_slc | fail)
    | refine s_yg ?_
    | refine s_callg ?_ (c := by intro hk hk2; first | exact c1 | exact c2 | exact f_sure (_, _) | fail)
    | refine s_opg ?_ (hy := by intro hk hk2; first | exact AY.sub (ay_buildSlice (T := guT) [((_, _), _)] rfl un_ el_ rfl (by decide) ⟨_, px_, rfl⟩) sub_slc | fail)
    | refine s_skip ?_
    | ((first | refine w_alloc ?_ | refine w_box ?_) <;> intro bb)
    | ((first | refine w_emp ?_ | refine w_make ?_ | refine w_app ?_) <;> intro u hu1 hu2)
    | refine w_stv ?_ | refine w_str ?_ | refine w_cpr ?_ | refine w_cps ?_
    | refine al_last (by kernel_rfl) ?_
  | fail)
  all_goals first | (exfalso; simp at hb; done) | skip
  rename_i b1 b2
  refine aw_nil guT 65 ?_
  refine aw_fl2 (fun (k : Nat) (u : Value) => [(1, vA (.pointer (some ⟨b1, 0, none⟩))), (2, vA (.pointer (some ⟨b2, 0, none⟩))), (4, vA (.pointer (some ⟨bb, 0, none⟩))), (26, slA cellT l), (27, I l.length), (28, I k)]) (fun k u => [gsO u (ofL (l.take k)), varO bb 24 [I w, I h, vA u, I x, I y, B b, B true], varO b2 24 [I 0, I 0, vA (.slice none 0 0), I 0, I 0, B false, B false], varO b1 47 [I w, I h, slA cellT l, I x, I y, B b]]) (fun k _ => k ≤ l.length) (fun k _ => l.length - k) 0 _ (Nat.zero_le _) wk_ (List.Sublist.refl _) ?_
  rintro k u k1
  refine aw_rowc (List.Mem.head _) fun hu1 hu2 => ?_
  have hlen : (ofL (l.take k)).length = k := by rw [ofL_len, List.length_take]; omega
  by_cases hlt : k < l.length
  · obtain ⟨⟨p1, p2⟩, hat⟩ : ∃ z, l[k]? = some z := ⟨_, List.getElem?_eq_getElem hlt⟩
    have hst := ofL_take hat
    generalize ofL (l.take k) = L0 at *
    repeat' (first
    | fail
    | (apply aw_regionT 5; (case hD => decide +kernel); (case hB => decide +kernel); (case hg => decide +kernel); (case hm => kernel_rfl); (case hs => rfl))
      | refine endT_ ?_
    | refine aw_seq ?_
      | refine aw_region0 ?_
      | refine al_nil ?_
      | refine th_n ?_
      | refine th_e ?_
      | refine th_r ?_
      | refine ib_n ?_
      | refine ib_e rfl ?_
      | refine ib_e' rfl ?_
      | refine ib_r ?_
      | refine aw_block ?_
      | refine aw_exit ?_
      | refine aw_ret ?_
      | refine aw_skip ?_
      | (apply aw_region1q (by rfl) (by kernel_rfl) (by kernel_rfl))
    | refine s_y ?_
      | refine c_ ?_
      | (refine aw_if ?_ ?_ <;> intro hb <;> try (exfalso; first | assumption | omega | (simp only [or_self, and_self, not_true_eq_false, not_false_eq_true, or_false, false_or, and_false, false_and, true_and, and_true] at hb; first | done | omega)))
      | refine s_call ?_ (c := by first | exact c1 | exact c2 | exact f_sure (_, _) | fail)
      | refine s_op ?_ (hy := by first | exact AY.sub (ay_buildSlice (T := guT) [((_, _), _)] rfl un_ el_ rfl (by decide) ⟨_, px_, rfl⟩) sub_slc | fail)
      | refine s_yg ?_
      | refine s_callg ?_ (c := by intro hk hk2; first | exact c1 | exact c2 | exact f_sure (_, _) | fail)
      | refine s_opg ?_ (hy := by intro hk hk2; first | exact AY.sub (ay_buildSlice (T := guT) [((_, _), _)] rfl un_ el_ rfl (by decide) ⟨_, px_, rfl⟩) sub_slc | fail)
      | refine s_skip ?_
      | ((first | refine w_alloc ?_ | refine w_box ?_) <;> intro bb)
      | ((first | refine w_emp ?_ | refine w_make ?_ | refine w_app ?_) <;> intro u hu1 hu2)
      | refine w_stv ?_ | refine w_str ?_ | refine w_cpr ?_ | refine w_cps ?_
      | refine al_last (by kernel_rfl) ?_
    | fail)
    all_goals first | (exfalso; omega) | skip
    exact ⟨k + 1, _, by omega, by omega, wk_, by rw [hst]; exact List.Sublist.cons _ (List.Sublist.refl _)⟩
  · obtain rfl : k = l.length := by omega
    rw [List.take_length]
    generalize ofL l = L0 at *
    repeat' (first
    | fail
    | refine s_y ?_
      | refine c_ ?_
      | (refine aw_if ?_ ?_ <;> intro hb <;> try (exfalso; first | assumption | omega | (simp only [or_self, and_self, not_true_eq_false, not_false_eq_true, or_false, false_or, and_false, false_and, true_and, and_true] at hb; first | done | omega)))
      | refine s_call ?_ (c := by first | exact c1 | exact c2 | exact f_sure (_, _) | fail)
      | refine s_op ?_ (hy := by first | exact AY.sub (ay_buildSlice (T := guT) [((_, _), _)] rfl un_ el_ rfl (by decide) ⟨_, px_, rfl⟩) sub_slc | fail)
      | refine s_yg ?_
      | refine s_callg ?_ (c := by intro hk hk2; first | exact c1 | exact c2 | exact f_sure (_, _) | fail)
      | refine s_opg ?_ (hy := by intro hk hk2; first | exact AY.sub (ay_buildSlice (T := guT) [((_, _), _)] rfl un_ el_ rfl (by decide) ⟨_, px_, rfl⟩) sub_slc | fail)
      | refine s_skip ?_
      | ((first | refine w_alloc ?_ | refine w_box ?_) <;> intro bb)
      | ((first | refine w_emp ?_ | refine w_make ?_ | refine w_app ?_) <;> intro u hu1 hu2)
      | refine w_stv ?_ | refine w_str ?_ | refine w_cpr ?_ | refine w_cps ?_
      | refine al_last (by kernel_rfl) ?_
    | fail)
    all_goals first | (exfalso; omega) | skip
    exact ⟨_, [gsO u L0], rl_, sl_, u, rfl, rfl⟩
theorem f_beOf (w h : Int) (l : List Cell) (x y : Int) (b : Bool) : AP Tryz.prog T0 32 [termA w h l x y b] (tupA [blA (ofB (w, h, l, x, y, b)).1, I (ofB (w, h, l, x, y, b)).2]) := by
  unfold ofB
  cases h1 : okTm (w, h, l, x, y, b) with
  | true =>
    rw [if_pos rfl]
    exact (f_beOfO w h l x y b h1).frz1 fza_
  | false =>
    rw [if_neg (by decide)]
    have c1 : AP Tryz.prog T0 53 [termA w h l x y b] (B false) := (f_termIs w h l x y b).to (by rw [show okT w h l x y b = false from h1])
    have c2 : True := trivial
    refine af_intro Tryz.func32 rfl (by decide) Tryz.ntmps32 rfl ?_
    repeat' (first
    | fail
    | refine s_y ?_
      | refine c_ ?_
      | (refine aw_if ?_ ?_ <;> intro hb <;> try (exfalso; first | assumption | omega | (simp only [or_self, and_self, not_true_eq_false, not_false_eq_true, or_false, false_or, and_false, false_and, true_and, and_true] at hb; first | done | omega)))
      | refine s_call ?_ (c := by first | exact c1 | exact c2 | exact f_sure (_, _) | fail)
      | refine s_op ?_ (hy := by first | exact AY.sub (ay_buildSlice (T := guT) [((_, _), _)] rfl un_ el_ rfl (by decide) ⟨_, px_, rfl⟩) sub_slc | fail)
      | refine s_yg ?_
      | refine s_callg ?_ (c := by intro hk hk2; first | exact c1 | exact c2 | exact f_sure (_, _) | fail)
      | refine s_opg ?_ (hy := by intro hk hk2; first | exact AY.sub (ay_buildSlice (T := guT) [((_, _), _)] rfl un_ el_ rfl (by decide) ⟨_, px_, rfl⟩) sub_slc | fail)
      | refine s_skip ?_
      | ((first | refine w_alloc ?_ | refine w_box ?_) <;> intro bb)
      | ((first | refine w_emp ?_ | refine w_make ?_ | refine w_app ?_) <;> intro u hu1 hu2)
      | refine w_stv ?_ | refine w_str ?_ | refine w_cpr ?_ | refine w_cps ?_
      | refine al_last (by kernel_rfl) ?_
    | fail)
    all_goals first | (exfalso; simp at hb; done) | exact ⟨_, [], rl_, List.nil_sublist _, sub_noB, rfl⟩ | skip
theorem f_beAgrees (w h : Int) (l : List Guess) (x y : Int) (b s : Bool) (tw th : Int) (tl : List Cell) (tx ty : Int) (tb : Bool) : AP Tryz.prog T0 34 [belA w h l x y b s, termA tw th tl tx ty tb] (B (agrB (w, h, l, x, y, b, s) (tw, th, tl, tx, ty, tb))) := by
  have c1 := f_beIs (T0 := T0) w h l x y b s
  have c2 := f_termIs (T0 := T0) tw th tl tx ty tb
  by_cases h0 : okBe w h l x y b s = true ∧ okT tw th tl tx ty tb = true ∧ w = tw ∧ h = th
  · obtain ⟨h1, h2, rfl, rfl⟩ := h0
    have iff_ := agrB_of h1 h2
    rw [h1] at c1
    rw [h2] at c2
    obtain ⟨hl, hl2, hw⟩ := okBe_len2 h1
    have htl := (okG_len (okT_iff.1 h2).1).1
    generalize agrB (w, h, l, x, y, b, s) (w, h, tl, tx, ty, tb) = ag at *
    refine af_intro Tryz.func34 rfl (by decide) Tryz.ntmps34 rfl ?_
    repeat' (first
    | refine s_op ?_ (hy := by first | (apply k_ix rfl; exact oo_; exact on_; apply ik_sl un_ el_; exact hat) | fail)
      | refine s_op ?_ (hy := by first | (apply k_ix rfl; exact oog_; exact ong_; apply ik_sl un_ el_; exact hat2) | fail)
    | refine s_y ?_
      | refine c_ ?_
      | (refine aw_if ?_ ?_ <;> intro hb <;> try (exfalso; first | assumption | omega | (simp only [or_self, and_self, not_true_eq_false, not_false_eq_true, or_false, false_or, and_false, false_and, true_and, and_true] at hb; first | done | omega)))
      | refine s_call ?_ (c := by first | exact c1 | exact c2 | exact f_sure (_, _) | fail)
      | refine s_op ?_ (hy := by first | exact ay_loadn rfl agg_ sz_ oo_ (Nat.le_of_ble_eq_true rfl) | exact ay_loadn rfl agg_ sz_ oog_ (Nat.le_of_ble_eq_true rfl) | fail)
      | refine s_yg ?_
      | refine s_callg ?_ (c := by intro hk hk2; first | exact c1 | exact c2 | exact f_sure (_, _) | fail)
      | refine s_opg ?_ (hy := by intro hk hk2; first | exact ay_loadn rfl agg_ sz_ oo_ (Nat.le_of_ble_eq_true rfl) | exact ay_loadn rfl agg_ sz_ oog_ (Nat.le_of_ble_eq_true rfl) | fail)
      | refine s_skip ?_
      | ((first | refine w_alloc ?_ | refine w_box ?_) <;> intro bb)
      | ((first | refine w_emp ?_ | refine w_make ?_ | refine w_app ?_) <;> intro u hu1 hu2)
      | refine w_stv ?_ | refine w_str ?_ | refine w_cpr ?_ | refine w_cps ?_
      | refine al_last (by kernel_rfl) ?_
    | fail)
    all_goals first | (exfalso; simp at hb; done) | skip
    refine aw_lf (fun k : Nat => [(34, I k)]) (fun k => k ≤ l.length ∧ ∀ j, j < k → (gAt l j).2 = true → (gAt l j).1 = cAt tl j) (fun k => l.length - k) 0 ⟨Nat.zero_le _, fun _ k => absurd k (Nat.not_lt_zero _)⟩ ?_
    rintro k ⟨k1, k2⟩
    by_cases hlt : k < l.length
    · have hat := g_in hlt
      have hat2 := c_in (l := tl) (i := k) (by omega)
      have nxt : ((gAt l k).2 = true → (gAt l k).1 = cAt tl k) → ∀ j, j < k + 1 → (gAt l j).2 = true → (gAt l j).1 = cAt tl j := fun z j hj => by
        by_cases e : j = k
        · subst e; exact z
        · exact k2 j (by omega)
      have bad : (gAt l k).2 = true → (gAt l k).1 ≠ cAt tl k → ag = false := fun z1 z2 => by
        cases e : ag with
        | false => rfl
        | true => exact absurd ((iff_.1 e).1 k hlt z1) z2
      generalize gAt l k = g at *
      change tl[k]? = some (cAt tl k) at hat2
      generalize cAt tl k = tc at *
      obtain ⟨⟨g1, g2⟩, gs⟩ := g
      obtain ⟨t1, t2⟩ := tc
      cases gs with
      | true =>
        repeat' (first
        | refine s_op ?_ (hy := by first | (apply k_ix rfl; exact oo_; exact on_; apply ik_sl un_ el_; exact hat) | fail)
          | refine s_op ?_ (hy := by first | (apply k_ix rfl; exact oog_; exact ong_; apply ik_sl un_ el_; exact hat2) | fail)
        | refine s_y ?_
          | refine c_ ?_
          | (refine aw_if ?_ ?_ <;> intro hb <;> try (exfalso; first | assumption | omega | (simp only [or_self, and_self, not_true_eq_false, not_false_eq_true, or_false, false_or, and_false, false_and, true_and, and_true] at hb; first | done | omega)))
          | refine s_call ?_ (c := by first | exact c1 | exact c2 | exact f_sure (_, _) | fail)
          | refine s_op ?_ (hy := by first | exact ay_loadn rfl agg_ sz_ oo_ (Nat.le_of_ble_eq_true rfl) | exact ay_loadn rfl agg_ sz_ oog_ (Nat.le_of_ble_eq_true rfl) | fail)
          | refine s_yg ?_
          | refine s_callg ?_ (c := by intro hk hk2; first | exact c1 | exact c2 | exact f_sure (_, _) | fail)
          | refine s_opg ?_ (hy := by intro hk hk2; first | exact ay_loadn rfl agg_ sz_ oo_ (Nat.le_of_ble_eq_true rfl) | exact ay_loadn rfl agg_ sz_ oog_ (Nat.le_of_ble_eq_true rfl) | fail)
          | refine s_skip ?_
          | ((first | refine w_alloc ?_ | refine w_box ?_) <;> intro bb)
          | ((first | refine w_emp ?_ | refine w_make ?_ | refine w_app ?_) <;> intro u hu1 hu2)
          | refine w_stv ?_ | refine w_str ?_ | refine w_cpr ?_ | refine w_cps ?_
          | refine al_last (by kernel_rfl) ?_
        | fail)
        all_goals first | (exfalso; omega) | skip
        · exact ⟨_, [], rl_, List.nil_sublist _, Sub.eq (congrArg B (bad rfl (by simpa using hb)).symm), rfl⟩
        · exact ⟨k + 1, ⟨by omega, nxt fun _ => (by simpa using hb)⟩, by omega, wx_, sl_⟩
      | false =>
        repeat' (first
        | refine s_op ?_ (hy := by first | (apply k_ix rfl; exact oo_; exact on_; apply ik_sl un_ el_; exact hat) | fail)
          | refine s_op ?_ (hy := by first | (apply k_ix rfl; exact oog_; exact ong_; apply ik_sl un_ el_; exact hat2) | fail)
        | refine s_y ?_
          | refine c_ ?_
          | (refine aw_if ?_ ?_ <;> intro hb <;> try (exfalso; first | assumption | omega | (simp only [or_self, and_self, not_true_eq_false, not_false_eq_true, or_false, false_or, and_false, false_and, true_and, and_true] at hb; first | done | omega)))
          | refine s_call ?_ (c := by first | exact c1 | exact c2 | exact f_sure (_, _) | fail)
          | refine s_op ?_ (hy := by first | exact ay_loadn rfl agg_ sz_ oo_ (Nat.le_of_ble_eq_true rfl) | exact ay_loadn rfl agg_ sz_ oog_ (Nat.le_of_ble_eq_true rfl) | fail)
          | refine s_yg ?_
          | refine s_callg ?_ (c := by intro hk hk2; first | exact c1 | exact c2 | exact f_sure (_, _) | fail)
          | refine s_opg ?_ (hy := by intro hk hk2; first | exact ay_loadn rfl agg_ sz_ oo_ (Nat.le_of_ble_eq_true rfl) | exact ay_loadn rfl agg_ sz_ oog_ (Nat.le_of_ble_eq_true rfl) | fail)
          | refine s_skip ?_
          | ((first | refine w_alloc ?_ | refine w_box ?_) <;> intro bb)
          | ((first | refine w_emp ?_ | refine w_make ?_ | refine w_app ?_) <;> intro u hu1 hu2)
          | refine w_stv ?_ | refine w_str ?_ | refine w_cpr ?_ | refine w_cps ?_
          | refine al_last (by kernel_rfl) ?_
        | fail)
        all_goals first | (exfalso; omega) | (exfalso; simp at hb; done) | skip
        · exact ⟨k + 1, ⟨by omega, nxt fun z => by cases z⟩, by omega, wx_, sl_⟩
    · have hall : Agr l tl := fun j hj => k2 j (by omega)
      repeat' (first
      | refine s_op ?_ (hy := by first | (apply k_ix rfl; exact oo_; exact on_; apply ik_sl un_ el_; exact hat) | fail)
        | refine s_op ?_ (hy := by first | (apply k_ix rfl; exact oog_; exact ong_; apply ik_sl un_ el_; exact hat2) | fail)
      | refine s_y ?_
        | refine c_ ?_
        | (refine aw_if ?_ ?_ <;> intro hb <;> try (exfalso; first | assumption | omega | (simp only [or_self, and_self, not_true_eq_false, not_false_eq_true, or_false, false_or, and_false, false_and, true_and, and_true] at hb; first | done | omega)))
        | refine s_call ?_ (c := by first | exact c1 | exact c2 | exact f_sure (_, _) | fail)
        | refine s_op ?_ (hy := by first | exact ay_loadn rfl agg_ sz_ oo_ (Nat.le_of_ble_eq_true rfl) | exact ay_loadn rfl agg_ sz_ oog_ (Nat.le_of_ble_eq_true rfl) | fail)
        | refine s_yg ?_
        | refine s_callg ?_ (c := by intro hk hk2; first | exact c1 | exact c2 | exact f_sure (_, _) | fail)
        | refine s_opg ?_ (hy := by intro hk hk2; first | exact ay_loadn rfl agg_ sz_ oo_ (Nat.le_of_ble_eq_true rfl) | exact ay_loadn rfl agg_ sz_ oog_ (Nat.le_of_ble_eq_true rfl) | fail)
        | refine s_skip ?_
        | ((first | refine w_alloc ?_ | refine w_box ?_) <;> intro bb)
        | ((first | refine w_emp ?_ | refine w_make ?_ | refine w_app ?_) <;> intro u hu1 hu2)
        | refine w_stv ?_ | refine w_str ?_ | refine w_cpr ?_ | refine w_cps ?_
        | refine al_last (by kernel_rfl) ?_
      | fail)
      all_goals first | (exfalso; omega) | skip
      refine ⟨_, [], rl_, List.nil_sublist _, Sub.eq (congrArg B ?_), rfl⟩
      rw [Bool.eq_iff_iff, iff_]
      cases s <;> simp [hall, and_assoc]
  · rw [agrB_no (fun z => h0 z)]
    generalize okBe w h l x y b s = v1 at *
    generalize okT tw th tl tx ty tb = v2 at *
    refine af_intro Tryz.func34 rfl (by decide) Tryz.ntmps34 rfl ?_
    repeat' (first
    | refine s_op ?_ (hy := by first | (apply k_ix rfl; exact oo_; exact on_; apply ik_sl un_ el_; exact hat) | fail)
      | refine s_op ?_ (hy := by first | (apply k_ix rfl; exact oog_; exact ong_; apply ik_sl un_ el_; exact hat2) | fail)
    | refine s_y ?_
      | refine c_ ?_
      | (refine aw_if ?_ ?_ <;> intro hb <;> try (exfalso; first | assumption | omega | (simp only [or_self, and_self, not_true_eq_false, not_false_eq_true, or_false, false_or, and_false, false_and, true_and, and_true] at hb; first | done | omega)))
      | refine s_call ?_ (c := by first | exact c1 | exact c2 | exact f_sure (_, _) | fail)
      | refine s_op ?_ (hy := by first | exact ay_loadn rfl agg_ sz_ oo_ (Nat.le_of_ble_eq_true rfl) | exact ay_loadn rfl agg_ sz_ oog_ (Nat.le_of_ble_eq_true rfl) | fail)
      | refine s_yg ?_
      | refine s_callg ?_ (c := by intro hk hk2; first | exact c1 | exact c2 | exact f_sure (_, _) | fail)
      | refine s_opg ?_ (hy := by intro hk hk2; first | exact ay_loadn rfl agg_ sz_ oo_ (Nat.le_of_ble_eq_true rfl) | exact ay_loadn rfl agg_ sz_ oog_ (Nat.le_of_ble_eq_true rfl) | fail)
      | refine s_skip ?_
      | ((first | refine w_alloc ?_ | refine w_box ?_) <;> intro bb)
      | ((first | refine w_emp ?_ | refine w_make ?_ | refine w_app ?_) <;> intro u hu1 hu2)
      | refine w_stv ?_ | refine w_str ?_ | refine w_cpr ?_ | refine w_cps ?_
      | refine al_last (by kernel_rfl) ?_
    | fail)
    all_goals first | exact ⟨_, [], rl_, List.nil_sublist _, Sub.refl _, rfl⟩ | (exfalso; exact h0 ⟨hb.1.1.1, hb.1.1.2, hb.1.2, hb.2⟩) | skip
end Go.Proofs.YtockidoncngdbaaGreatDoor
