/- Layer 27 (belief): the reference: what a command touches, what is forgotten, the belief of a terminal, does it agree. No condition. -/
import Derived.Test.YtockidoncngdbaaDoorQ1H5
import Derived.Test.YtockidoncngdbaaDoorQ1BC
import Derived.Test.YtockidoncngdbaaDoorQ1BE
import Derived.Test.YtockidoncngdbaaDoorQ1BF
namespace Go.Proofs.YtockidoncngdbaaDoor
set_option linter.unusedSimpArgs false
set_option linter.unusedVariables false
set_option linter.unusedSectionVars false
set_option maxHeartbeats 4000000
open Go Go.RowKit
set_option maxRecDepth 100000
variable {T0 : Gh} [TabS T0]
attribute [local irreducible] thenA inBlockA AW AL AO QY varO rowO rsA Opd OpdN vA gvA tupA aggA slA slcA ipA rpA EqK LnK IxK LdK FaK FdK
theorem f_ref27Touch (w h : Int) (l : List Guess) (x y : Int) (b s : Bool) (c : Cmd) : AP Tryd.prog T0 30 [belA w h l x y b s, cmdA c] (tupA [I (touchB (w, h, l, x, y, b, s) c).1, I (touchB (w, h, l, x, y, b, s) c).2]) := by
  have c1 := f_ref27Is (T0 := T0) w h l x y b s
  have c2 := f_ref05Is (T0 := T0) c
  have c3 := f_ref27changes (T0 := T0) c.1
  by_cases h0 : okBe w h l x y b s = true ∧ isCmd c = true ∧ chg c.1 = true
  · obtain ⟨hok, hc, hg⟩ := h0
    rw [hok] at c1
    rw [hc] at c2
    rw [hg] at c3
    obtain ⟨hl, hl2, hw⟩ := okBe_len hok
    have hwh : 0 ≤ w * h ∧ w * h ≤ 1920 := by omega
    have hk : (∃ r, c = (1, 0, 0, r) ∧ shown r = true) ∨ c = (7, 0, 0, 0) ∨ c = (8, 0, 0, 0) ∨ c = (10, 0, 0, 0) := by
      rcases cmd_ways hc with ⟨r, rfl, hs⟩ | ⟨a, d, rfl, _⟩ | ⟨k, a, rfl, hk, _⟩ | ⟨k, rfl, hk⟩
      · exact .inl ⟨r, rfl, hs⟩
      · simp [chg] at hg
      · simp [chg] at hg; omega
      · simp [chg] at hg
        rcases hg with ((q | q) | q) | q
        · omega
        · exact .inr (.inl (by rw [q]))
        · exact .inr (.inr (.inl (by rw [q])))
        · exact .inr (.inr (.inr (by rw [q])))
    have hx : -1000 ≤ x ∧ x ≤ 1000 := by
      obtain ⟨w', h', e1, e2, w2, w3, w4, w5, _, _, p1, p2⟩ := okBe_iff.1 hok
      cases s with
      | true => have := p1 rfl; omega
      | false => have := p2 rfl; omega
    have c4 := f_ref27down (T0 := T0) w h l x y b s c hx (by omega)
    cases s with
    | false =>
      have e : touchB (w, h, l, x, y, b, false) c = (0, w * h) := by
        unfold touchB; rw [if_neg (fun z => z ⟨hok, hc, hg⟩), if_pos (.inl rfl)]
      rw [e]
      have c5 : True := trivial
      generalize goesDown w x b c = v at *
      obtain ⟨k, a, d, r⟩ := c
      refine af_intro Tryd.func30 rfl (by decide) Tryd.ntmps30 rfl ?_
      repeat' (first
      | fail
      | refine s_y ?_
        | refine c_ ?_
        | (refine aw_if ?_ ?_ <;> intro hb <;> try (exfalso; first | assumption | omega | (simp only [or_self, and_self, not_true_eq_false, not_false_eq_true, or_false, false_or, and_false, false_and, true_and, and_true] at hb; first | done | omega)))
        | refine s_call ?_ (c := by first | exact c1 | exact c2 | exact c3 | exact c4 | exact c5 | fail)
        | refine s_op ?_ (hy := by first | (apply ay_maxi rfl; exact oo_; exact oo_) | (apply ay_mini rfl; exact oo_; exact oo_) | fail)
        | refine s_yg ?_
        | refine s_callg ?_ (c := by intro hk hk2; first | exact c1 | exact c2 | exact c3 | exact c4 | exact c5 | fail)
        | refine s_opg ?_ (hy := by intro hk hk2; first | (apply ay_maxi rfl; exact oo_; exact oo_) | (apply ay_mini rfl; exact oo_; exact oo_) | fail)
        | refine s_skip ?_
        | ((first | refine w_alloc ?_ | refine w_box ?_) <;> intro bb)
        | ((first | refine w_emp ?_ | refine w_make ?_ | refine w_app ?_) <;> intro u hu1 hu2)
        | refine w_stv ?_ | refine w_str ?_ | refine w_cpr ?_ | refine w_cps ?_
        | refine al_last (by kernel_rfl) ?_
      | fail)
      all_goals first | (exfalso; simp at hb; done) | exact ⟨_, [], rl_, List.nil_sublist _, Sub.refl _, rfl⟩ | (exfalso; omega) | (exfalso; simp at hb; omega) | exact ⟨_, [], rl_, List.nil_sublist _, Sub.eq (tup2I (by omega) (by omega)), rfl⟩ | skip
    | true =>
      obtain ⟨_, hx2, _, _, hm, _, _⟩ := be_facts hok
      have hm2 := mul_rng (w := w) (h := h) (y := y) (by omega) (by omega) (by omega)
      have hmul : (y + 1) * w = y * w + w := by rw [Int.add_mul, Int.one_mul]
      have te : touchB (w, h, l, x, y, b, true) c = if goesDown w x b c = true ∧ y = h - 1 then (0, w * h) else if c.1 = 10 then (0, 0) else
          ((if goesDown w x b c = true then y + 1 else y) * w + max ((if goesDown w x b c = true then 0 else x) - 1) 0, if c.1 = 7 then ((if goesDown w x b c = true then y + 1 else y) + 1) * w else if c.1 = 8 then w * h else (if goesDown w x b c = true then y + 1 else y) * w + min w ((if goesDown w x b c = true then 0 else x) + (cellsM c.2.2.2).length + 1)) := by
        unfold touchB; rw [if_neg (fun z => z ⟨hok, hc, hg⟩)]
        by_cases q : goesDown w x b c = true ∧ y = h - 1
        · rw [if_pos (.inr q), if_pos q]
        · rw [if_neg (fun z => by rcases z with z | z; cases z; exact q z), if_neg q]
      rw [te]
      clear te
      rcases hk with ⟨r, rfl, hs⟩ | rfl | rfl | rfl
      · have hn := cellsM_rng hs
        have c5 := f_ref02Width (T0 := T0) r
        have gd : goesDown w x b (1, 0, 0, r) = true ↔ (b = true ∨ w < x + (cellsM r).length) := by simp [goesDown]
        dsimp only
        cases hq : goesDown w x b (1, 0, 0, r) with
        | true =>
          rw [hq] at c4
          by_cases e2 : y = h - 1
          · rw [if_pos ⟨rfl, e2⟩]
            rw [show decide (y = h - 1) = true from decide_eq_true e2] at c4
            clear gd hq
            generalize cellsM r = cs at *
            refine af_intro Tryd.func30 rfl (by decide) Tryd.ntmps30 rfl ?_
            repeat' (first
            | fail
            | refine s_y ?_
              | refine c_ ?_
              | (refine aw_if ?_ ?_ <;> intro hb <;> try (exfalso; first | assumption | omega | (simp only [or_self, and_self, not_true_eq_false, not_false_eq_true, or_false, false_or, and_false, false_and, true_and, and_true] at hb; first | done | omega)))
              | refine s_call ?_ (c := by first | exact c1 | exact c2 | exact c3 | exact c4 | exact c5 | fail)
              | refine s_op ?_ (hy := by first | (apply ay_maxi rfl; exact oo_; exact oo_) | (apply ay_mini rfl; exact oo_; exact oo_) | fail)
              | refine s_yg ?_
              | refine s_callg ?_ (c := by intro hk hk2; first | exact c1 | exact c2 | exact c3 | exact c4 | exact c5 | fail)
              | refine s_opg ?_ (hy := by intro hk hk2; first | (apply ay_maxi rfl; exact oo_; exact oo_) | (apply ay_mini rfl; exact oo_; exact oo_) | fail)
              | refine s_skip ?_
              | ((first | refine w_alloc ?_ | refine w_box ?_) <;> intro bb)
              | ((first | refine w_emp ?_ | refine w_make ?_ | refine w_app ?_) <;> intro u hu1 hu2)
              | refine w_stv ?_ | refine w_str ?_ | refine w_cpr ?_ | refine w_cps ?_
              | refine al_last (by kernel_rfl) ?_
            | fail)
            all_goals first | (exfalso; simp at hb; done) | exact ⟨_, [], rl_, List.nil_sublist _, Sub.refl _, rfl⟩ | (exfalso; omega) | (exfalso; simp at hb; omega) | exact ⟨_, [], rl_, List.nil_sublist _, Sub.eq (tup2I (by omega) (by omega)), rfl⟩ | skip
          · have hm3 := mul_rng (w := w) (h := h) (y := y + 1) (by omega) (by omega) (by omega)
            rw [if_neg (fun z => e2 z.2), if_neg (show ¬ ((1 : Int) = 10) by decide), if_pos rfl, if_pos rfl, if_neg (show ¬ ((1 : Int) = 7) by decide), if_neg (show ¬ ((1 : Int) = 8) by decide)]
            rw [show decide (y = h - 1) = false from decide_eq_false e2] at c4
            clear gd hq
            dsimp only
            generalize cellsM r = cs at *
            refine af_intro Tryd.func30 rfl (by decide) Tryd.ntmps30 rfl ?_
            repeat' (first
            | fail
            | refine s_y ?_
              | refine c_ ?_
              | (refine aw_if ?_ ?_ <;> intro hb <;> try (exfalso; first | assumption | omega | (simp only [or_self, and_self, not_true_eq_false, not_false_eq_true, or_false, false_or, and_false, false_and, true_and, and_true] at hb; first | done | omega)))
              | refine s_call ?_ (c := by first | exact c1 | exact c2 | exact c3 | exact c4 | exact c5 | fail)
              | refine s_op ?_ (hy := by first | (apply ay_maxi rfl; exact oo_; exact oo_) | (apply ay_mini rfl; exact oo_; exact oo_) | fail)
              | refine s_yg ?_
              | refine s_callg ?_ (c := by intro hk hk2; first | exact c1 | exact c2 | exact c3 | exact c4 | exact c5 | fail)
              | refine s_opg ?_ (hy := by intro hk hk2; first | (apply ay_maxi rfl; exact oo_; exact oo_) | (apply ay_mini rfl; exact oo_; exact oo_) | fail)
              | refine s_skip ?_
              | ((first | refine w_alloc ?_ | refine w_box ?_) <;> intro bb)
              | ((first | refine w_emp ?_ | refine w_make ?_ | refine w_app ?_) <;> intro u hu1 hu2)
              | refine w_stv ?_ | refine w_str ?_ | refine w_cpr ?_ | refine w_cps ?_
              | refine al_last (by kernel_rfl) ?_
            | fail)
            all_goals first | (exfalso; simp at hb; done) | exact ⟨_, [], rl_, List.nil_sublist _, Sub.refl _, rfl⟩ | (exfalso; omega) | (exfalso; simp at hb; omega) | exact ⟨_, [], rl_, List.nil_sublist _, Sub.eq (tup2I (by omega) (by omega)), rfl⟩ | skip
        | false =>
          rw [hq] at c4
          rw [if_neg (fun z => by cases z.1), if_neg (show ¬ ((1 : Int) = 10) by decide), if_neg (by decide), if_neg (by decide), if_neg (show ¬ ((1 : Int) = 7) by decide), if_neg (show ¬ ((1 : Int) = 8) by decide)]
          clear gd hq
          dsimp only
          generalize cellsM r = cs at *
          refine af_intro Tryd.func30 rfl (by decide) Tryd.ntmps30 rfl ?_
          repeat' (first
          | fail
          | refine s_y ?_
            | refine c_ ?_
            | (refine aw_if ?_ ?_ <;> intro hb <;> try (exfalso; first | assumption | omega | (simp only [or_self, and_self, not_true_eq_false, not_false_eq_true, or_false, false_or, and_false, false_and, true_and, and_true] at hb; first | done | omega)))
            | refine s_call ?_ (c := by first | exact c1 | exact c2 | exact c3 | exact c4 | exact c5 | fail)
            | refine s_op ?_ (hy := by first | (apply ay_maxi rfl; exact oo_; exact oo_) | (apply ay_mini rfl; exact oo_; exact oo_) | fail)
            | refine s_yg ?_
            | refine s_callg ?_ (c := by intro hk hk2; first | exact c1 | exact c2 | exact c3 | exact c4 | exact c5 | fail)
            | refine s_opg ?_ (hy := by intro hk hk2; first | (apply ay_maxi rfl; exact oo_; exact oo_) | (apply ay_mini rfl; exact oo_; exact oo_) | fail)
            | refine s_skip ?_
            | ((first | refine w_alloc ?_ | refine w_box ?_) <;> intro bb)
            | ((first | refine w_emp ?_ | refine w_make ?_ | refine w_app ?_) <;> intro u hu1 hu2)
            | refine w_stv ?_ | refine w_str ?_ | refine w_cpr ?_ | refine w_cps ?_
            | refine al_last (by kernel_rfl) ?_
          | fail)
          all_goals first | (exfalso; simp at hb; done) | exact ⟨_, [], rl_, List.nil_sublist _, Sub.refl _, rfl⟩ | (exfalso; omega) | (exfalso; simp at hb; omega) | exact ⟨_, [], rl_, List.nil_sublist _, Sub.eq (tup2I (by omega) (by omega)), rfl⟩ | skip
      · have c5 : True := trivial
        have gn : goesDown w x b (7, 0, 0, 0) = false := by simp [goesDown]
        rw [gn] at c4 ⊢
        rw [if_neg (fun z => by cases z.1), if_neg (by decide), if_neg (by decide), if_neg (by decide), if_pos rfl]
        clear gn
        refine af_intro Tryd.func30 rfl (by decide) Tryd.ntmps30 rfl ?_
        repeat' (first
        | fail
        | refine s_y ?_
          | refine c_ ?_
          | (refine aw_if ?_ ?_ <;> intro hb <;> try (exfalso; first | assumption | omega | (simp only [or_self, and_self, not_true_eq_false, not_false_eq_true, or_false, false_or, and_false, false_and, true_and, and_true] at hb; first | done | omega)))
          | refine s_call ?_ (c := by first | exact c1 | exact c2 | exact c3 | exact c4 | exact c5 | fail)
          | refine s_op ?_ (hy := by first | (apply ay_maxi rfl; exact oo_; exact oo_) | (apply ay_mini rfl; exact oo_; exact oo_) | fail)
          | refine s_yg ?_
          | refine s_callg ?_ (c := by intro hk hk2; first | exact c1 | exact c2 | exact c3 | exact c4 | exact c5 | fail)
          | refine s_opg ?_ (hy := by intro hk hk2; first | (apply ay_maxi rfl; exact oo_; exact oo_) | (apply ay_mini rfl; exact oo_; exact oo_) | fail)
          | refine s_skip ?_
          | ((first | refine w_alloc ?_ | refine w_box ?_) <;> intro bb)
          | ((first | refine w_emp ?_ | refine w_make ?_ | refine w_app ?_) <;> intro u hu1 hu2)
          | refine w_stv ?_ | refine w_str ?_ | refine w_cpr ?_ | refine w_cps ?_
          | refine al_last (by kernel_rfl) ?_
        | fail)
        all_goals first | (exfalso; simp at hb; done) | exact ⟨_, [], rl_, List.nil_sublist _, Sub.refl _, rfl⟩ | (exfalso; omega) | (exfalso; simp at hb; omega) | exact ⟨_, [], rl_, List.nil_sublist _, Sub.eq (tup2I (by omega) (by omega)), rfl⟩ | skip
      · have c5 : True := trivial
        have gn : goesDown w x b (8, 0, 0, 0) = false := by simp [goesDown]
        rw [gn] at c4 ⊢
        rw [if_neg (fun z => by cases z.1), if_neg (by decide), if_neg (by decide), if_neg (by decide), if_neg (by decide), if_pos rfl]
        clear gn
        refine af_intro Tryd.func30 rfl (by decide) Tryd.ntmps30 rfl ?_
        repeat' (first
        | fail
        | refine s_y ?_
          | refine c_ ?_
          | (refine aw_if ?_ ?_ <;> intro hb <;> try (exfalso; first | assumption | omega | (simp only [or_self, and_self, not_true_eq_false, not_false_eq_true, or_false, false_or, and_false, false_and, true_and, and_true] at hb; first | done | omega)))
          | refine s_call ?_ (c := by first | exact c1 | exact c2 | exact c3 | exact c4 | exact c5 | fail)
          | refine s_op ?_ (hy := by first | (apply ay_maxi rfl; exact oo_; exact oo_) | (apply ay_mini rfl; exact oo_; exact oo_) | fail)
          | refine s_yg ?_
          | refine s_callg ?_ (c := by intro hk hk2; first | exact c1 | exact c2 | exact c3 | exact c4 | exact c5 | fail)
          | refine s_opg ?_ (hy := by intro hk hk2; first | (apply ay_maxi rfl; exact oo_; exact oo_) | (apply ay_mini rfl; exact oo_; exact oo_) | fail)
          | refine s_skip ?_
          | ((first | refine w_alloc ?_ | refine w_box ?_) <;> intro bb)
          | ((first | refine w_emp ?_ | refine w_make ?_ | refine w_app ?_) <;> intro u hu1 hu2)
          | refine w_stv ?_ | refine w_str ?_ | refine w_cpr ?_ | refine w_cps ?_
          | refine al_last (by kernel_rfl) ?_
        | fail)
        all_goals first | (exfalso; simp at hb; done) | exact ⟨_, [], rl_, List.nil_sublist _, Sub.refl _, rfl⟩ | (exfalso; omega) | (exfalso; simp at hb; omega) | exact ⟨_, [], rl_, List.nil_sublist _, Sub.eq (tup2I (by omega) (by omega)), rfl⟩ | skip
      · have c5 : True := trivial
        have gp : goesDown w x b (10, 0, 0, 0) = true := by simp [goesDown]
        rw [gp] at c4 ⊢
        by_cases e2 : y = h - 1
        · rw [if_pos ⟨rfl, e2⟩]
          rw [show decide (y = h - 1) = true from decide_eq_true e2] at c4
          clear gp
          refine af_intro Tryd.func30 rfl (by decide) Tryd.ntmps30 rfl ?_
          repeat' (first
          | fail
          | refine s_y ?_
            | refine c_ ?_
            | (refine aw_if ?_ ?_ <;> intro hb <;> try (exfalso; first | assumption | omega | (simp only [or_self, and_self, not_true_eq_false, not_false_eq_true, or_false, false_or, and_false, false_and, true_and, and_true] at hb; first | done | omega)))
            | refine s_call ?_ (c := by first | exact c1 | exact c2 | exact c3 | exact c4 | exact c5 | fail)
            | refine s_op ?_ (hy := by first | (apply ay_maxi rfl; exact oo_; exact oo_) | (apply ay_mini rfl; exact oo_; exact oo_) | fail)
            | refine s_yg ?_
            | refine s_callg ?_ (c := by intro hk hk2; first | exact c1 | exact c2 | exact c3 | exact c4 | exact c5 | fail)
            | refine s_opg ?_ (hy := by intro hk hk2; first | (apply ay_maxi rfl; exact oo_; exact oo_) | (apply ay_mini rfl; exact oo_; exact oo_) | fail)
            | refine s_skip ?_
            | ((first | refine w_alloc ?_ | refine w_box ?_) <;> intro bb)
            | ((first | refine w_emp ?_ | refine w_make ?_ | refine w_app ?_) <;> intro u hu1 hu2)
            | refine w_stv ?_ | refine w_str ?_ | refine w_cpr ?_ | refine w_cps ?_
            | refine al_last (by kernel_rfl) ?_
          | fail)
          all_goals first | (exfalso; simp at hb; done) | exact ⟨_, [], rl_, List.nil_sublist _, Sub.refl _, rfl⟩ | (exfalso; omega) | (exfalso; simp at hb; omega) | exact ⟨_, [], rl_, List.nil_sublist _, Sub.eq (tup2I (by omega) (by omega)), rfl⟩ | skip
        · rw [if_neg (fun z => e2 z.2), if_pos rfl]
          rw [show decide (y = h - 1) = false from decide_eq_false e2] at c4
          clear gp
          refine af_intro Tryd.func30 rfl (by decide) Tryd.ntmps30 rfl ?_
          repeat' (first
          | fail
          | refine s_y ?_
            | refine c_ ?_
            | (refine aw_if ?_ ?_ <;> intro hb <;> try (exfalso; first | assumption | omega | (simp only [or_self, and_self, not_true_eq_false, not_false_eq_true, or_false, false_or, and_false, false_and, true_and, and_true] at hb; first | done | omega)))
            | refine s_call ?_ (c := by first | exact c1 | exact c2 | exact c3 | exact c4 | exact c5 | fail)
            | refine s_op ?_ (hy := by first | (apply ay_maxi rfl; exact oo_; exact oo_) | (apply ay_mini rfl; exact oo_; exact oo_) | fail)
            | refine s_yg ?_
            | refine s_callg ?_ (c := by intro hk hk2; first | exact c1 | exact c2 | exact c3 | exact c4 | exact c5 | fail)
            | refine s_opg ?_ (hy := by intro hk hk2; first | (apply ay_maxi rfl; exact oo_; exact oo_) | (apply ay_mini rfl; exact oo_; exact oo_) | fail)
            | refine s_skip ?_
            | ((first | refine w_alloc ?_ | refine w_box ?_) <;> intro bb)
            | ((first | refine w_emp ?_ | refine w_make ?_ | refine w_app ?_) <;> intro u hu1 hu2)
            | refine w_stv ?_ | refine w_str ?_ | refine w_cpr ?_ | refine w_cps ?_
            | refine al_last (by kernel_rfl) ?_
          | fail)
          all_goals first | (exfalso; simp at hb; done) | exact ⟨_, [], rl_, List.nil_sublist _, Sub.refl _, rfl⟩ | (exfalso; omega) | (exfalso; simp at hb; omega) | exact ⟨_, [], rl_, List.nil_sublist _, Sub.eq (tup2I (by omega) (by omega)), rfl⟩ | skip
  · have e : touchB (w, h, l, x, y, b, s) c = (0, 0) := by unfold touchB; rw [if_pos h0]
    rw [e]
    have c4 : True := trivial
    have c5 : True := trivial
    generalize okBe w h l x y b s = v1 at *
    generalize isCmd c = v2 at *
    generalize chg c.1 = v3 at *
    obtain ⟨k, a, d, r⟩ := c
    refine af_intro Tryd.func30 rfl (by decide) Tryd.ntmps30 rfl ?_
    repeat' (first
    | fail
    | refine s_y ?_
      | refine c_ ?_
      | (refine aw_if ?_ ?_ <;> intro hb <;> try (exfalso; first | assumption | omega | (simp only [or_self, and_self, not_true_eq_false, not_false_eq_true, or_false, false_or, and_false, false_and, true_and, and_true] at hb; first | done | omega)))
      | refine s_call ?_ (c := by first | exact c1 | exact c2 | exact c3 | exact c4 | exact c5 | fail)
      | refine s_op ?_ (hy := by first | (apply ay_maxi rfl; exact oo_; exact oo_) | (apply ay_mini rfl; exact oo_; exact oo_) | fail)
      | refine s_yg ?_
      | refine s_callg ?_ (c := by intro hk hk2; first | exact c1 | exact c2 | exact c3 | exact c4 | exact c5 | fail)
      | refine s_opg ?_ (hy := by intro hk hk2; first | (apply ay_maxi rfl; exact oo_; exact oo_) | (apply ay_mini rfl; exact oo_; exact oo_) | fail)
      | refine s_skip ?_
      | ((first | refine w_alloc ?_ | refine w_box ?_) <;> intro bb)
      | ((first | refine w_emp ?_ | refine w_make ?_ | refine w_app ?_) <;> intro u hu1 hu2)
      | refine w_stv ?_ | refine w_str ?_ | refine w_cpr ?_ | refine w_cps ?_
      | refine al_last (by kernel_rfl) ?_
    | fail)
    all_goals first | exact ⟨_, [], rl_, List.nil_sublist _, Sub.refl _, rfl⟩ | (exfalso; exact h0 ⟨hb.1.1, hb.1.2, hb.2⟩) | skip
theorem forB_step (l : List Guess) (f k : Nat) (hk : f + k < l.length) : (forB l f (f + k)).set (f + k) gZero = forB l f (f + (k + 1)) := by
  unfold forB
  rw [show f + k - f = k by omega, show f + (k + 1) - f = k + 1 by omega]
  have := ovr_stepG l f (List.replicate (k + 1) gZero) k gZero (by simp) (by simp; omega)
  rw [List.take_replicate, List.take_replicate, show min k (k + 1) = k by omega, Nat.min_self] at this
  exact this
theorem f_ref27ForgetO (w h : Int) (l : List Guess) (x y : Int) (b s : Bool) (f t : Nat) (cur : Bool) (h1 : okBe w h l x y b s = true) (h2 : f ≤ t) (h3 : t ≤ l.length) : AF Tryd.prog T0 32 [belA w h l x y b s, I f, I t, B cur] [] (fun A M' => ∃ u, A = aggA [I w, I h, vA u, I (if cur then 0 else x), I (if cur then 0 else y), B (if cur then false else b), B (if cur then false else s)] ∧ M' = [gsO u (forB l f t)]) := by
  obtain ⟨hl, hl2, hw⟩ := okBe_len2 h1
  have c1 : AP Tryd.prog T0 27 [belA w h l x y b s] (B true) := (f_ref27Is w h l x y b s).to (by rw [h1])
  have c2 : True := trivial
  have c3 : True := trivial
  have c4 : True := trivial
  have c5 : True := trivial
  have co := f_ref27own (T0 := T0) w h l x y b s (by omega)
  refine af_intro Tryd.func32 rfl (by decide) Tryd.ntmps32 rfl ?_
  repeat' (first
  | (apply al_call0 rfl rfl rfl rfl (c := co)
     case ha => exact os_
     rintro _ _ ⟨u, rfl, rfl⟩; refine al_rowc (List.Mem.head _) fun hu1 hu2 => ?_)
    | refine w_str ?_ (hc := ca_gu)
  | refine s_y ?_
    | refine c_ ?_
    | (refine aw_if ?_ ?_ <;> intro hb <;> try (exfalso; first | assumption | omega | (simp only [or_self, and_self, not_true_eq_false, not_false_eq_true, or_false, false_or, and_false, false_and, true_and, and_true] at hb; first | done | omega)))
    | refine s_call ?_ (c := by first | exact c1 | exact c2 | exact c3 | exact c4 | exact c5 | fail)
    | refine s_op ?_ (hy := by first | fail | fail)
    | refine s_yg ?_
    | refine s_callg ?_ (c := by intro hk hk2; first | exact c1 | exact c2 | exact c3 | exact c4 | exact c5 | fail)
    | refine s_opg ?_ (hy := by intro hk hk2; first | fail | fail)
    | refine s_skip ?_
    | ((first | refine w_alloc ?_ | refine w_box ?_) <;> intro bb)
    | ((first | refine w_emp ?_ | refine w_make ?_ | refine w_app ?_) <;> intro u hu1 hu2)
    | refine w_stv ?_ | refine w_str ?_ | refine w_cpr ?_ | refine w_cps ?_
    | refine al_last (by kernel_rfl) ?_
  | fail)
  all_goals first | (exfalso; simp at hb; done) | (exfalso; simp at hb; omega) | (exfalso; omega) | skip
  refine aw_lr (d := fun k : Nat => [(10, I ((f + k : Nat) : Int))]) (g := fun k => forB l f (f + k)) (fun k => f + k ≤ t) (fun k => t - (f + k)) 0 (by omega) ?_ ?_
  · unfold forB; rw [Nat.add_zero, Nat.sub_self]; simp [ovr]
  rintro k k1
  have hl4 : (forB l f (f + k)).length = l.length := forB_len (by omega) (by omega)
  by_cases hlt : f + k < t
  · have hst := forB_step l f k (by omega)
    generalize forB l f (f + k) = L0 at *
    repeat' (first
    | (apply al_call0 rfl rfl rfl rfl (c := co)
       case ha => exact os_
       rintro _ _ ⟨u, rfl, rfl⟩; refine al_rowc (List.Mem.head _) fun hu1 hu2 => ?_)
      | refine w_str ?_ (hc := ca_gu)
    | refine s_y ?_
      | refine c_ ?_
      | (refine aw_if ?_ ?_ <;> intro hb <;> try (exfalso; first | assumption | omega | (simp only [or_self, and_self, not_true_eq_false, not_false_eq_true, or_false, false_or, and_false, false_and, true_and, and_true] at hb; first | done | omega)))
      | refine s_call ?_ (c := by first | exact c1 | exact c2 | exact c3 | exact c4 | exact c5 | fail)
      | refine s_op ?_ (hy := by first | fail | fail)
      | refine s_yg ?_
      | refine s_callg ?_ (c := by intro hk hk2; first | exact c1 | exact c2 | exact c3 | exact c4 | exact c5 | fail)
      | refine s_opg ?_ (hy := by intro hk hk2; first | fail | fail)
      | refine s_skip ?_
      | ((first | refine w_alloc ?_ | refine w_box ?_) <;> intro bb)
      | ((first | refine w_emp ?_ | refine w_make ?_ | refine w_app ?_) <;> intro u hu1 hu2)
      | refine w_stv ?_ | refine w_str ?_ | refine w_cpr ?_ | refine w_cps ?_
      | refine al_last (by kernel_rfl) ?_
    | fail)
    all_goals first | (exfalso; omega) | skip
    refine ⟨k + 1, by omega, by omega, wx_, ?_⟩
    rw [← hst]; exact sl_
  · rw [show f + k = t by omega] at hl4 ⊢
    generalize forB l f t = L0 at *
    cases cur with
    | true =>
      repeat' (first
      | (apply al_call0 rfl rfl rfl rfl (c := co)
         case ha => exact os_
         rintro _ _ ⟨u, rfl, rfl⟩; refine al_rowc (List.Mem.head _) fun hu1 hu2 => ?_)
        | refine w_str ?_ (hc := ca_gu)
      | refine s_y ?_
        | refine c_ ?_
        | (refine aw_if ?_ ?_ <;> intro hb <;> try (exfalso; first | assumption | omega | (simp only [or_self, and_self, not_true_eq_false, not_false_eq_true, or_false, false_or, and_false, false_and, true_and, and_true] at hb; first | done | omega)))
        | refine s_call ?_ (c := by first | exact c1 | exact c2 | exact c3 | exact c4 | exact c5 | fail)
        | refine s_op ?_ (hy := by first | fail | fail)
        | refine s_yg ?_
        | refine s_callg ?_ (c := by intro hk hk2; first | exact c1 | exact c2 | exact c3 | exact c4 | exact c5 | fail)
        | refine s_opg ?_ (hy := by intro hk hk2; first | fail | fail)
        | refine s_skip ?_
        | ((first | refine w_alloc ?_ | refine w_box ?_) <;> intro bb)
        | ((first | refine w_emp ?_ | refine w_make ?_ | refine w_app ?_) <;> intro u hu1 hu2)
        | refine w_stv ?_ | refine w_str ?_ | refine w_cpr ?_ | refine w_cps ?_
        | refine al_last (by kernel_rfl) ?_
      | fail)
      all_goals first | (exfalso; simp at hb; done) | (exfalso; simp at hb; omega) | (exfalso; omega) | exact ⟨_, [gsO u _], rl_, sl_, u, rfl, rfl⟩ | skip
    | false =>
      repeat' (first
      | (apply al_call0 rfl rfl rfl rfl (c := co)
         case ha => exact os_
         rintro _ _ ⟨u, rfl, rfl⟩; refine al_rowc (List.Mem.head _) fun hu1 hu2 => ?_)
        | refine w_str ?_ (hc := ca_gu)
      | refine s_y ?_
        | refine c_ ?_
        | (refine aw_if ?_ ?_ <;> intro hb <;> try (exfalso; first | assumption | omega | (simp only [or_self, and_self, not_true_eq_false, not_false_eq_true, or_false, false_or, and_false, false_and, true_and, and_true] at hb; first | done | omega)))
        | refine s_call ?_ (c := by first | exact c1 | exact c2 | exact c3 | exact c4 | exact c5 | fail)
        | refine s_op ?_ (hy := by first | fail | fail)
        | refine s_yg ?_
        | refine s_callg ?_ (c := by intro hk hk2; first | exact c1 | exact c2 | exact c3 | exact c4 | exact c5 | fail)
        | refine s_opg ?_ (hy := by intro hk hk2; first | fail | fail)
        | refine s_skip ?_
        | ((first | refine w_alloc ?_ | refine w_box ?_) <;> intro bb)
        | ((first | refine w_emp ?_ | refine w_make ?_ | refine w_app ?_) <;> intro u hu1 hu2)
        | refine w_stv ?_ | refine w_str ?_ | refine w_cpr ?_ | refine w_cps ?_
        | refine al_last (by kernel_rfl) ?_
      | fail)
      all_goals first | (exfalso; simp at hb; done) | (exfalso; simp at hb; omega) | (exfalso; omega) | exact ⟨_, [gsO u _], rl_, sl_, u, rfl, rfl⟩ | skip
theorem f_ref27Forget (w h : Int) (l : List Guess) (x y : Int) (b s : Bool) (f t : Int) (cur : Bool) : AP Tryd.prog T0 32 [belA w h l x y b s, I f, I t, B cur] (blA (forgetB (w, h, l, x, y, b, s) f t cur)) := by
  by_cases q : okBe w h l x y b s = true ∧ 0 ≤ f ∧ f ≤ t ∧ t ≤ l.length
  · obtain ⟨q0, q1, q2, q3⟩ := q
    obtain ⟨f, rfl⟩ := Int.eq_ofNat_of_zero_le q1
    obtain ⟨t, rfl⟩ := Int.eq_ofNat_of_zero_le (show 0 ≤ t by omega)
    have key := (f_ref27ForgetO (T0 := T0) w h l x y b s f t cur q0 (by omega) (by omega)).frz1 fza_
    have e : forgetB (w, h, l, x, y, b, s) f t cur = (w, h, forB l f t, if cur then 0 else x, if cur then 0 else y, if cur then false else b, if cur then false else s) := by
      unfold forgetB
      rw [if_neg (fun z => z ⟨q0, q1, q2, q3⟩)]
      cases cur <;> rfl
    rw [e]; exact key
  · have e : forgetB (w, h, l, x, y, b, s) f t cur = (w, h, l, x, y, b, s) := by unfold forgetB; rw [if_pos q]
    rw [e]
    have c2 : True := trivial
    have c3 : True := trivial
    have c4 : True := trivial
    have c5 : True := trivial
    have co : True := trivial
    cases hv : okBe w h l x y b s with
    | false =>
      have c1 : AP Tryd.prog T0 27 [belA w h l x y b s] (B false) := (f_ref27Is w h l x y b s).to (by rw [hv])
      refine af_intro Tryd.func32 rfl (by decide) Tryd.ntmps32 rfl ?_
      repeat' (first
      | (apply al_call0 rfl rfl rfl rfl (c := co)
         case ha => exact os_
         rintro _ _ ⟨u, rfl, rfl⟩; refine al_rowc (List.Mem.head _) fun hu1 hu2 => ?_)
        | refine w_str ?_ (hc := ca_gu)
      | refine s_y ?_
        | refine c_ ?_
        | (refine aw_if ?_ ?_ <;> intro hb <;> try (exfalso; first | assumption | omega | (simp only [or_self, and_self, not_true_eq_false, not_false_eq_true, or_false, false_or, and_false, false_and, true_and, and_true] at hb; first | done | omega)))
        | refine s_call ?_ (c := by first | exact c1 | exact c2 | exact c3 | exact c4 | exact c5 | fail)
        | refine s_op ?_ (hy := by first | exact ay_mulw rfl oog_ oog_ | fail)
        | refine s_yg ?_
        | refine s_callg ?_ (c := by intro hk hk2; first | exact c1 | exact c2 | exact c3 | exact c4 | exact c5 | fail)
        | refine s_opg ?_ (hy := by intro hk hk2; first | exact ay_mulw rfl oog_ oog_ | fail)
        | refine s_skip ?_
        | ((first | refine w_alloc ?_ | refine w_box ?_) <;> intro bb)
        | ((first | refine w_emp ?_ | refine w_make ?_ | refine w_app ?_) <;> intro u hu1 hu2)
        | refine w_stv ?_ | refine w_str ?_ | refine w_cpr ?_ | refine w_cps ?_
        | refine al_last (by kernel_rfl) ?_
      | fail)
      all_goals first | (exfalso; simp at hb; done) | exact ⟨_, [], rl_, List.nil_sublist _, Sub.refl _, rfl⟩ | skip
    | true =>
      have c1 : AP Tryd.prog T0 27 [belA w h l x y b s] (B true) := (f_ref27Is w h l x y b s).to (by rw [hv])
      obtain ⟨hl, hl2, hw⟩ := okBe_len2 hv
      have hq : ¬ (0 ≤ f ∧ f ≤ t ∧ t ≤ l.length) := fun z => q ⟨hv, z⟩
      refine af_intro Tryd.func32 rfl (by decide) Tryd.ntmps32 rfl ?_
      repeat' (first
      | (apply al_call0 rfl rfl rfl rfl (c := co)
         case ha => exact os_
         rintro _ _ ⟨u, rfl, rfl⟩; refine al_rowc (List.Mem.head _) fun hu1 hu2 => ?_)
        | refine w_str ?_ (hc := ca_gu)
      | refine s_y ?_
        | refine c_ ?_
        | (refine aw_if ?_ ?_ <;> intro hb <;> try (exfalso; first | assumption | omega | (simp only [or_self, and_self, not_true_eq_false, not_false_eq_true, or_false, false_or, and_false, false_and, true_and, and_true] at hb; first | done | omega)))
        | refine s_call ?_ (c := by first | exact c1 | exact c2 | exact c3 | exact c4 | exact c5 | fail)
        | refine s_op ?_ (hy := by first | fail | fail)
        | refine s_yg ?_
        | refine s_callg ?_ (c := by intro hk hk2; first | exact c1 | exact c2 | exact c3 | exact c4 | exact c5 | fail)
        | refine s_opg ?_ (hy := by intro hk hk2; first | fail | fail)
        | refine s_skip ?_
        | ((first | refine w_alloc ?_ | refine w_box ?_) <;> intro bb)
        | ((first | refine w_emp ?_ | refine w_make ?_ | refine w_app ?_) <;> intro u hu1 hu2)
        | refine w_stv ?_ | refine w_str ?_ | refine w_cpr ?_ | refine w_cps ?_
        | refine al_last (by kernel_rfl) ?_
      | fail)
      all_goals first | exact ⟨_, [], rl_, List.nil_sublist _, Sub.refl _, rfl⟩ | (exfalso; omega) | skip
theorem f_ref27OfO (w h : Int) (l : List Cell) (x y : Int) (b : Bool) (h1 : okT w h l x y b = true) : AF Tryd.prog T0 24 [termA w h l x y b] [] (fun A M' => ∃ u, A = tupA [aggA [I w, I h, vA u, I x, I y, B b, B true], I 0] ∧ M' = [gsO u (ofL l)]) := by
  have hl := (okG_len (okT_iff.1 h1).1).2.1
  have c1 : AP Tryd.prog T0 57 [termA w h l x y b] (B true) := (f_ref07Is w h l x y b).to (by rw [h1])
  have c2 : True := trivial
  have c3 : True := trivial
  have c4 : True := trivial
  have c5 : True := trivial
  refine af_intro Tryd.func24 rfl (by decide) Tryd.ntmps24 rfl ?_
  repeat' (first
  | fail
  | (apply aw_regionT 10; (case hD => decide +kernel); (case hB => decide +kernel); (case hg => decide +kernel); (case hm => kernel_rfl); (case hs => rfl))
    | refine endT_ ?_
  | refine aw_seq ?_
    | refine aw_region0 ?_
    | refine al_nil ?_
    | refine th_n ?_
    | refine th_e ?_
    | refine th_r ?_
    | refine ib_n ?_
    | refine ib_e rfl ?_
    | refine ib_e' rfl ?_
    | refine ib_r ?_
    | refine aw_block ?_
    | refine aw_exit ?_
    | refine aw_ret ?_
    | refine aw_skip ?_
    | (apply aw_region1q (by rfl) (by kernel_rfl) (by kernel_rfl))
  | refine s_y ?_
    | refine c_ ?_
    | (refine aw_if ?_ ?_ <;> intro hb <;> try (exfalso; first | assumption | omega | (simp only [or_self, and_self, not_true_eq_false, not_false_eq_true, or_false, false_or, and_false, false_and, true_and, and_true] at hb; first | done | omega)))
    | refine s_call ?_ (c := by first | exact c1 | exact c2 | exact c3 | exact c4 | exact c5 | fail)
    | refine s_op ?_ (hy := by first | exact AY.sub (ay_buildSlice (T := guT) [((_, _), _)] rfl un_ el_ rfl (by decide) ⟨_, px_, rfl⟩) sub_slc | fail)
    | refine s_yg ?_
    | refine s_callg ?_ (c := by intro hk hk2; first | exact c1 | exact c2 | exact c3 | exact c4 | exact c5 | fail)
    | refine s_opg ?_ (hy := by intro hk hk2; first | exact AY.sub (ay_buildSlice (T := guT) [((_, _), _)] rfl un_ el_ rfl (by decide) ⟨_, px_, rfl⟩) sub_slc | fail)
    | refine s_skip ?_
    | ((first | refine w_alloc ?_ | refine w_box ?_) <;> intro bb)
    | ((first | refine w_emp ?_ | refine w_make ?_ | refine w_app ?_) <;> intro u hu1 hu2)
    | refine w_stv ?_ | refine w_str ?_ | refine w_cpr ?_ | refine w_cps ?_
    | refine al_last (by kernel_rfl) ?_
  | fail)
  all_goals first | (exfalso; simp at hb; done) | skip
  rename_i b1 b2
  refine aw_nil guT 81 ?_
  refine aw_fl2 (fun (k : Nat) (u : Value) => [(1, vA (.pointer (some ⟨b1, 0, none⟩))), (2, vA (.pointer (some ⟨b2, 0, none⟩))), (4, vA (.pointer (some ⟨bb, 0, none⟩))), (5, I k)]) (fun k u => [gsO u (ofL (l.take k)), varO bb 24 [I w, I h, vA u, I x, I y, B b, B true], varO b2 24 [I 0, I 0, vA (.slice none 0 0), I 0, I 0, B false, B false], varO b1 43 [I w, I h, slA cellT l, I x, I y, B b]]) (fun k _ => k ≤ l.length) (fun k _ => l.length - k) 0 _ (Nat.zero_le _) wk_ (List.Sublist.refl _) ?_
  rintro k u k1
  refine aw_rowc (List.Mem.head _) fun hu1 hu2 => ?_
  have hlen : (ofL (l.take k)).length = k := by rw [ofL_len, List.length_take]; omega
  by_cases hlt : k < l.length
  · obtain ⟨⟨p1, p2⟩, hat⟩ : ∃ z, l[k]? = some z := ⟨_, List.getElem?_eq_getElem hlt⟩
    have hst := ofL_take hat
    generalize ofL (l.take k) = L0 at *
    repeat' (first
    | fail
    | (apply aw_regionT 10; (case hD => decide +kernel); (case hB => decide +kernel); (case hg => decide +kernel); (case hm => kernel_rfl); (case hs => rfl))
      | refine endT_ ?_
    | refine aw_seq ?_
      | refine aw_region0 ?_
      | refine al_nil ?_
      | refine th_n ?_
      | refine th_e ?_
      | refine th_r ?_
      | refine ib_n ?_
      | refine ib_e rfl ?_
      | refine ib_e' rfl ?_
      | refine ib_r ?_
      | refine aw_block ?_
      | refine aw_exit ?_
      | refine aw_ret ?_
      | refine aw_skip ?_
      | (apply aw_region1q (by rfl) (by kernel_rfl) (by kernel_rfl))
    | refine s_y ?_
      | refine c_ ?_
      | (refine aw_if ?_ ?_ <;> intro hb <;> try (exfalso; first | assumption | omega | (simp only [or_self, and_self, not_true_eq_false, not_false_eq_true, or_false, false_or, and_false, false_and, true_and, and_true] at hb; first | done | omega)))
      | refine s_call ?_ (c := by first | exact c1 | exact c2 | exact c3 | exact c4 | exact c5 | fail)
      | refine s_op ?_ (hy := by first | exact AY.sub (ay_buildSlice (T := guT) [((_, _), _)] rfl un_ el_ rfl (by decide) ⟨_, px_, rfl⟩) sub_slc | fail)
      | refine s_yg ?_
      | refine s_callg ?_ (c := by intro hk hk2; first | exact c1 | exact c2 | exact c3 | exact c4 | exact c5 | fail)
      | refine s_opg ?_ (hy := by intro hk hk2; first | exact AY.sub (ay_buildSlice (T := guT) [((_, _), _)] rfl un_ el_ rfl (by decide) ⟨_, px_, rfl⟩) sub_slc | fail)
      | refine s_skip ?_
      | ((first | refine w_alloc ?_ | refine w_box ?_) <;> intro bb)
      | ((first | refine w_emp ?_ | refine w_make ?_ | refine w_app ?_) <;> intro u hu1 hu2)
      | refine w_stv ?_ | refine w_str ?_ | refine w_cpr ?_ | refine w_cps ?_
      | refine al_last (by kernel_rfl) ?_
    | fail)
    all_goals first | (exfalso; omega) | skip
    exact ⟨k + 1, _, by omega, by omega, wk_, by rw [hst]; exact List.Sublist.refl _⟩
  · obtain rfl : k = l.length := by omega
    rw [List.take_length]
    generalize ofL l = L0 at *
    repeat' (first
    | fail
    | refine s_y ?_
      | refine c_ ?_
      | (refine aw_if ?_ ?_ <;> intro hb <;> try (exfalso; first | assumption | omega | (simp only [or_self, and_self, not_true_eq_false, not_false_eq_true, or_false, false_or, and_false, false_and, true_and, and_true] at hb; first | done | omega)))
      | refine s_call ?_ (c := by first | exact c1 | exact c2 | exact c3 | exact c4 | exact c5 | fail)
      | refine s_op ?_ (hy := by first | exact AY.sub (ay_buildSlice (T := guT) [((_, _), _)] rfl un_ el_ rfl (by decide) ⟨_, px_, rfl⟩) sub_slc | fail)
      | refine s_yg ?_
      | refine s_callg ?_ (c := by intro hk hk2; first | exact c1 | exact c2 | exact c3 | exact c4 | exact c5 | fail)
      | refine s_opg ?_ (hy := by intro hk hk2; first | exact AY.sub (ay_buildSlice (T := guT) [((_, _), _)] rfl un_ el_ rfl (by decide) ⟨_, px_, rfl⟩) sub_slc | fail)
      | refine s_skip ?_
      | ((first | refine w_alloc ?_ | refine w_box ?_) <;> intro bb)
      | ((first | refine w_emp ?_ | refine w_make ?_ | refine w_app ?_) <;> intro u hu1 hu2)
      | refine w_stv ?_ | refine w_str ?_ | refine w_cpr ?_ | refine w_cps ?_
      | refine al_last (by kernel_rfl) ?_
    | fail)
    all_goals first | (exfalso; omega) | skip
    exact ⟨_, [gsO u L0], rl_, sl_, u, rfl, rfl⟩
theorem f_ref27Of (w h : Int) (l : List Cell) (x y : Int) (b : Bool) : AP Tryd.prog T0 24 [termA w h l x y b] (tupA [blA (ofB (w, h, l, x, y, b)).1, I (ofB (w, h, l, x, y, b)).2]) := by
  unfold ofB
  cases h1 : okTm (w, h, l, x, y, b) with
  | true =>
    rw [if_pos rfl]
    exact (f_ref27OfO w h l x y b h1).frz1 fza_
  | false =>
    rw [if_neg (by decide)]
    have c1 : AP Tryd.prog T0 57 [termA w h l x y b] (B false) := (f_ref07Is w h l x y b).to (by rw [show okT w h l x y b = false from h1])
    have c2 : True := trivial
    have c3 : True := trivial
    have c4 : True := trivial
    have c5 : True := trivial
    refine af_intro Tryd.func24 rfl (by decide) Tryd.ntmps24 rfl ?_
    repeat' (first
    | fail
    | refine s_y ?_
      | refine c_ ?_
      | (refine aw_if ?_ ?_ <;> intro hb <;> try (exfalso; first | assumption | omega | (simp only [or_self, and_self, not_true_eq_false, not_false_eq_true, or_false, false_or, and_false, false_and, true_and, and_true] at hb; first | done | omega)))
      | refine s_call ?_ (c := by first | exact c1 | exact c2 | exact c3 | exact c4 | exact c5 | fail)
      | refine s_op ?_ (hy := by first | exact AY.sub (ay_buildSlice (T := guT) [((_, _), _)] rfl un_ el_ rfl (by decide) ⟨_, px_, rfl⟩) sub_slc | fail)
      | refine s_yg ?_
      | refine s_callg ?_ (c := by intro hk hk2; first | exact c1 | exact c2 | exact c3 | exact c4 | exact c5 | fail)
      | refine s_opg ?_ (hy := by intro hk hk2; first | exact AY.sub (ay_buildSlice (T := guT) [((_, _), _)] rfl un_ el_ rfl (by decide) ⟨_, px_, rfl⟩) sub_slc | fail)
      | refine s_skip ?_
      | ((first | refine w_alloc ?_ | refine w_box ?_) <;> intro bb)
      | ((first | refine w_emp ?_ | refine w_make ?_ | refine w_app ?_) <;> intro u hu1 hu2)
      | refine w_stv ?_ | refine w_str ?_ | refine w_cpr ?_ | refine w_cps ?_
      | refine al_last (by kernel_rfl) ?_
    | fail)
    all_goals first | (exfalso; simp at hb; done) | exact ⟨_, [], rl_, List.nil_sublist _, sub_noB, rfl⟩ | skip
theorem f_ref27Agrees (w h : Int) (l : List Guess) (x y : Int) (b s : Bool) (tw th : Int) (tl : List Cell) (tx ty : Int) (tb : Bool) : AP Tryd.prog T0 29 [belA w h l x y b s, termA tw th tl tx ty tb] (B (agrB (w, h, l, x, y, b, s) (tw, th, tl, tx, ty, tb))) := by
  have c1 := f_ref27Is (T0 := T0) w h l x y b s
  have c2 := f_ref07Is (T0 := T0) tw th tl tx ty tb
  have c3 : True := trivial
  have c4 : True := trivial
  have c5 : True := trivial
  by_cases h0 : okBe w h l x y b s = true ∧ okT tw th tl tx ty tb = true ∧ w = tw ∧ h = th
  · obtain ⟨h1, h2, rfl, rfl⟩ := h0
    have iff_ := agrB_of h1 h2
    rw [h1] at c1
    rw [h2] at c2
    obtain ⟨hl, hl2, hw⟩ := okBe_len2 h1
    have htl := (okG_len (okT_iff.1 h2).1).1
    generalize agrB (w, h, l, x, y, b, s) (w, h, tl, tx, ty, tb) = ag at *
    refine af_intro Tryd.func29 rfl (by decide) Tryd.ntmps29 rfl ?_
    repeat' (first
    | refine s_op ?_ (hy := by first | (apply k_ix rfl; exact oo_; exact on_; apply ik_sl un_ el_; exact hat) | fail)
      | refine s_op ?_ (hy := by first | (apply k_ix rfl; exact oog_; exact ong_; apply ik_sl un_ el_; first | exact hat | exact hat2) | fail)
    | refine s_y ?_
      | refine c_ ?_
      | (refine aw_if ?_ ?_ <;> intro hb <;> try (exfalso; first | assumption | omega | (simp only [or_self, and_self, not_true_eq_false, not_false_eq_true, or_false, false_or, and_false, false_and, true_and, and_true] at hb; first | done | omega)))
      | refine s_call ?_ (c := by first | exact c1 | exact c2 | exact c3 | exact c4 | exact c5 | fail)
      | refine s_op ?_ (hy := by first | exact ay_loadn rfl agg_ sz_ oo_ (Nat.le_of_ble_eq_true rfl) | exact ay_loadn rfl agg_ sz_ oog_ (Nat.le_of_ble_eq_true rfl) | fail)
      | refine s_yg ?_
      | refine s_callg ?_ (c := by intro hk hk2; first | exact c1 | exact c2 | exact c3 | exact c4 | exact c5 | fail)
      | refine s_opg ?_ (hy := by intro hk hk2; first | exact ay_loadn rfl agg_ sz_ oo_ (Nat.le_of_ble_eq_true rfl) | exact ay_loadn rfl agg_ sz_ oog_ (Nat.le_of_ble_eq_true rfl) | fail)
      | refine s_skip ?_
      | ((first | refine w_alloc ?_ | refine w_box ?_) <;> intro bb)
      | ((first | refine w_emp ?_ | refine w_make ?_ | refine w_app ?_) <;> intro u hu1 hu2)
      | refine w_stv ?_ | refine w_str ?_ | refine w_cpr ?_ | refine w_cps ?_
      | refine al_last (by kernel_rfl) ?_
    | fail)
    all_goals first | (exfalso; simp at hb; done) | skip
    refine aw_lf (fun k : Nat => [(5, I k)]) (fun k => k ≤ l.length ∧ ∀ j, j < k → (gAt l j).2 = true → (gAt l j).1 = cAt tl j) (fun k => l.length - k) 0 ⟨Nat.zero_le _, fun _ k => absurd k (Nat.not_lt_zero _)⟩ ?_
    rintro k ⟨k1, k2⟩
    by_cases hlt : k < l.length
    · have hat := g_in hlt
      have hat2 := c_in (l := tl) (i := k) (by omega)
      have nxt : ((gAt l k).2 = true → (gAt l k).1 = cAt tl k) → ∀ j, j < k + 1 → (gAt l j).2 = true → (gAt l j).1 = cAt tl j := fun z j hj => by
        by_cases e : j = k
        · subst e; exact z
        · exact k2 j (by omega)
      have bad : (gAt l k).2 = true → (gAt l k).1 ≠ cAt tl k → ag = false := fun z1 z2 => by
        cases e : ag with
        | false => rfl
        | true => exact absurd ((iff_.1 e).1 k hlt z1) z2
      generalize gAt l k = g at *
      change tl[k]? = some (cAt tl k) at hat2
      generalize cAt tl k = tc at *
      obtain ⟨⟨g1, g2⟩, gs⟩ := g
      obtain ⟨t1, t2⟩ := tc
      cases gs with
      | true =>
        repeat' (first
        | refine s_op ?_ (hy := by first | (apply k_ix rfl; exact oo_; exact on_; apply ik_sl un_ el_; exact hat) | fail)
          | refine s_op ?_ (hy := by first | (apply k_ix rfl; exact oog_; exact ong_; apply ik_sl un_ el_; first | exact hat | exact hat2) | fail)
        | refine s_y ?_
          | refine c_ ?_
          | (refine aw_if ?_ ?_ <;> intro hb <;> try (exfalso; first | assumption | omega | (simp only [or_self, and_self, not_true_eq_false, not_false_eq_true, or_false, false_or, and_false, false_and, true_and, and_true] at hb; first | done | omega)))
          | refine s_call ?_ (c := by first | exact c1 | exact c2 | exact c3 | exact c4 | exact c5 | fail)
          | refine s_op ?_ (hy := by first | exact ay_loadn rfl agg_ sz_ oo_ (Nat.le_of_ble_eq_true rfl) | exact ay_loadn rfl agg_ sz_ oog_ (Nat.le_of_ble_eq_true rfl) | fail)
          | refine s_yg ?_
          | refine s_callg ?_ (c := by intro hk hk2; first | exact c1 | exact c2 | exact c3 | exact c4 | exact c5 | fail)
          | refine s_opg ?_ (hy := by intro hk hk2; first | exact ay_loadn rfl agg_ sz_ oo_ (Nat.le_of_ble_eq_true rfl) | exact ay_loadn rfl agg_ sz_ oog_ (Nat.le_of_ble_eq_true rfl) | fail)
          | refine s_skip ?_
          | ((first | refine w_alloc ?_ | refine w_box ?_) <;> intro bb)
          | ((first | refine w_emp ?_ | refine w_make ?_ | refine w_app ?_) <;> intro u hu1 hu2)
          | refine w_stv ?_ | refine w_str ?_ | refine w_cpr ?_ | refine w_cps ?_
          | refine al_last (by kernel_rfl) ?_
        | fail)
        all_goals first | (exfalso; omega) | skip
        · exact ⟨_, [], rl_, List.nil_sublist _, Sub.eq (congrArg B (bad rfl (by simpa using hb)).symm), rfl⟩
        · exact ⟨k + 1, ⟨by omega, nxt fun _ => (by simpa using hb)⟩, by omega, wx_, sl_⟩
      | false =>
        repeat' (first
        | refine s_op ?_ (hy := by first | (apply k_ix rfl; exact oo_; exact on_; apply ik_sl un_ el_; exact hat) | fail)
          | refine s_op ?_ (hy := by first | (apply k_ix rfl; exact oog_; exact ong_; apply ik_sl un_ el_; first | exact hat | exact hat2) | fail)
        | refine s_y ?_
          | refine c_ ?_
          | (refine aw_if ?_ ?_ <;> intro hb <;> try (exfalso; first | assumption | omega | (simp only [or_self, and_self, not_true_eq_false, not_false_eq_true, or_false, false_or, and_false, false_and, true_and, and_true] at hb; first | done | omega)))
          | refine s_call ?_ (c := by first | exact c1 | exact c2 | exact c3 | exact c4 | exact c5 | fail)
          | refine s_op ?_ (hy := by first | exact ay_loadn rfl agg_ sz_ oo_ (Nat.le_of_ble_eq_true rfl) | exact ay_loadn rfl agg_ sz_ oog_ (Nat.le_of_ble_eq_true rfl) | fail)
          | refine s_yg ?_
          | refine s_callg ?_ (c := by intro hk hk2; first | exact c1 | exact c2 | exact c3 | exact c4 | exact c5 | fail)
          | refine s_opg ?_ (hy := by intro hk hk2; first | exact ay_loadn rfl agg_ sz_ oo_ (Nat.le_of_ble_eq_true rfl) | exact ay_loadn rfl agg_ sz_ oog_ (Nat.le_of_ble_eq_true rfl) | fail)
          | refine s_skip ?_
          | ((first | refine w_alloc ?_ | refine w_box ?_) <;> intro bb)
          | ((first | refine w_emp ?_ | refine w_make ?_ | refine w_app ?_) <;> intro u hu1 hu2)
          | refine w_stv ?_ | refine w_str ?_ | refine w_cpr ?_ | refine w_cps ?_
          | refine al_last (by kernel_rfl) ?_
        | fail)
        all_goals first | (exfalso; omega) | (exfalso; simp at hb; done) | skip
        · exact ⟨k + 1, ⟨by omega, nxt fun z => by cases z⟩, by omega, wx_, sl_⟩
    · have hall : Agr l tl := fun j hj => k2 j (by omega)
      repeat' (first
      | refine s_op ?_ (hy := by first | (apply k_ix rfl; exact oo_; exact on_; apply ik_sl un_ el_; exact hat) | fail)
        | refine s_op ?_ (hy := by first | (apply k_ix rfl; exact oog_; exact ong_; apply ik_sl un_ el_; first | exact hat | exact hat2) | fail)
      | refine s_y ?_
        | refine c_ ?_
        | (refine aw_if ?_ ?_ <;> intro hb <;> try (exfalso; first | assumption | omega | (simp only [or_self, and_self, not_true_eq_false, not_false_eq_true, or_false, false_or, and_false, false_and, true_and, and_true] at hb; first | done | omega)))
        | refine s_call ?_ (c := by first | exact c1 | exact c2 | exact c3 | exact c4 | exact c5 | fail)
        | refine s_op ?_ (hy := by first | exact ay_loadn rfl agg_ sz_ oo_ (Nat.le_of_ble_eq_true rfl) | exact ay_loadn rfl agg_ sz_ oog_ (Nat.le_of_ble_eq_true rfl) | fail)
        | refine s_yg ?_
        | refine s_callg ?_ (c := by intro hk hk2; first | exact c1 | exact c2 | exact c3 | exact c4 | exact c5 | fail)
        | refine s_opg ?_ (hy := by intro hk hk2; first | exact ay_loadn rfl agg_ sz_ oo_ (Nat.le_of_ble_eq_true rfl) | exact ay_loadn rfl agg_ sz_ oog_ (Nat.le_of_ble_eq_true rfl) | fail)
        | refine s_skip ?_
        | ((first | refine w_alloc ?_ | refine w_box ?_) <;> intro bb)
        | ((first | refine w_emp ?_ | refine w_make ?_ | refine w_app ?_) <;> intro u hu1 hu2)
        | refine w_stv ?_ | refine w_str ?_ | refine w_cpr ?_ | refine w_cps ?_
        | refine al_last (by kernel_rfl) ?_
      | fail)
      all_goals first | (exfalso; omega) | skip
      refine ⟨_, [], rl_, List.nil_sublist _, Sub.eq (congrArg B ?_), rfl⟩
      rw [Bool.eq_iff_iff, iff_]
      cases s <;> simp [hall, and_assoc]
  · rw [agrB_no (fun z => h0 z)]
    generalize okBe w h l x y b s = v1 at *
    generalize okT tw th tl tx ty tb = v2 at *
    refine af_intro Tryd.func29 rfl (by decide) Tryd.ntmps29 rfl ?_
    repeat' (first
    | refine s_op ?_ (hy := by first | (apply k_ix rfl; exact oo_; exact on_; apply ik_sl un_ el_; exact hat) | fail)
      | refine s_op ?_ (hy := by first | (apply k_ix rfl; exact oog_; exact ong_; apply ik_sl un_ el_; first | exact hat | exact hat2) | fail)
    | refine s_y ?_
      | refine c_ ?_
      | (refine aw_if ?_ ?_ <;> intro hb <;> try (exfalso; first | assumption | omega | (simp only [or_self, and_self, not_true_eq_false, not_false_eq_true, or_false, false_or, and_false, false_and, true_and, and_true] at hb; first | done | omega)))
      | refine s_call ?_ (c := by first | exact c1 | exact c2 | exact c3 | exact c4 | exact c5 | fail)
      | refine s_op ?_ (hy := by first | exact ay_loadn rfl agg_ sz_ oo_ (Nat.le_of_ble_eq_true rfl) | exact ay_loadn rfl agg_ sz_ oog_ (Nat.le_of_ble_eq_true rfl) | fail)
      | refine s_yg ?_
      | refine s_callg ?_ (c := by intro hk hk2; first | exact c1 | exact c2 | exact c3 | exact c4 | exact c5 | fail)
      | refine s_opg ?_ (hy := by intro hk hk2; first | exact ay_loadn rfl agg_ sz_ oo_ (Nat.le_of_ble_eq_true rfl) | exact ay_loadn rfl agg_ sz_ oog_ (Nat.le_of_ble_eq_true rfl) | fail)
      | refine s_skip ?_
      | ((first | refine w_alloc ?_ | refine w_box ?_) <;> intro bb)
      | ((first | refine w_emp ?_ | refine w_make ?_ | refine w_app ?_) <;> intro u hu1 hu2)
      | refine w_stv ?_ | refine w_str ?_ | refine w_cpr ?_ | refine w_cps ?_
      | refine al_last (by kernel_rfl) ?_
    | fail)
    all_goals first | exact ⟨_, [], rl_, List.nil_sublist _, Sub.refl _, rfl⟩ | (exfalso; exact h0 ⟨hb.1.1.1, hb.1.1.2, hb.1.2, hb.2⟩) | skip
end Go.Proofs.YtockidoncngdbaaDoor
