/- Layer 27 (belief): what a command touches, what is forgotten, by the program. No condition. -/
import Derived.Test.YtockidoncngdbaaGreatDoorQ2BD
import Derived.Test.YtockidoncngdbaaGreatDoorQ2B7
namespace Go.Proofs.YtockidoncngdbaaGreatDoor
set_option linter.unusedSimpArgs false
set_option linter.unusedVariables false
set_option linter.unusedSectionVars false
set_option maxHeartbeats 4000000
open Go Go.RowKit
set_option maxRecDepth 100000
variable {T0 : Gh} [TabS T0]
theorem tup2I {a a' b b' : Int} (h1 : a = a') (h2 : b = b') : tupA [I a, I b] = tupA [I a', I b'] := by rw [h1, h2]
theorem okBe_len {w h : Int} {l : List Guess} {x y : Int} {b s : Bool} (h1 : okBe w h l x y b s = true) : (l.length : Int) = w * h ∧ l.length ≤ 1920 ∧ (2 ≤ w ∧ w ≤ 80 ∧ 1 ≤ h ∧ h ≤ 24) := by
  obtain ⟨w', h', rfl, rfl, w2, w3, w4, w5, hl, hk, p1, p2⟩ := okBe_iff.1 h1
  have := side_leB w3 w5
  exact ⟨by rw [hl]; exact Int.natCast_mul w' h', by omega, by omega⟩
attribute [local irreducible] thenA inBlockA AW AL AO QY varO rowO rsA Opd OpdN vA gvA tupA aggA slA slcA ipA rpA EqK LnK IxK LdK FaK FdK
theorem f_beTouch (w h : Int) (l : List Guess) (x y : Int) (b s : Bool) (c : Cmd) : AP Tryz.prog T0 31 [belA w h l x y b s, cmdA c] (tupA [I (touchB (w, h, l, x, y, b, s) c).1, I (touchB (w, h, l, x, y, b, s) c).2]) := by
  have c1 := f_beIs (T0 := T0) w h l x y b s
  have c2 := f_vtIs (T0 := T0) c
  have c3 := f_changes (T0 := T0) c.1
  by_cases h0 : okBe w h l x y b s = true ∧ isCmd c = true ∧ chg c.1 = true
  · obtain ⟨hok, hc, hg⟩ := h0
    rw [hok] at c1
    rw [hc] at c2
    rw [hg] at c3
    obtain ⟨hl, hl2, hw⟩ := okBe_len hok
    have hk : (∃ r, c = (1, 0, 0, r) ∧ shown r = true) ∨ c = (7, 0, 0, 0) ∨ c = (8, 0, 0, 0) ∨ c = (10, 0, 0, 0) := by
      rcases cmd_ways hc with ⟨r, rfl, hs⟩ | ⟨a, d, rfl, _⟩ | ⟨k, a, rfl, hk, _⟩ | ⟨k, rfl, hk⟩
      · exact .inl ⟨r, rfl, hs⟩
      · simp [chg] at hg
      · simp [chg] at hg; omega
      · simp [chg] at hg
        rcases hg with ((q | q) | q) | q
        · omega
        · exact .inr (.inl (by rw [q]))
        · exact .inr (.inr (.inl (by rw [q])))
        · exact .inr (.inr (.inr (by rw [q])))
    have hx : -1000 ≤ x ∧ x ≤ 1000 := by
      obtain ⟨w', h', e1, e2, w2, w3, w4, w5, _, _, p1, p2⟩ := okBe_iff.1 hok
      cases s with
      | true => have := p1 rfl; omega
      | false => have := p2 rfl; omega
    have c4 := f_wraps (T0 := T0) w h l x y b s c hx
    cases s with
    | false =>
      have e : touchB (w, h, l, x, y, b, false) c = (0, w * h) := by
        unfold touchB; rw [if_neg (fun z => z ⟨hok, hc, hg⟩), if_pos (.inl rfl)]
      rw [e]
      obtain ⟨k, a, d, r⟩ := c
      have c5 : True := trivial
      obtain ⟨rfl, rfl, rfl⟩ : x = 0 ∧ y = 0 ∧ b = false := by
        obtain ⟨_, _, _, _, _, _, _, _, _, _, _, p2⟩ := okBe_iff.1 hok
        exact p2 rfl
      generalize (decide ((k, a, d, r).1 = 1) && (false || decide (w < 0 + ((cellsM (k, a, d, r).2.2.2).length : Int)))) = v at *
      refine af_intro Tryz.func31 rfl (by decide) Tryz.ntmps31 rfl ?_
      repeat' (first
      | fail
      | refine s_y ?_
        | refine c_ ?_
        | (refine aw_if ?_ ?_ <;> intro hb <;> try (exfalso; first | assumption | omega | (simp only [or_self, and_self, not_true_eq_false, not_false_eq_true, or_false, false_or, and_false, false_and, true_and, and_true] at hb; first | done | omega)))
        | refine s_call ?_ (c := by first | exact c1 | exact c2 | exact c3 | exact c4 | exact c5 | fail)
        | refine s_op ?_ (hy := by first | (apply ay_maxi rfl; exact oo_; exact oo_) | (apply ay_mini rfl; exact oo_; exact oo_) | fail)
        | refine s_yg ?_
        | refine s_callg ?_ (c := by intro hk hk2; first | exact c1 | exact c2 | exact c3 | exact c4 | exact c5 | fail)
        | refine s_opg ?_ (hy := by intro hk hk2; first | (apply ay_maxi rfl; exact oo_; exact oo_) | (apply ay_mini rfl; exact oo_; exact oo_) | fail)
        | refine s_skip ?_
        | ((first | refine w_alloc ?_ | refine w_box ?_) <;> intro bb)
        | ((first | refine w_emp ?_ | refine w_make ?_ | refine w_app ?_) <;> intro u hu1 hu2)
        | refine w_stv ?_ | refine w_str ?_ | refine w_cpr ?_ | refine w_cps ?_
        | refine al_last (by kernel_rfl) ?_
      | fail)
      all_goals first | (exfalso; simp at hb; done) | exact ⟨_, [], rl_, List.nil_sublist _, Sub.refl _, rfl⟩ | (exfalso; omega) | (exfalso; simp at hb; omega) | exact ⟨_, [], rl_, List.nil_sublist _, Sub.eq (tup2I (by omega) (by omega)), rfl⟩ | skip
    | true =>
      obtain ⟨_, hx2, _, _, hm, _, _⟩ := be_facts hok
      have hm2 := mul_rng (w := w) (h := h) (y := y) (by omega) (by omega) (by omega)
      have hmul : (y + 1) * w = y * w + w := by rw [Int.add_mul, Int.one_mul]
      have te : touchB (w, h, l, x, y, b, true) c = if goesDown w x b c = true ∧ y = h - 1 then (0, w * h) else if c.1 = 10 then (0, 0) else
          ((if goesDown w x b c = true then y + 1 else y) * w + max ((if goesDown w x b c = true then 0 else x) - 1) 0, if c.1 = 7 then ((if goesDown w x b c = true then y + 1 else y) + 1) * w else if c.1 = 8 then w * h else (if goesDown w x b c = true then y + 1 else y) * w + min w ((if goesDown w x b c = true then 0 else x) + (cellsM c.2.2.2).length + 1)) := by
        unfold touchB; rw [if_neg (fun z => z ⟨hok, hc, hg⟩)]
        by_cases q : goesDown w x b c = true ∧ y = h - 1
        · rw [if_pos (.inr q), if_pos q]
        · rw [if_neg (fun z => by rcases z with z | z; cases z; exact q z), if_neg q]
      rw [te]
      rcases hk with ⟨r, rfl, hs⟩ | rfl | rfl | rfl
      · have hn := cellsM_rng hs
        have c5 := f_Width (T0 := T0) r
        have gd : goesDown w x b (1, 0, 0, r) = true ↔ (b = true ∨ w < x + (cellsM r).length) := by simp [goesDown]
        by_cases hq : b = true ∨ w < x + (cellsM r).length
        · have c4' : AP Tryz.prog T0 39 [belA w h l x y b true, cmdA (1, 0, 0, r)] (B true) := c4.to (congrArg B (by rcases hq with q | q <;> simp [q]))
          replace c4 := c4'
          by_cases e2 : y = h - 1
          · rw [if_pos ⟨gd.2 hq, e2⟩]
            clear te gd
            generalize cellsM r = cs at *
            refine af_intro Tryz.func31 rfl (by decide) Tryz.ntmps31 rfl ?_
            repeat' (first
            | fail
            | refine s_y ?_
              | refine c_ ?_
              | (refine aw_if ?_ ?_ <;> intro hb <;> try (exfalso; first | assumption | omega | (simp only [or_self, and_self, not_true_eq_false, not_false_eq_true, or_false, false_or, and_false, false_and, true_and, and_true] at hb; first | done | omega)))
              | refine s_call ?_ (c := by first | exact c1 | exact c2 | exact c3 | exact c4 | exact c5 | fail)
              | refine s_op ?_ (hy := by first | (apply ay_maxi rfl; exact oo_; exact oo_) | (apply ay_mini rfl; exact oo_; exact oo_) | fail)
              | refine s_yg ?_
              | refine s_callg ?_ (c := by intro hk hk2; first | exact c1 | exact c2 | exact c3 | exact c4 | exact c5 | fail)
              | refine s_opg ?_ (hy := by intro hk hk2; first | (apply ay_maxi rfl; exact oo_; exact oo_) | (apply ay_mini rfl; exact oo_; exact oo_) | fail)
              | refine s_skip ?_
              | ((first | refine w_alloc ?_ | refine w_box ?_) <;> intro bb)
              | ((first | refine w_emp ?_ | refine w_make ?_ | refine w_app ?_) <;> intro u hu1 hu2)
              | refine w_stv ?_ | refine w_str ?_ | refine w_cpr ?_ | refine w_cps ?_
              | refine al_last (by kernel_rfl) ?_
            | fail)
            all_goals first | (exfalso; simp at hb; done) | exact ⟨_, [], rl_, List.nil_sublist _, Sub.refl _, rfl⟩ | (exfalso; omega) | (exfalso; simp at hb; omega) | exact ⟨_, [], rl_, List.nil_sublist _, Sub.eq (tup2I (by omega) (by omega)), rfl⟩ | skip
          · rw [if_neg (fun z => e2 z.2), if_neg (show ¬ ((1 : Int) = 10) by decide), if_pos (gd.2 hq), if_pos (gd.2 hq), if_neg (show ¬ ((1 : Int) = 7) by decide), if_neg (show ¬ ((1 : Int) = 8) by decide)]
            clear te gd
            dsimp only
            generalize cellsM r = cs at *
            refine af_intro Tryz.func31 rfl (by decide) Tryz.ntmps31 rfl ?_
            repeat' (first
            | fail
            | refine s_y ?_
              | refine c_ ?_
              | (refine aw_if ?_ ?_ <;> intro hb <;> try (exfalso; first | assumption | omega | (simp only [or_self, and_self, not_true_eq_false, not_false_eq_true, or_false, false_or, and_false, false_and, true_and, and_true] at hb; first | done | omega)))
              | refine s_call ?_ (c := by first | exact c1 | exact c2 | exact c3 | exact c4 | exact c5 | fail)
              | refine s_op ?_ (hy := by first | (apply ay_maxi rfl; exact oo_; exact oo_) | (apply ay_mini rfl; exact oo_; exact oo_) | fail)
              | refine s_yg ?_
              | refine s_callg ?_ (c := by intro hk hk2; first | exact c1 | exact c2 | exact c3 | exact c4 | exact c5 | fail)
              | refine s_opg ?_ (hy := by intro hk hk2; first | (apply ay_maxi rfl; exact oo_; exact oo_) | (apply ay_mini rfl; exact oo_; exact oo_) | fail)
              | refine s_skip ?_
              | ((first | refine w_alloc ?_ | refine w_box ?_) <;> intro bb)
              | ((first | refine w_emp ?_ | refine w_make ?_ | refine w_app ?_) <;> intro u hu1 hu2)
              | refine w_stv ?_ | refine w_str ?_ | refine w_cpr ?_ | refine w_cps ?_
              | refine al_last (by kernel_rfl) ?_
            | fail)
            all_goals first | (exfalso; simp at hb; done) | exact ⟨_, [], rl_, List.nil_sublist _, Sub.refl _, rfl⟩ | (exfalso; omega) | (exfalso; simp at hb; omega) | exact ⟨_, [], rl_, List.nil_sublist _, Sub.eq (tup2I (by omega) (by omega)), rfl⟩ | skip
        · have c4' : AP Tryz.prog T0 39 [belA w h l x y b true, cmdA (1, 0, 0, r)] (B false) := c4.to (congrArg B (by
            cases b with
            | true => exact absurd (.inl rfl) hq
            | false => simp; omega))
          replace c4 := c4'
          have gn : ¬ goesDown w x b (1, 0, 0, r) = true := fun z => hq (gd.1 z)
          rw [if_neg (fun z => gn z.1), if_neg (show ¬ ((1 : Int) = 10) by decide), if_neg gn, if_neg gn, if_neg (show ¬ ((1 : Int) = 7) by decide), if_neg (show ¬ ((1 : Int) = 8) by decide)]
          clear te gd gn
          dsimp only
          generalize cellsM r = cs at *
          refine af_intro Tryz.func31 rfl (by decide) Tryz.ntmps31 rfl ?_
          repeat' (first
          | fail
          | refine s_y ?_
            | refine c_ ?_
            | (refine aw_if ?_ ?_ <;> intro hb <;> try (exfalso; first | assumption | omega | (simp only [or_self, and_self, not_true_eq_false, not_false_eq_true, or_false, false_or, and_false, false_and, true_and, and_true] at hb; first | done | omega)))
            | refine s_call ?_ (c := by first | exact c1 | exact c2 | exact c3 | exact c4 | exact c5 | fail)
            | refine s_op ?_ (hy := by first | (apply ay_maxi rfl; exact oo_; exact oo_) | (apply ay_mini rfl; exact oo_; exact oo_) | fail)
            | refine s_yg ?_
            | refine s_callg ?_ (c := by intro hk hk2; first | exact c1 | exact c2 | exact c3 | exact c4 | exact c5 | fail)
            | refine s_opg ?_ (hy := by intro hk hk2; first | (apply ay_maxi rfl; exact oo_; exact oo_) | (apply ay_mini rfl; exact oo_; exact oo_) | fail)
            | refine s_skip ?_
            | ((first | refine w_alloc ?_ | refine w_box ?_) <;> intro bb)
            | ((first | refine w_emp ?_ | refine w_make ?_ | refine w_app ?_) <;> intro u hu1 hu2)
            | refine w_stv ?_ | refine w_str ?_ | refine w_cpr ?_ | refine w_cps ?_
            | refine al_last (by kernel_rfl) ?_
          | fail)
          all_goals first | (exfalso; simp at hb; done) | exact ⟨_, [], rl_, List.nil_sublist _, Sub.refl _, rfl⟩ | (exfalso; omega) | (exfalso; simp at hb; omega) | exact ⟨_, [], rl_, List.nil_sublist _, Sub.eq (tup2I (by omega) (by omega)), rfl⟩ | skip
      · have c5 : True := trivial
        replace c4 : AP Tryz.prog T0 39 [belA w h l x y b true, cmdA (7, 0, 0, 0)] (B false) := c4
        have gn : ¬ goesDown w x b (7, 0, 0, 0) = true := by simp [goesDown]
        rw [if_neg (fun z => gn z.1), if_neg (by decide), if_neg gn, if_neg gn, if_pos rfl]
        clear te gn
        refine af_intro Tryz.func31 rfl (by decide) Tryz.ntmps31 rfl ?_
        repeat' (first
        | fail
        | refine s_y ?_
          | refine c_ ?_
          | (refine aw_if ?_ ?_ <;> intro hb <;> try (exfalso; first | assumption | omega | (simp only [or_self, and_self, not_true_eq_false, not_false_eq_true, or_false, false_or, and_false, false_and, true_and, and_true] at hb; first | done | omega)))
          | refine s_call ?_ (c := by first | exact c1 | exact c2 | exact c3 | exact c4 | exact c5 | fail)
          | refine s_op ?_ (hy := by first | (apply ay_maxi rfl; exact oo_; exact oo_) | (apply ay_mini rfl; exact oo_; exact oo_) | fail)
          | refine s_yg ?_
          | refine s_callg ?_ (c := by intro hk hk2; first | exact c1 | exact c2 | exact c3 | exact c4 | exact c5 | fail)
          | refine s_opg ?_ (hy := by intro hk hk2; first | (apply ay_maxi rfl; exact oo_; exact oo_) | (apply ay_mini rfl; exact oo_; exact oo_) | fail)
          | refine s_skip ?_
          | ((first | refine w_alloc ?_ | refine w_box ?_) <;> intro bb)
          | ((first | refine w_emp ?_ | refine w_make ?_ | refine w_app ?_) <;> intro u hu1 hu2)
          | refine w_stv ?_ | refine w_str ?_ | refine w_cpr ?_ | refine w_cps ?_
          | refine al_last (by kernel_rfl) ?_
        | fail)
        all_goals first | (exfalso; simp at hb; done) | exact ⟨_, [], rl_, List.nil_sublist _, Sub.refl _, rfl⟩ | (exfalso; omega) | (exfalso; simp at hb; omega) | exact ⟨_, [], rl_, List.nil_sublist _, Sub.eq (tup2I (by omega) (by omega)), rfl⟩ | skip
      · have c5 : True := trivial
        replace c4 : AP Tryz.prog T0 39 [belA w h l x y b true, cmdA (8, 0, 0, 0)] (B false) := c4
        have gn : ¬ goesDown w x b (8, 0, 0, 0) = true := by simp [goesDown]
        rw [if_neg (fun z => gn z.1), if_neg (by decide), if_neg gn, if_neg gn, if_neg (by decide), if_pos rfl]
        clear te gn
        refine af_intro Tryz.func31 rfl (by decide) Tryz.ntmps31 rfl ?_
        repeat' (first
        | fail
        | refine s_y ?_
          | refine c_ ?_
          | (refine aw_if ?_ ?_ <;> intro hb <;> try (exfalso; first | assumption | omega | (simp only [or_self, and_self, not_true_eq_false, not_false_eq_true, or_false, false_or, and_false, false_and, true_and, and_true] at hb; first | done | omega)))
          | refine s_call ?_ (c := by first | exact c1 | exact c2 | exact c3 | exact c4 | exact c5 | fail)
          | refine s_op ?_ (hy := by first | (apply ay_maxi rfl; exact oo_; exact oo_) | (apply ay_mini rfl; exact oo_; exact oo_) | fail)
          | refine s_yg ?_
          | refine s_callg ?_ (c := by intro hk hk2; first | exact c1 | exact c2 | exact c3 | exact c4 | exact c5 | fail)
          | refine s_opg ?_ (hy := by intro hk hk2; first | (apply ay_maxi rfl; exact oo_; exact oo_) | (apply ay_mini rfl; exact oo_; exact oo_) | fail)
          | refine s_skip ?_
          | ((first | refine w_alloc ?_ | refine w_box ?_) <;> intro bb)
          | ((first | refine w_emp ?_ | refine w_make ?_ | refine w_app ?_) <;> intro u hu1 hu2)
          | refine w_stv ?_ | refine w_str ?_ | refine w_cpr ?_ | refine w_cps ?_
          | refine al_last (by kernel_rfl) ?_
        | fail)
        all_goals first | (exfalso; simp at hb; done) | exact ⟨_, [], rl_, List.nil_sublist _, Sub.refl _, rfl⟩ | (exfalso; omega) | (exfalso; simp at hb; omega) | exact ⟨_, [], rl_, List.nil_sublist _, Sub.eq (tup2I (by omega) (by omega)), rfl⟩ | skip
      · have c5 : True := trivial
        replace c4 : AP Tryz.prog T0 39 [belA w h l x y b true, cmdA (10, 0, 0, 0)] (B false) := c4
        have gp : goesDown w x b (10, 0, 0, 0) = true := by simp [goesDown]
        by_cases e2 : y = h - 1
        · rw [if_pos ⟨gp, e2⟩]
          clear te gp
          refine af_intro Tryz.func31 rfl (by decide) Tryz.ntmps31 rfl ?_
          repeat' (first
          | fail
          | refine s_y ?_
            | refine c_ ?_
            | (refine aw_if ?_ ?_ <;> intro hb <;> try (exfalso; first | assumption | omega | (simp only [or_self, and_self, not_true_eq_false, not_false_eq_true, or_false, false_or, and_false, false_and, true_and, and_true] at hb; first | done | omega)))
            | refine s_call ?_ (c := by first | exact c1 | exact c2 | exact c3 | exact c4 | exact c5 | fail)
            | refine s_op ?_ (hy := by first | (apply ay_maxi rfl; exact oo_; exact oo_) | (apply ay_mini rfl; exact oo_; exact oo_) | fail)
            | refine s_yg ?_
            | refine s_callg ?_ (c := by intro hk hk2; first | exact c1 | exact c2 | exact c3 | exact c4 | exact c5 | fail)
            | refine s_opg ?_ (hy := by intro hk hk2; first | (apply ay_maxi rfl; exact oo_; exact oo_) | (apply ay_mini rfl; exact oo_; exact oo_) | fail)
            | refine s_skip ?_
            | ((first | refine w_alloc ?_ | refine w_box ?_) <;> intro bb)
            | ((first | refine w_emp ?_ | refine w_make ?_ | refine w_app ?_) <;> intro u hu1 hu2)
            | refine w_stv ?_ | refine w_str ?_ | refine w_cpr ?_ | refine w_cps ?_
            | refine al_last (by kernel_rfl) ?_
          | fail)
          all_goals first | (exfalso; simp at hb; done) | exact ⟨_, [], rl_, List.nil_sublist _, Sub.refl _, rfl⟩ | (exfalso; omega) | (exfalso; simp at hb; omega) | exact ⟨_, [], rl_, List.nil_sublist _, Sub.eq (tup2I (by omega) (by omega)), rfl⟩ | skip
        · rw [if_neg (fun z => e2 z.2), if_pos rfl]
          clear te gp
          refine af_intro Tryz.func31 rfl (by decide) Tryz.ntmps31 rfl ?_
          repeat' (first
          | fail
          | refine s_y ?_
            | refine c_ ?_
            | (refine aw_if ?_ ?_ <;> intro hb <;> try (exfalso; first | assumption | omega | (simp only [or_self, and_self, not_true_eq_false, not_false_eq_true, or_false, false_or, and_false, false_and, true_and, and_true] at hb; first | done | omega)))
            | refine s_call ?_ (c := by first | exact c1 | exact c2 | exact c3 | exact c4 | exact c5 | fail)
            | refine s_op ?_ (hy := by first | (apply ay_maxi rfl; exact oo_; exact oo_) | (apply ay_mini rfl; exact oo_; exact oo_) | fail)
            | refine s_yg ?_
            | refine s_callg ?_ (c := by intro hk hk2; first | exact c1 | exact c2 | exact c3 | exact c4 | exact c5 | fail)
            | refine s_opg ?_ (hy := by intro hk hk2; first | (apply ay_maxi rfl; exact oo_; exact oo_) | (apply ay_mini rfl; exact oo_; exact oo_) | fail)
            | refine s_skip ?_
            | ((first | refine w_alloc ?_ | refine w_box ?_) <;> intro bb)
            | ((first | refine w_emp ?_ | refine w_make ?_ | refine w_app ?_) <;> intro u hu1 hu2)
            | refine w_stv ?_ | refine w_str ?_ | refine w_cpr ?_ | refine w_cps ?_
            | refine al_last (by kernel_rfl) ?_
          | fail)
          all_goals first | (exfalso; simp at hb; done) | exact ⟨_, [], rl_, List.nil_sublist _, Sub.refl _, rfl⟩ | (exfalso; omega) | (exfalso; simp at hb; omega) | exact ⟨_, [], rl_, List.nil_sublist _, Sub.eq (tup2I (by omega) (by omega)), rfl⟩ | skip
  · have e : touchB (w, h, l, x, y, b, s) c = (0, 0) := by unfold touchB; rw [if_pos h0]
    rw [e]
    have c4 : True := trivial
    have c5 : True := trivial
    generalize okBe w h l x y b s = v1 at *
    generalize isCmd c = v2 at *
    generalize chg c.1 = v3 at *
    obtain ⟨k, a, d, r⟩ := c
    refine af_intro Tryz.func31 rfl (by decide) Tryz.ntmps31 rfl ?_
    repeat' (first
    | fail
    | refine s_y ?_
      | refine c_ ?_
      | (refine aw_if ?_ ?_ <;> intro hb <;> try (exfalso; first | assumption | omega | (simp only [or_self, and_self, not_true_eq_false, not_false_eq_true, or_false, false_or, and_false, false_and, true_and, and_true] at hb; first | done | omega)))
      | refine s_call ?_ (c := by first | exact c1 | exact c2 | exact c3 | exact c4 | exact c5 | fail)
      | refine s_op ?_ (hy := by first | (apply ay_maxi rfl; exact oo_; exact oo_) | (apply ay_mini rfl; exact oo_; exact oo_) | fail)
      | refine s_yg ?_
      | refine s_callg ?_ (c := by intro hk hk2; first | exact c1 | exact c2 | exact c3 | exact c4 | exact c5 | fail)
      | refine s_opg ?_ (hy := by intro hk hk2; first | (apply ay_maxi rfl; exact oo_; exact oo_) | (apply ay_mini rfl; exact oo_; exact oo_) | fail)
      | refine s_skip ?_
      | ((first | refine w_alloc ?_ | refine w_box ?_) <;> intro bb)
      | ((first | refine w_emp ?_ | refine w_make ?_ | refine w_app ?_) <;> intro u hu1 hu2)
      | refine w_stv ?_ | refine w_str ?_ | refine w_cpr ?_ | refine w_cps ?_
      | refine al_last (by kernel_rfl) ?_
    | fail)
    all_goals first | exact ⟨_, [], rl_, List.nil_sublist _, Sub.refl _, rfl⟩ | (exfalso; exact h0 ⟨hb.1.1, hb.1.2, hb.2⟩) | skip
end Go.Proofs.YtockidoncngdbaaGreatDoor
