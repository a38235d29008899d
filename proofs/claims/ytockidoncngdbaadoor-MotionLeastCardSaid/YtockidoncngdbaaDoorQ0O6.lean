/- Layer 28 (motion): the laws MotionDoes, MotionLeads, MotionLeast. No condition. -/
import Derived.Test.YtockidoncngdbaaDoorQ0O5
namespace Go.Proofs.YtockidoncngdbaaDoor
set_option linter.unusedSimpArgs false
set_option linter.unusedVariables false
set_option linter.unusedSectionVars false
set_option maxHeartbeats 4000000
open Go Go.RowKit
set_option maxRecDepth 100000
theorem nextMo_err {b : Bel} {X Y : Int} (h : (nextMo b X Y).2 ≠ 0) : (nextMo b X Y).1 = (0, 0, 0, 0) := by
  unfold nextMo at h ⊢
  split
  · rfl
  · rename_i h1
    rw [if_neg h1] at h
    split
    · rename_i h2; rw [if_pos h2] at h; exact absurd rfl h
    · rename_i h2
      rw [if_neg h2] at h
      split
      · rfl
      · rename_i h3; rw [if_neg h3] at h; exact absurd rfl h
variable {T0 : Gh} [TabS T0]
attribute [local irreducible] thenA inBlockA AW AL AO QY varO rowO rsA Opd OpdN vA gvA tupA aggA slA slcA ipA rpA EqK LnK IxK LdK FaK FdK
theorem l_MotionDoes (w h : Int) (l : List Guess) (x y : Int) (b s : Bool) (X Y : Int) : AP Tryd.prog T0 3 [belA w h l x y b s, I X, I Y] (B true) := by
  have c1 := f_moNext (T0 := T0) w h l x y b s X Y
  have c2 := f_ref28Next (T0 := T0) w h l x y b s X Y
  generalize nextMo (w, h, l, x, y, b, s) X Y = z at *
  obtain ⟨⟨k, a, d, r⟩, e⟩ := z
  refine af_intro Tryd.func3 rfl (by decide) Tryd.ntmps3 rfl ?_
  repeat' (first
  | fail
  | refine s_y ?_
    | refine c_ ?_
    | (refine aw_if ?_ ?_ <;> intro hb <;> try (exfalso; first | assumption | omega | (simp only [or_self, and_self, not_true_eq_false, not_false_eq_true, or_false, false_or, and_false, false_and, true_and, and_true] at hb; first | done | omega)))
    | refine s_call ?_ (c := by first | exact f_led | exact c1 | exact c2 | exact c3 | exact c4 | exact c5 | exact c6 | exact c7 | exact c8 | fail)
    | refine s_op ?_ (hy := by first | fail | fail)
    | refine s_yg ?_
    | refine s_callg ?_ (c := by intro hk hk2; first | exact f_led | exact c1 | exact c2 | exact c3 | exact c4 | exact c5 | exact c6 | exact c7 | exact c8 | fail)
    | refine s_opg ?_ (hy := by intro hk hk2; first | fail | fail)
    | refine s_skip ?_
    | ((first | refine w_alloc ?_ | refine w_box ?_) <;> intro bb)
    | ((first | refine w_emp ?_ | refine w_make ?_ | refine w_app ?_) <;> intro u hu1 hu2)
    | refine w_stv ?_ | refine w_str ?_ | refine w_cpr ?_ | refine w_cps ?_
    | refine al_last (by kernel_rfl) ?_
  | fail)
  all_goals first | exact ⟨_, [], rl_, List.nil_sublist _, Sub.refl _, rfl⟩ | exact ⟨_, [], rl_, List.nil_sublist _, Sub.eq (congrArg B (by simp)), rfl⟩ | skip
theorem l_MotionLeads (w h : Int) (l : List Guess) (x y : Int) (b s : Bool) (X Y : Int) : AP Tryd.prog T0 5 [belA w h l x y b s, I X, I Y] (B true) := by
  have c1 := f_moNext (T0 := T0) w h l x y b s X Y
  by_cases h0 : (nextMo (w, h, l, x, y, b, s) X Y).2 = 0
  · obtain ⟨n1, n2, n3, n4, n5, n6⟩ := next_leads h0
    obtain ⟨m1, m2, m3, _⟩ := nextMo_ok h0
    have hok2 := doB_ok m1 n1
    rw [n2] at hok2
    have hlen := (okBe_len m1).2.1
    simp only at hlen
    have n0 : nextMo (w, h, l, x, y, b, s) X Y = ((nextMo (w, h, l, x, y, b, s) X Y).1, 0) := by rw [← h0]
    have c2 := (f_beDo (T0 := T0) w h l x y b s (nextMo (w, h, l, x, y, b, s) X Y).1)
    rw [n2] at c2
    have c3 := (f_beTouch (T0 := T0) w h l x y b s (nextMo (w, h, l, x, y, b, s) X Y).1)
    rw [n3] at c3
    have c4 : AP Tryd.prog T0 12 [belA w h l X Y false true, I X, I Y] (tupA [cmdA (0, 0, 0, 0), I 7]) := (f_moNext w h l X Y false true X Y).to (by rw [next_there hok2])
    have c5 : AP Tryd.prog T0 18 [belA w h l x y b s, belA w h l x y b s] (B true) := (f_ref27Same w h l x y b s w h l x y b s (by omega)).to (by rw [sameB_self])
    have c6 : AP Tryd.prog T0 19 [slA cmdT [(nextMo (w, h, l, x, y, b, s) X Y).1]] (I 0) := (f_vtPads [(nextMo (w, h, l, x, y, b, s) X Y).1] (by simp)).to (by rw [show padsM [(nextMo (w, h, l, x, y, b, s) X Y).1] = 0 by simp [padsM, n4]]; rfl)
    have c7 : AP Tryd.prog T0 16 [slA cmdT [(nextMo (w, h, l, x, y, b, s) X Y).1]] (I (lenC (nextMo (w, h, l, x, y, b, s) X Y).1)) := (f_vtCost [(nextMo (w, h, l, x, y, b, s) X Y).1] (by simp)).to (by rw [costM_one])
    have c8 : AP Tryd.prog T0 16 [slA cmdT [(2, Y, X, 0)]] (I (lenC (2, Y, X, 0))) := (f_vtCost [(2, Y, X, 0)] (by simp)).to (by rw [costM_one])
    replace n5 : lenC (nextMo (w, h, l, x, y, b, s) X Y).1 ≤ lenC (2, Y, X, 0) := n5
    rw [n0] at c1
    generalize (nextMo (w, h, l, x, y, b, s) X Y).1 = z at *
    obtain ⟨k, a, d, r⟩ := z
    clear n0 n1 n2 n3 n4 n6 m1 hok2
    refine af_intro Tryd.func5 rfl (by decide) Tryd.ntmps5 rfl ?_
    repeat' (first
    | fail
    | refine s_y ?_
      | refine c_ ?_
      | (refine aw_if ?_ ?_ <;> intro hb <;> try (exfalso; first | assumption | omega | (simp only [or_self, and_self, not_true_eq_false, not_false_eq_true, or_false, false_or, and_false, false_and, true_and, and_true] at hb; first | done | omega)))
      | refine s_call ?_ (c := by first | exact f_led | exact c1 | exact c2 | exact c3 | exact c4 | exact c5 | exact c6 | exact c7 | exact c8 | fail)
      | refine s_op ?_ (hy := by first | (apply bs_cmdA (c := (k, a, d, r)) rfl un_; exact oo_; done) | (apply bs_cmdA (c := (k, a, d, r)) rfl un_; exact oog_; done) | (apply bs_cmdA (c := (2, Y, X, 0)) rfl un_; exact oo_; done) | (apply bs_cmdA (c := (2, Y, X, 0)) rfl un_; exact oog_; done) | fail)
      | refine s_yg ?_
      | refine s_callg ?_ (c := by intro hk hk2; first | exact f_led | exact c1 | exact c2 | exact c3 | exact c4 | exact c5 | exact c6 | exact c7 | exact c8 | fail)
      | refine s_opg ?_ (hy := by intro hk hk2; first | (apply bs_cmdA (c := (k, a, d, r)) rfl un_; exact oo_; done) | (apply bs_cmdA (c := (k, a, d, r)) rfl un_; exact oog_; done) | (apply bs_cmdA (c := (2, Y, X, 0)) rfl un_; exact oo_; done) | (apply bs_cmdA (c := (2, Y, X, 0)) rfl un_; exact oog_; done) | fail)
      | refine s_skip ?_
      | ((first | refine w_alloc ?_ | refine w_box ?_) <;> intro bb)
      | ((first | refine w_emp ?_ | refine w_make ?_ | refine w_app ?_) <;> intro u hu1 hu2)
      | refine w_stv ?_ | refine w_str ?_ | refine w_cpr ?_ | refine w_cps ?_
      | refine al_last (by kernel_rfl) ?_
    | fail)
    all_goals first | (exfalso; omega) | (exfalso; simp at hb; done) | (exfalso; simp at hb; omega) | exact ⟨_, [], rl_, List.nil_sublist _, Sub.refl _, rfl⟩ | exact ⟨_, [], rl_, List.nil_sublist _, Sub.eq (congrArg B (by simp; omega)), rfl⟩ | skip
  · have e := nextMo_err h0
    rw [e] at c1
    generalize (nextMo (w, h, l, x, y, b, s) X Y).2 = e1 at *
    have c2 : True := trivial
    have c3 : True := trivial
    have c4 : True := trivial
    have c5 : True := trivial
    have c6 : True := trivial
    have c7 : True := trivial
    have c8 : True := trivial
    refine af_intro Tryd.func5 rfl (by decide) Tryd.ntmps5 rfl ?_
    repeat' (first
    | fail
    | refine s_y ?_
      | refine c_ ?_
      | (refine aw_if ?_ ?_ <;> intro hb <;> try (exfalso; first | assumption | omega | (simp only [or_self, and_self, not_true_eq_false, not_false_eq_true, or_false, false_or, and_false, false_and, true_and, and_true] at hb; first | done | omega)))
      | refine s_call ?_ (c := by first | exact f_led | exact c1 | exact c2 | exact c3 | exact c4 | exact c5 | exact c6 | exact c7 | exact c8 | fail)
      | refine s_op ?_ (hy := by first | (apply bs_cmdA (c := (k, a, d, r)) rfl un_; exact oo_; done) | (apply bs_cmdA (c := (k, a, d, r)) rfl un_; exact oog_; done) | (apply bs_cmdA (c := (2, Y, X, 0)) rfl un_; exact oo_; done) | (apply bs_cmdA (c := (2, Y, X, 0)) rfl un_; exact oog_; done) | fail)
      | refine s_yg ?_
      | refine s_callg ?_ (c := by intro hk hk2; first | exact f_led | exact c1 | exact c2 | exact c3 | exact c4 | exact c5 | exact c6 | exact c7 | exact c8 | fail)
      | refine s_opg ?_ (hy := by intro hk hk2; first | (apply bs_cmdA (c := (k, a, d, r)) rfl un_; exact oo_; done) | (apply bs_cmdA (c := (k, a, d, r)) rfl un_; exact oog_; done) | (apply bs_cmdA (c := (2, Y, X, 0)) rfl un_; exact oo_; done) | (apply bs_cmdA (c := (2, Y, X, 0)) rfl un_; exact oog_; done) | fail)
      | refine s_skip ?_
      | ((first | refine w_alloc ?_ | refine w_box ?_) <;> intro bb)
      | ((first | refine w_emp ?_ | refine w_make ?_ | refine w_app ?_) <;> intro u hu1 hu2)
      | refine w_stv ?_ | refine w_str ?_ | refine w_cpr ?_ | refine w_cps ?_
      | refine al_last (by kernel_rfl) ?_
    | fail)
    all_goals first | (exfalso; omega) | exact ⟨_, [], rl_, List.nil_sublist _, Sub.refl _, rfl⟩ | exact ⟨_, [], rl_, List.nil_sublist _, Sub.eq (congrArg B (by simp)), rfl⟩ | skip
theorem l_MotionLeast (w h : Int) (l : List Guess) (x y : Int) (b s : Bool) (X Y : Int) (c : Cmd) : AP Tryd.prog T0 4 [belA w h l x y b s, I X, I Y, cmdA c] (B true) := by
  have c1 := f_moNext (T0 := T0) w h l x y b s X Y
  have c2 := f_beDo (T0 := T0) w h l x y b s c
  have c3 := (f_vtCost (T0 := T0) [(nextMo (w, h, l, x, y, b, s) X Y).1] (by simp)).to (A' := I (lenC (nextMo (w, h, l, x, y, b, s) X Y).1)) (by rw [costM_one])
  have c4 := (f_vtCost (T0 := T0) [c] (by simp)).to (A' := I (lenC c)) (by rw [costM_one])
  have c5 : True := trivial
  have c6 : True := trivial
  have c7 : True := trivial
  have c8 : True := trivial
  have key : (nextMo (w, h, l, x, y, b, s) X Y).2 = 0 → (doB (w, h, l, x, y, b, s) c).2 = 0 → movesK c (s && decide (y < h - 1)) = true → isAt (doB (w, h, l, x, y, b, s) c).1 X Y = true → lexle (nextMo (w, h, l, x, y, b, s) X Y).1 c ∧ 1 ≤ lenC (nextMo (w, h, l, x, y, b, s) X Y).1 := fun q1 q2 q3 q4 => ⟨next_least q1 q2 q3 q4, (next_leads q1).2.2.2.2.2⟩
  have hbad : okBe w h l x y b s = false → (nextMo (w, h, l, x, y, b, s) X Y).2 = 1 := fun q => by
    unfold nextMo; rw [if_pos (fun z => by rw [show okBl (w, h, l, x, y, b, s) = okBe w h l x y b s from rfl, q] at z; cases z.1)]
  have hgood : okBe w h l x y b s = true → 1 ≤ h ∧ h ≤ 24 := fun q => (okBe_len q).2.2.2.2
  obtain ⟨k2, a2, d2, r2⟩ := c
  generalize nextMo (w, h, l, x, y, b, s) X Y = z at *
  generalize doB (w, h, l, x, y, b, s) (k2, a2, d2, r2) = v at *
  obtain ⟨⟨k, a, d, r⟩, e⟩ := z
  obtain ⟨⟨v1, v2, v3, v4, v5, v6, v7⟩, f⟩ := v
  unfold lexle movesK isAt at key
  simp only at key hbad
  refine af_intro Tryd.func4 rfl (by decide) Tryd.ntmps4 rfl ?_
  cases hok : okBe w h l x y b s with
  | true =>
    have := hgood hok
    repeat' (first
    | fail
    | refine s_y ?_
      | refine c_ ?_
      | (refine aw_if ?_ ?_ <;> intro hb <;> try (exfalso; first | assumption | omega | (simp only [or_self, and_self, not_true_eq_false, not_false_eq_true, or_false, false_or, and_false, false_and, true_and, and_true] at hb; first | done | omega)))
      | refine s_call ?_ (c := by first | exact f_led | exact c1 | exact c2 | exact c3 | exact c4 | exact c5 | exact c6 | exact c7 | exact c8 | fail)
      | refine s_op ?_ (hy := by first | (apply bs_cmdA (c := (k, a, d, r)) rfl un_; exact oo_; done) | (apply bs_cmdA (c := (k2, a2, d2, r2)) rfl un_; exact oo_; done) | (apply ay_subw rfl; exact oog_; exact oog_; done) | fail)
      | refine s_yg ?_
      | refine s_callg ?_ (c := by intro hk hk2; first | exact f_led | exact c1 | exact c2 | exact c3 | exact c4 | exact c5 | exact c6 | exact c7 | exact c8 | fail)
      | refine s_opg ?_ (hy := by intro hk hk2; first | (apply bs_cmdA (c := (k, a, d, r)) rfl un_; exact oo_; done) | (apply bs_cmdA (c := (k2, a2, d2, r2)) rfl un_; exact oo_; done) | (apply ay_subw rfl; exact oog_; exact oog_; done) | fail)
      | refine s_skip ?_
      | ((first | refine w_alloc ?_ | refine w_box ?_) <;> intro bb)
      | ((first | refine w_emp ?_ | refine w_make ?_ | refine w_app ?_) <;> intro u hu1 hu2)
      | refine w_stv ?_ | refine w_str ?_ | refine w_cpr ?_ | refine w_cps ?_
      | refine al_last (by kernel_rfl) ?_
    | fail)
    all_goals first | exact ⟨_, [], rl_, List.nil_sublist _, Sub.refl _, rfl⟩ | skip
    refine ⟨_, [], rl_, List.nil_sublist _, Sub.eq (congrArg B ?_), rfl⟩
    obtain ⟨⟨⟨⟨⟨⟨⟨_, e0⟩, f0⟩, mv⟩, q1⟩, q2⟩, q3⟩, q4⟩ := hb
    dsimp only at e0 f0 mv q1 q2 q3 q4
    have kk := key e0 f0 (by simp only [Bool.or_eq_true, Bool.and_eq_true, decide_eq_true_eq]; simpa [and_assoc] using mv) (by simp [q1, q2, q3, q4])
    obtain ⟨t1, t2⟩ := kk
    simp only [Bool.true_and, Bool.and_eq_true, Bool.or_eq_true, decide_eq_true_eq]
    exact ⟨by omega, by omega⟩
  | false =>
    have := hbad hok
    subst this
    repeat' (first
    | fail
    | refine s_y ?_
      | refine c_ ?_
      | (refine aw_if ?_ ?_ <;> intro hb <;> try (exfalso; first | assumption | omega | (simp only [or_self, and_self, not_true_eq_false, not_false_eq_true, or_false, false_or, and_false, false_and, true_and, and_true] at hb; first | done | omega)))
      | refine s_call ?_ (c := by first | exact f_led | exact c1 | exact c2 | exact c3 | exact c4 | exact c5 | exact c6 | exact c7 | exact c8 | fail)
      | refine s_op ?_ (hy := by first | (apply bs_cmdA (c := (k, a, d, r)) rfl un_; exact oo_; done) | (apply bs_cmdA (c := (k2, a2, d2, r2)) rfl un_; exact oo_; done) | (apply ay_subw rfl; exact oog_; exact oog_; done) | fail)
      | refine s_yg ?_
      | refine s_callg ?_ (c := by intro hk hk2; first | exact f_led | exact c1 | exact c2 | exact c3 | exact c4 | exact c5 | exact c6 | exact c7 | exact c8 | fail)
      | refine s_opg ?_ (hy := by intro hk hk2; first | (apply bs_cmdA (c := (k, a, d, r)) rfl un_; exact oo_; done) | (apply bs_cmdA (c := (k2, a2, d2, r2)) rfl un_; exact oo_; done) | (apply ay_subw rfl; exact oog_; exact oog_; done) | fail)
      | refine s_skip ?_
      | ((first | refine w_alloc ?_ | refine w_box ?_) <;> intro bb)
      | ((first | refine w_emp ?_ | refine w_make ?_ | refine w_app ?_) <;> intro u hu1 hu2)
      | refine w_stv ?_ | refine w_str ?_ | refine w_cpr ?_ | refine w_cps ?_
      | refine al_last (by kernel_rfl) ?_
    | fail)
    all_goals first | exact ⟨_, [], rl_, List.nil_sublist _, Sub.refl _, rfl⟩ | skip
end Go.Proofs.YtockidoncngdbaaDoor
