/- Layer 27 (belief): the laws. No condition. -/
import Derived.Test.YtockidoncngdbaaDoorQ1HB
namespace Go.Proofs.YtockidoncngdbaaDoor
set_option linter.unusedSimpArgs false
set_option linter.unusedVariables false
set_option linter.unusedSectionVars false
set_option maxHeartbeats 4000000
open Go Go.RowKit
set_option maxRecDepth 200000
theorem newB_len (X Y : Int) : (newB X Y).1.2.2.1.length ≤ 1920 := by
  unfold newB
  split
  · rename_i h
    obtain ⟨w, h, rfl, rfl, h1, h2, h3, h4⟩ := sides_nat h
    have := side_leB h2 h4
    simpa using this
  · simp [noB]
theorem ofB_len (t : Tm) (h : t.2.2.1.length ≤ 3000) : (ofB t).1.2.2.1.length ≤ 3000 := by
  unfold ofB
  split
  · simp only [ofL_len]; exact h
  · simp [noB]
theorem forgetB_len (b : Bel) (f t : Int) (cur : Bool) (h : b.2.2.1.length ≤ 3000) : (forgetB b f t cur).2.2.1.length ≤ 3000 := by
  unfold forgetB
  split
  · exact h
  · rename_i q
    have q' : okBl b = true ∧ 0 ≤ f ∧ f ≤ t ∧ t ≤ b.2.2.1.length := Classical.not_not.1 q
    have e : (forB b.2.2.1 f.toNat t.toNat).length = b.2.2.1.length := forB_len (by omega) (by omega)
    split
    · simp only [e]; exact h
    · simp only [e]; exact h
variable {T0 : Gh} [TabS T0] [TabU T0]
theorem f_sameSelf (z : Bel) (h : z.2.2.1.length ≤ 100000) : AP Tryd.prog T0 18 [blA z, blA z] (B true) :=
  (f_ref27Same z.1 z.2.1 z.2.2.1 z.2.2.2.1 z.2.2.2.2.1 z.2.2.2.2.2.1 z.2.2.2.2.2.2 z.1 z.2.1 z.2.2.1 z.2.2.2.1 z.2.2.2.2.1 z.2.2.2.2.2.1 z.2.2.2.2.2.2 h).to (by rw [sameB_self])
attribute [local irreducible] thenA inBlockA AW AL AO QY varO rowO rsA Opd OpdN vA gvA tupA aggA slA slcA ipA rpA EqK LnK IxK LdK FaK FdK
theorem l_BeliefNews (X Y : Int) (w h : Int) (l : List Guess) (x y : Int) (b s : Bool) (tw th : Int) (tl : List Cell) (tx ty : Int) (tb : Bool) : AP Tryd.prog T0 6 [I X, I Y, belA w h l x y b s, termA tw th tl tx ty tb] (B true) := by
  have c1 : True := trivial
  have c2 : True := trivial
  have c3 : True := trivial
  have c4 : True := trivial
  have c5 : True := trivial
  have c6 : True := trivial
  have c7 : True := trivial
  have c8 : True := trivial
  have c9 : True := trivial
  have d1 : True := trivial
  have d2 : True := trivial
  have c1 := f_big27 (T0 := T0) w h l x y b s tw th tl tx ty tb
  by_cases hbig : l.length ≤ 3000 ∧ tl.length ≤ 3000
  · have c2 := f_beNew (T0 := T0) X Y
    have c3 := f_ref27New (T0 := T0) X Y
    have c4 := f_beOf (T0 := T0) tw th tl tx ty tb
    have c5 := f_ref27Of (T0 := T0) tw th tl tx ty tb
    have c6 := f_beIs (T0 := T0) w h l x y b s
    have c7 := f_ref27Is (T0 := T0) w h l x y b s
    have c8 := f_beAgrees (T0 := T0) w h l x y b s tw th tl tx ty tb
    have c9 := f_ref27Agrees (T0 := T0) w h l x y b s tw th tl tx ty tb
    have n1 := newB_len X Y
    have n2 := ofB_len (tw, th, tl, tx, ty, tb) hbig.2
    have d1 := f_sameSelf (T0 := T0) (newB X Y).1 (by omega)
    have d2 := f_sameSelf (T0 := T0) (ofB (tw, th, tl, tx, ty, tb)).1 (by omega)
    generalize newB X Y = z1 at *
    generalize ofB (tw, th, tl, tx, ty, tb) = z2 at *
    generalize okBe w h l x y b s = v1 at *
    generalize agrB (w, h, l, x, y, b, s) (tw, th, tl, tx, ty, tb) = v2 at *
    obtain ⟨⟨a1, a2, a3, a4, a5, a6, a7⟩, a8⟩ := z1
    obtain ⟨⟨e1, e2, e3, e4, e5, e6, e7⟩, e8⟩ := z2
    refine af_intro Tryd.func6 rfl (by decide) Tryd.ntmps6 rfl ?_
    repeat' (first
    | fail
    | refine s_y ?_
      | refine c_ ?_
      | (refine aw_if ?_ ?_ <;> intro hb <;> try (exfalso; first | assumption | omega | (simp only [or_self, and_self, not_true_eq_false, not_false_eq_true, or_false, false_or, and_false, false_and, true_and, and_true] at hb; first | done | omega)))
      | refine s_call ?_ (c := by first | exact f_believed | exact c1 | exact c2 | exact c3 | exact c4 | exact c5 | exact c6 | exact c7 | exact c8 | exact c9 | exact d1 | exact d2 | fail)
      | refine s_op ?_ (hy := by first | fail | fail)
      | refine s_yg ?_
      | refine s_callg ?_ (c := by intro hk hk2; first | exact f_believed | exact c1 | exact c2 | exact c3 | exact c4 | exact c5 | exact c6 | exact c7 | exact c8 | exact c9 | exact d1 | exact d2 | fail)
      | refine s_opg ?_ (hy := by intro hk hk2; first | fail | fail)
      | refine s_skip ?_
      | ((first | refine w_alloc ?_ | refine w_box ?_) <;> intro bb)
      | ((first | refine w_emp ?_ | refine w_make ?_ | refine w_app ?_) <;> intro u hu1 hu2)
      | refine w_stv ?_ | refine w_str ?_ | refine w_cpr ?_ | refine w_cps ?_
      | refine al_last (by kernel_rfl) ?_
    | fail)
    all_goals first | (exfalso; simp at hb; done) | (exfalso; omega) | exact ⟨_, [], rl_, List.nil_sublist _, Sub.refl _, rfl⟩ | exact ⟨_, [], rl_, List.nil_sublist _, Sub.eq (congrArg B (by simp)), rfl⟩ | skip
  · refine af_intro Tryd.func6 rfl (by decide) Tryd.ntmps6 rfl ?_
    repeat' (first
    | fail
    | refine s_y ?_
      | refine c_ ?_
      | (refine aw_if ?_ ?_ <;> intro hb <;> try (exfalso; first | assumption | omega | (simp only [or_self, and_self, not_true_eq_false, not_false_eq_true, or_false, false_or, and_false, false_and, true_and, and_true] at hb; first | done | omega)))
      | refine s_call ?_ (c := by first | exact f_believed | exact c1 | exact c2 | exact c3 | exact c4 | exact c5 | exact c6 | exact c7 | exact c8 | exact c9 | exact d1 | exact d2 | fail)
      | refine s_op ?_ (hy := by first | fail | fail)
      | refine s_yg ?_
      | refine s_callg ?_ (c := by intro hk hk2; first | exact f_believed | exact c1 | exact c2 | exact c3 | exact c4 | exact c5 | exact c6 | exact c7 | exact c8 | exact c9 | exact d1 | exact d2 | fail)
      | refine s_opg ?_ (hy := by intro hk hk2; first | fail | fail)
      | refine s_skip ?_
      | ((first | refine w_alloc ?_ | refine w_box ?_) <;> intro bb)
      | ((first | refine w_emp ?_ | refine w_make ?_ | refine w_app ?_) <;> intro u hu1 hu2)
      | refine w_stv ?_ | refine w_str ?_ | refine w_cpr ?_ | refine w_cps ?_
      | refine al_last (by kernel_rfl) ?_
    | fail)
    all_goals first | (exfalso; simp at hb; done) | (exfalso; omega) | exact ⟨_, [], rl_, List.nil_sublist _, Sub.refl _, rfl⟩ | exact ⟨_, [], rl_, List.nil_sublist _, Sub.eq (congrArg B (by simp)), rfl⟩ | skip
theorem l_BeliefMarks (w h : Int) (l : List Guess) (x y : Int) (b s : Bool) (c : Cmd) (f t : Int) (cur : Bool) : AP Tryd.prog T0 7 [belA w h l x y b s, cmdA c, I f, I t, B cur] (B true) := by
  have c1 : True := trivial
  have c2 : True := trivial
  have c3 : True := trivial
  have c4 : True := trivial
  have c5 : True := trivial
  have c6 : True := trivial
  have c7 : True := trivial
  have c8 : True := trivial
  have c9 : True := trivial
  have d1 : True := trivial
  have d2 : True := trivial
  by_cases hbig : l.length ≤ 3000
  · have c2 := f_beTouch (T0 := T0) w h l x y b s c
    have c3 := f_ref27Touch (T0 := T0) w h l x y b s c
    have c4 := f_beForget (T0 := T0) w h l x y b s f t cur
    have c5 := f_ref27Forget (T0 := T0) w h l x y b s f t cur
    have n1 := forgetB_len (w, h, l, x, y, b, s) f t cur hbig
    have d1 := f_sameSelf (T0 := T0) (forgetB (w, h, l, x, y, b, s) f t cur) (by omega)
    generalize forgetB (w, h, l, x, y, b, s) f t cur = z1 at *
    generalize touchB (w, h, l, x, y, b, s) c = z2 at *
    obtain ⟨a1, a2, a3, a4, a5, a6, a7⟩ := z1
    obtain ⟨e1, e2⟩ := z2
    obtain ⟨k, a, d, r⟩ := c
    refine af_intro Tryd.func7 rfl (by decide) Tryd.ntmps7 rfl ?_
    repeat' (first
    | fail
    | refine s_y ?_
      | refine c_ ?_
      | (refine aw_if ?_ ?_ <;> intro hb <;> try (exfalso; first | assumption | omega | (simp only [or_self, and_self, not_true_eq_false, not_false_eq_true, or_false, false_or, and_false, false_and, true_and, and_true] at hb; first | done | omega)))
      | refine s_call ?_ (c := by first | exact f_believed | exact c1 | exact c2 | exact c3 | exact c4 | exact c5 | exact c6 | exact c7 | exact c8 | exact c9 | exact d1 | exact d2 | fail)
      | refine s_op ?_ (hy := by first | fail | fail)
      | refine s_yg ?_
      | refine s_callg ?_ (c := by intro hk hk2; first | exact f_believed | exact c1 | exact c2 | exact c3 | exact c4 | exact c5 | exact c6 | exact c7 | exact c8 | exact c9 | exact d1 | exact d2 | fail)
      | refine s_opg ?_ (hy := by intro hk hk2; first | fail | fail)
      | refine s_skip ?_
      | ((first | refine w_alloc ?_ | refine w_box ?_) <;> intro bb)
      | ((first | refine w_emp ?_ | refine w_make ?_ | refine w_app ?_) <;> intro u hu1 hu2)
      | refine w_stv ?_ | refine w_str ?_ | refine w_cpr ?_ | refine w_cps ?_
      | refine al_last (by kernel_rfl) ?_
    | fail)
    all_goals first | (exfalso; simp at hb; done) | (exfalso; omega) | exact ⟨_, [], rl_, List.nil_sublist _, Sub.refl _, rfl⟩ | exact ⟨_, [], rl_, List.nil_sublist _, Sub.eq (congrArg B (by simp)), rfl⟩ | skip
  · obtain ⟨k, a, d, r⟩ := c
    refine af_intro Tryd.func7 rfl (by decide) Tryd.ntmps7 rfl ?_
    repeat' (first
    | fail
    | refine s_y ?_
      | refine c_ ?_
      | (refine aw_if ?_ ?_ <;> intro hb <;> try (exfalso; first | assumption | omega | (simp only [or_self, and_self, not_true_eq_false, not_false_eq_true, or_false, false_or, and_false, false_and, true_and, and_true] at hb; first | done | omega)))
      | refine s_call ?_ (c := by first | exact f_believed | exact c1 | exact c2 | exact c3 | exact c4 | exact c5 | exact c6 | exact c7 | exact c8 | exact c9 | exact d1 | exact d2 | fail)
      | refine s_op ?_ (hy := by first | fail | fail)
      | refine s_yg ?_
      | refine s_callg ?_ (c := by intro hk hk2; first | exact f_believed | exact c1 | exact c2 | exact c3 | exact c4 | exact c5 | exact c6 | exact c7 | exact c8 | exact c9 | exact d1 | exact d2 | fail)
      | refine s_opg ?_ (hy := by intro hk hk2; first | fail | fail)
      | refine s_skip ?_
      | ((first | refine w_alloc ?_ | refine w_box ?_) <;> intro bb)
      | ((first | refine w_emp ?_ | refine w_make ?_ | refine w_app ?_) <;> intro u hu1 hu2)
      | refine w_stv ?_ | refine w_str ?_ | refine w_cpr ?_ | refine w_cps ?_
      | refine al_last (by kernel_rfl) ?_
    | fail)
    all_goals first | (exfalso; simp at hb; done) | (exfalso; omega) | exact ⟨_, [], rl_, List.nil_sublist _, Sub.refl _, rfl⟩ | exact ⟨_, [], rl_, List.nil_sublist _, Sub.eq (congrArg B (by simp)), rfl⟩ | skip
theorem l_BeliefSound (w h : Int) (l : List Guess) (x y : Int) (b s : Bool) (tw th : Int) (tl : List Cell) (tx ty : Int) (tb : Bool) (c : Cmd) : AP Tryd.prog T0 8 [belA w h l x y b s, termA tw th tl tx ty tb, cmdA c] (B true) := by
  have c1 : True := trivial
  have c2 : True := trivial
  have c3 : True := trivial
  have c4 : True := trivial
  have c5 : True := trivial
  have c6 : True := trivial
  have c7 : True := trivial
  have c8 : True := trivial
  have c9 : True := trivial
  have d1 : True := trivial
  have d2 : True := trivial
  have c1 := f_big27 (T0 := T0) w h l x y b s tw th tl tx ty tb
  by_cases hA : AgrP (w, h, l, x, y, b, s) (tw, th, tl, tx, ty, tb)
  · have c2 := (f_beAgrees (T0 := T0) w h l x y b s tw th tl tx ty tb).to (A' := B true) (congrArg B (decide_eq_true hA))
    have c3 := f_beDo (T0 := T0) w h l x y b s c
    have c4 := f_termDo (T0 := T0) tw th tl tx ty tb c
    by_cases hc : isCmd c = true
    · have k1 := agr_doB hA hc
      have k2 := doB_ok hA.1 hc
      have k3 := doB_err hA.1 hc
      have k4 : (doT (tw, th, tl, tx, ty, tb) c).2 = 0 := by rw [doT_ok hA.2.1 hc]
      rw [k3] at c3
      rw [k4] at c4
      clear k3 k4
      generalize (doB (w, h, l, x, y, b, s) c).1 = z1 at *
      generalize (doT (tw, th, tl, tx, ty, tb) c).1 = z2 at *
      obtain ⟨a1, a2, a3, a4, a5, a6, a7⟩ := z1
      obtain ⟨e1, e2, e3, e4, e5, e6⟩ := z2
      have c5 := (f_beAgrees (T0 := T0) a1 a2 a3 a4 a5 a6 a7 e1 e2 e3 e4 e5 e6).to (A' := B true) (congrArg B (decide_eq_true k1))
      have c6 := (f_beIs (T0 := T0) a1 a2 a3 a4 a5 a6 a7).to (A' := B true) (congrArg B k2)
      clear k1 k2
      obtain ⟨k, a, d, r⟩ := c
      refine af_intro Tryd.func8 rfl (by decide) Tryd.ntmps8 rfl ?_
      repeat' (first
      | fail
      | refine s_y ?_
        | refine c_ ?_
        | (refine aw_if ?_ ?_ <;> intro hb <;> try (exfalso; first | assumption | omega | (simp only [or_self, and_self, not_true_eq_false, not_false_eq_true, or_false, false_or, and_false, false_and, true_and, and_true] at hb; first | done | omega)))
        | refine s_call ?_ (c := by first | exact f_believed | exact c1 | exact c2 | exact c3 | exact c4 | exact c5 | exact c6 | exact c7 | exact c8 | exact c9 | exact d1 | exact d2 | fail)
        | refine s_op ?_ (hy := by first | fail | fail)
        | refine s_yg ?_
        | refine s_callg ?_ (c := by intro hk hk2; first | exact f_believed | exact c1 | exact c2 | exact c3 | exact c4 | exact c5 | exact c6 | exact c7 | exact c8 | exact c9 | exact d1 | exact d2 | fail)
        | refine s_opg ?_ (hy := by intro hk hk2; first | fail | fail)
        | refine s_skip ?_
        | ((first | refine w_alloc ?_ | refine w_box ?_) <;> intro bb)
        | ((first | refine w_emp ?_ | refine w_make ?_ | refine w_app ?_) <;> intro u hu1 hu2)
        | refine w_stv ?_ | refine w_str ?_ | refine w_cpr ?_ | refine w_cps ?_
        | refine al_last (by kernel_rfl) ?_
      | fail)
      all_goals first | (exfalso; simp at hb; done) | (exfalso; omega) | exact ⟨_, [], rl_, List.nil_sublist _, Sub.refl _, rfl⟩ | exact ⟨_, [], rl_, List.nil_sublist _, Sub.eq (congrArg B (by simp)), rfl⟩ | skip
    · rw [doB_no (fun z => hc z.2)] at c3
      rw [doT_no (fun z => hc z.2)] at c4
      have c5 := f_beAgrees (T0 := T0) 0 0 [] 0 0 false false 0 0 [] 0 0 false
      have c6 := f_beIs (T0 := T0) 0 0 [] 0 0 false false
      obtain ⟨k, a, d, r⟩ := c
      refine af_intro Tryd.func8 rfl (by decide) Tryd.ntmps8 rfl ?_
      repeat' (first
      | fail
      | refine s_y ?_
        | refine c_ ?_
        | (refine aw_if ?_ ?_ <;> intro hb <;> try (exfalso; first | assumption | omega | (simp only [or_self, and_self, not_true_eq_false, not_false_eq_true, or_false, false_or, and_false, false_and, true_and, and_true] at hb; first | done | omega)))
        | refine s_call ?_ (c := by first | exact f_believed | exact c1 | exact c2 | exact c3 | exact c4 | exact c5 | exact c6 | exact c7 | exact c8 | exact c9 | exact d1 | exact d2 | fail)
        | refine s_op ?_ (hy := by first | fail | fail)
        | refine s_yg ?_
        | refine s_callg ?_ (c := by intro hk hk2; first | exact f_believed | exact c1 | exact c2 | exact c3 | exact c4 | exact c5 | exact c6 | exact c7 | exact c8 | exact c9 | exact d1 | exact d2 | fail)
        | refine s_opg ?_ (hy := by intro hk hk2; first | fail | fail)
        | refine s_skip ?_
        | ((first | refine w_alloc ?_ | refine w_box ?_) <;> intro bb)
        | ((first | refine w_emp ?_ | refine w_make ?_ | refine w_app ?_) <;> intro u hu1 hu2)
        | refine w_stv ?_ | refine w_str ?_ | refine w_cpr ?_ | refine w_cps ?_
        | refine al_last (by kernel_rfl) ?_
      | fail)
      all_goals first | (exfalso; simp at hb; done) | (exfalso; omega) | exact ⟨_, [], rl_, List.nil_sublist _, Sub.refl _, rfl⟩ | exact ⟨_, [], rl_, List.nil_sublist _, Sub.eq (congrArg B (by simp)), rfl⟩ | skip
  · have c2 := (f_beAgrees (T0 := T0) w h l x y b s tw th tl tx ty tb).to (A' := B false) (congrArg B (decide_eq_false hA))
    obtain ⟨k, a, d, r⟩ := c
    refine af_intro Tryd.func8 rfl (by decide) Tryd.ntmps8 rfl ?_
    repeat' (first
    | fail
    | refine s_y ?_
      | refine c_ ?_
      | (refine aw_if ?_ ?_ <;> intro hb <;> try (exfalso; first | assumption | omega | (simp only [or_self, and_self, not_true_eq_false, not_false_eq_true, or_false, false_or, and_false, false_and, true_and, and_true] at hb; first | done | omega)))
      | refine s_call ?_ (c := by first | exact f_believed | exact c1 | exact c2 | exact c3 | exact c4 | exact c5 | exact c6 | exact c7 | exact c8 | exact c9 | exact d1 | exact d2 | fail)
      | refine s_op ?_ (hy := by first | fail | fail)
      | refine s_yg ?_
      | refine s_callg ?_ (c := by intro hk hk2; first | exact f_believed | exact c1 | exact c2 | exact c3 | exact c4 | exact c5 | exact c6 | exact c7 | exact c8 | exact c9 | exact d1 | exact d2 | fail)
      | refine s_opg ?_ (hy := by intro hk hk2; first | fail | fail)
      | refine s_skip ?_
      | ((first | refine w_alloc ?_ | refine w_box ?_) <;> intro bb)
      | ((first | refine w_emp ?_ | refine w_make ?_ | refine w_app ?_) <;> intro u hu1 hu2)
      | refine w_stv ?_ | refine w_str ?_ | refine w_cpr ?_ | refine w_cps ?_
      | refine al_last (by kernel_rfl) ?_
    | fail)
    all_goals first | (exfalso; simp at hb; done) | (exfalso; omega) | exact ⟨_, [], rl_, List.nil_sublist _, Sub.refl _, rfl⟩ | exact ⟨_, [], rl_, List.nil_sublist _, Sub.eq (congrArg B (by simp)), rfl⟩ | skip
theorem l_BeliefForgets (w h : Int) (l : List Guess) (x y : Int) (b s : Bool) (tw th : Int) (tl : List Cell) (tx ty : Int) (tb : Bool) (uw uh : Int) (ul : List Cell) (ux uy : Int) (ub : Bool) (f t : Int) (cur : Bool) : AP Tryd.prog T0 11 [belA w h l x y b s, termA tw th tl tx ty tb, termA uw uh ul ux uy ub, I f, I t, B cur] (B true) := by
  have c1 : True := trivial
  have c2 : True := trivial
  have c3 : True := trivial
  have c4 : True := trivial
  have c5 : True := trivial
  have c6 : True := trivial
  have c7 : True := trivial
  have c8 : True := trivial
  have c9 : True := trivial
  have d1 : True := trivial
  have d2 : True := trivial
  have c1 := f_big27 (T0 := T0) w h l x y b s tw th tl tx ty tb
  have c2 := f_beForget (T0 := T0) w h l x y b s f t cur
  have c3 := f_beIs (T0 := T0) w h l x y b s
  have c4 := f_beAgrees (T0 := T0) w h l x y b s tw th tl tx ty tb
  have k1 : okBe w h l x y b s = true → okBl (forgetB (w, h, l, x, y, b, s) f t cur) = true := fun q => forget_ok (b := (w, h, l, x, y, b, s)) q
  have k2 : agrB (w, h, l, x, y, b, s) (tw, th, tl, tx, ty, tb) = true → agrB (forgetB (w, h, l, x, y, b, s) f t cur) (tw, th, tl, tx, ty, tb) = true := fun q => decide_eq_true (forget_agr (of_decide_eq_true q))
  generalize forgetB (w, h, l, x, y, b, s) f t cur = z1 at *
  obtain ⟨a1, a2, a3, a4, a5, a6, a7⟩ := z1
  have c5 := f_beIs (T0 := T0) a1 a2 a3 a4 a5 a6 a7
  have c6 := f_beAgrees (T0 := T0) a1 a2 a3 a4 a5 a6 a7 tw th tl tx ty tb
  have k1' : okBe w h l x y b s = true → okBe a1 a2 a3 a4 a5 a6 a7 = true := k1
  clear k1
  generalize okBe w h l x y b s = v1 at *
  generalize okBe a1 a2 a3 a4 a5 a6 a7 = v2 at *
  generalize agrB (w, h, l, x, y, b, s) (tw, th, tl, tx, ty, tb) = v3 at *
  generalize agrB (a1, a2, a3, a4, a5, a6, a7) (tw, th, tl, tx, ty, tb) = v4 at *
  have c7 := f_beOf (T0 := T0) tw th tl tx ty tb
  cases hk : okT tw th tl tx ty tb with
  | true =>
    have hk' : okTm (tw, th, tl, tx, ty, tb) = true := hk
    have o1 : (ofB (tw, th, tl, tx, ty, tb)).2 = 0 := by rw [ofB, if_pos hk']
    have o2 := of_agr (u := (tw, th, tl, tx, ty, tb)) hk'
    have o3 := of_agr (u := (uw, uh, ul, ux, uy, ub)) hk'
    obtain ⟨o4, o5⟩ := new_agr hk'
    have c8 := f_beNew (T0 := T0) tw th
    simp only at o4 o5
    rw [o1] at c7
    rw [o5] at c8
    clear o1 o5
    generalize (ofB (tw, th, tl, tx, ty, tb)).1 = z2 at *
    generalize (newB tw th).1 = z3 at *
    obtain ⟨e1, e2, e3, e4, e5, e6, e7⟩ := z2
    obtain ⟨g1, g2, g3, g4, g5, g6, g7⟩ := z3
    have c9 := (f_beAgrees (T0 := T0) g1 g2 g3 g4 g5 g6 g7 tw th tl tx ty tb).to (A' := B true) (congrArg B (decide_eq_true o4))
    have d1 := (f_beAgrees (T0 := T0) e1 e2 e3 e4 e5 e6 e7 tw th tl tx ty tb).to (A' := B true) (congrArg B (decide_eq_true (o2.2 rfl)))
    have d2 := f_beAgrees (T0 := T0) e1 e2 e3 e4 e5 e6 e7 uw uh ul ux uy ub
    have d3 := f_ref07Same (T0 := T0) tw th tl tx ty tb uw uh ul ux uy ub
    have e0 : decide ((tw, th, tl, tx, ty, tb) = (uw, uh, ul, ux, uy, ub)) = agrB (e1, e2, e3, e4, e5, e6, e7) (uw, uh, ul, ux, uy, ub) := by
      rw [Bool.eq_iff_iff, decide_eq_true_eq]
      unfold agrB
      rw [decide_eq_true_iff]
      exact o3.symm
    rw [e0] at d3
    have d4 : AP Tryd.prog T0 36 [gridA tw th tl] (B true) := (f_IsA tw th tl).to (by rw [(okT_iff.1 hk).1])
    generalize agrB (e1, e2, e3, e4, e5, e6, e7) (uw, uh, ul, ux, uy, ub) = v5 at *
    clear o2 o3 o4 e0
    refine af_intro Tryd.func11 rfl (by decide) Tryd.ntmps11 rfl ?_
    repeat' (first
    | fail
    | refine s_y ?_
      | refine c_ ?_
      | (refine aw_if ?_ ?_ <;> intro hb <;> try (exfalso; first | assumption | omega | (simp only [or_self, and_self, not_true_eq_false, not_false_eq_true, or_false, false_or, and_false, false_and, true_and, and_true] at hb; first | done | omega)))
      | refine s_call ?_ (c := by first | exact f_believed | exact c1 | exact c2 | exact c3 | exact c4 | exact c5 | exact c6 | exact c7 | exact c8 | exact c9 | exact d1 | exact d2 | exact d3 | exact d4 | fail)
      | refine s_op ?_ (hy := by first | fail | fail)
      | refine s_yg ?_
      | refine s_callg ?_ (c := by intro hk hk2; first | exact f_believed | exact c1 | exact c2 | exact c3 | exact c4 | exact c5 | exact c6 | exact c7 | exact c8 | exact c9 | exact d1 | exact d2 | exact d3 | exact d4 | fail)
      | refine s_opg ?_ (hy := by intro hk hk2; first | fail | fail)
      | refine s_skip ?_
      | ((first | refine w_alloc ?_ | refine w_box ?_) <;> intro bb)
      | ((first | refine w_emp ?_ | refine w_make ?_ | refine w_app ?_) <;> intro u hu1 hu2)
      | refine w_stv ?_ | refine w_str ?_ | refine w_cpr ?_ | refine w_cps ?_
      | refine al_last (by kernel_rfl) ?_
    | fail)
    all_goals first | exact ⟨_, [], rl_, List.nil_sublist _, Sub.refl _, rfl⟩ | (exfalso; simp at hb; done) | (exfalso; omega) | exact (hb.elim (fun q => absurd (k1' q.1) (by rw [q.2]; decide)) (fun q => absurd (k2 q.1) (by rw [q.2]; decide)) : False).elim | (refine ⟨_, [], rl_, List.nil_sublist _, Sub.eq (congrArg B ?_), rfl⟩; simp; done) | skip
  | false =>
    have o1 : ofB (tw, th, tl, tx, ty, tb) = (noB, 1) := by rw [ofB, if_neg (by rw [show okTm (tw, th, tl, tx, ty, tb) = false from hk]; decide)]
    rw [o1] at c7
    have c8 : AP Tryd.prog T0 34 [termA tw th tl tx ty tb] (B false) := (f_termIs tw th tl tx ty tb).to (by rw [hk])
    refine af_intro Tryd.func11 rfl (by decide) Tryd.ntmps11 rfl ?_
    repeat' (first
    | fail
    | refine s_y ?_
      | refine c_ ?_
      | (refine aw_if ?_ ?_ <;> intro hb <;> try (exfalso; first | assumption | omega | (simp only [or_self, and_self, not_true_eq_false, not_false_eq_true, or_false, false_or, and_false, false_and, true_and, and_true] at hb; first | done | omega)))
      | refine s_call ?_ (c := by first | exact f_believed | exact c1 | exact c2 | exact c3 | exact c4 | exact c5 | exact c6 | exact c7 | exact c8 | exact c9 | exact d1 | exact d2 | fail)
      | refine s_op ?_ (hy := by first | fail | fail)
      | refine s_yg ?_
      | refine s_callg ?_ (c := by intro hk hk2; first | exact f_believed | exact c1 | exact c2 | exact c3 | exact c4 | exact c5 | exact c6 | exact c7 | exact c8 | exact c9 | exact d1 | exact d2 | fail)
      | refine s_opg ?_ (hy := by intro hk hk2; first | fail | fail)
      | refine s_skip ?_
      | ((first | refine w_alloc ?_ | refine w_box ?_) <;> intro bb)
      | ((first | refine w_emp ?_ | refine w_make ?_ | refine w_app ?_) <;> intro u hu1 hu2)
      | refine w_stv ?_ | refine w_str ?_ | refine w_cpr ?_ | refine w_cps ?_
      | refine al_last (by kernel_rfl) ?_
    | fail)
    all_goals first | exact ⟨_, [], rl_, List.nil_sublist _, Sub.refl _, rfl⟩ | (exfalso; simp at hb; done) | (exfalso; omega) | exact (hb.elim (fun q => absurd (k1' q.1) (by rw [q.2]; decide)) (fun q => absurd (k2 q.1) (by rw [q.2]; decide)) : False).elim | (refine ⟨_, [], rl_, List.nil_sublist _, Sub.eq (congrArg B ?_), rfl⟩; simp; done) | skip
theorem l_BeliefTouched (w h : Int) (l : List Guess) (x y : Int) (b s : Bool) (tw th : Int) (tl : List Cell) (tx ty : Int) (tb : Bool) (c : Cmd) : AP Tryd.prog T0 10 [belA w h l x y b s, termA tw th tl tx ty tb, cmdA c] (B true) := by
  have c1 : True := trivial
  have c2 : True := trivial
  have c3 : True := trivial
  have c4 : True := trivial
  have c5 : True := trivial
  have c6 : True := trivial
  have c7 : True := trivial
  have c8 : True := trivial
  have c9 : True := trivial
  have d1 : True := trivial
  have d2 : True := trivial
  have c1 := f_big27 (T0 := T0) w h l x y b s tw th tl tx ty tb
  have c3 := f_termDo (T0 := T0) tw th tl tx ty tb c
  by_cases hA : AgrP (w, h, l, x, y, b, s) (tw, th, tl, tx, ty, tb) ∧ isCmd c = true
  · obtain ⟨hA, hc⟩ := hA
    have c2 := (f_beAgrees (T0 := T0) w h l x y b s tw th tl tx ty tb).to (A' := B true) (congrArg B (decide_eq_true hA))
    have c4 := f_beTouch (T0 := T0) w h l x y b s c
    have k4 : (doT (tw, th, tl, tx, ty, tb) c).2 = 0 := by rw [doT_ok hA.2.1 hc]
    have kt := touch_ok hA hc
    have hl : tl.length ≤ 1920 := (okG_len (okT_iff.1 hA.2.1).1).2.1
    rw [k4] at c3
    clear k4 hA
    generalize (doT (tw, th, tl, tx, ty, tb) c).1 = z2 at *
    generalize touchB (w, h, l, x, y, b, s) c = z3 at *
    obtain ⟨e1, e2, e3, e4, e5, e6⟩ := z2
    obtain ⟨f, t⟩ := z3
    obtain ⟨t1, t2, t3, t4, t5⟩ := kt
    simp only at t1 t2 t3 t4 t5
    obtain ⟨k, a, d, r⟩ := c
    refine af_intro Tryd.func10 rfl (by decide) Tryd.ntmps10 rfl ?_
    repeat' (first
    | refine s_op ?_ (hy := by first | (apply k_ix rfl; exact oo_; exact on_; apply ik_sl un_ el_; exact hat) | fail)
      | refine s_opg ?_ (hy := by intro hk hk2; first | (apply k_ix rfl; exact oog_; exact ong_; apply ik_sl un_ el_; exact hat1) | (apply k_ix rfl; exact oog_; exact ong_; apply ik_sl un_ el_; exact hat2) | fail)
    | refine s_y ?_
      | refine c_ ?_
      | (refine aw_if ?_ ?_ <;> intro hb <;> try (exfalso; first | assumption | omega | (simp only [or_self, and_self, not_true_eq_false, not_false_eq_true, or_false, false_or, and_false, false_and, true_and, and_true] at hb; first | done | omega)))
      | refine s_call ?_ (c := by first | exact f_believed | exact c1 | exact c2 | exact c3 | exact c4 | exact c5 | exact c6 | exact c7 | exact c8 | exact c9 | exact d1 | exact d2 | fail)
      | refine s_op ?_ (hy := by first | fail | fail)
      | refine s_yg ?_
      | refine s_callg ?_ (c := by intro hk hk2; first | exact f_believed | exact c1 | exact c2 | exact c3 | exact c4 | exact c5 | exact c6 | exact c7 | exact c8 | exact c9 | exact d1 | exact d2 | fail)
      | refine s_opg ?_ (hy := by intro hk hk2; first | fail | fail)
      | refine s_skip ?_
      | ((first | refine w_alloc ?_ | refine w_box ?_) <;> intro bb)
      | ((first | refine w_emp ?_ | refine w_make ?_ | refine w_app ?_) <;> intro u hu1 hu2)
      | refine w_stv ?_ | refine w_str ?_ | refine w_cpr ?_ | refine w_cps ?_
      | refine al_last (by kernel_rfl) ?_
    | fail)
    all_goals first | (exfalso; simp at hb; done) | (exfalso; omega) | (exfalso; simp at hb; omega) | exact ⟨_, [], rl_, List.nil_sublist _, Sub.refl _, rfl⟩ | skip
    refine aw_lf (fun k : Nat => [(11, I k)]) (fun k => k ≤ tl.length) (fun k => tl.length - k) 0 (Nat.zero_le _) ?_
    rintro j j1
    by_cases hlt : j < tl.length
    · have hat1 := c_in (l := e3) (i := j) (by omega)
      have hat2 := c_in hlt
      have hx := t5 j hlt
      change e3[j]? = some (cAt e3 j) at hat1
      change tl[j]? = some (cAt tl j) at hat2
      have hat : True := trivial
      generalize cAt e3 j = g1 at *
      generalize cAt tl j = g2 at *
      obtain ⟨p1, p2⟩ := g1
      obtain ⟨q1, q2⟩ := g2
      repeat' (first
      | refine s_op ?_ (hy := by first | (apply k_ix rfl; exact oo_; exact on_; apply ik_sl un_ el_; exact hat) | fail)
        | refine s_opg ?_ (hy := by intro hk hk2; first | (apply k_ix rfl; exact oog_; exact ong_; apply ik_sl un_ el_; exact hat1) | (apply k_ix rfl; exact oog_; exact ong_; apply ik_sl un_ el_; exact hat2) | fail)
      | refine s_y ?_
        | refine c_ ?_
        | (refine aw_if ?_ ?_ <;> intro hb <;> try (exfalso; first | assumption | omega | (simp only [or_self, and_self, not_true_eq_false, not_false_eq_true, or_false, false_or, and_false, false_and, true_and, and_true] at hb; first | done | omega)))
        | refine s_call ?_ (c := by first | exact f_believed | exact c1 | exact c2 | exact c3 | exact c4 | exact c5 | exact c6 | exact c7 | exact c8 | exact c9 | exact d1 | exact d2 | fail)
        | refine s_op ?_ (hy := by first | fail | fail)
        | refine s_yg ?_
        | refine s_callg ?_ (c := by intro hk hk2; first | exact f_believed | exact c1 | exact c2 | exact c3 | exact c4 | exact c5 | exact c6 | exact c7 | exact c8 | exact c9 | exact d1 | exact d2 | fail)
        | refine s_opg ?_ (hy := by intro hk hk2; first | fail | fail)
        | refine s_skip ?_
        | ((first | refine w_alloc ?_ | refine w_box ?_) <;> intro bb)
        | ((first | refine w_emp ?_ | refine w_make ?_ | refine w_app ?_) <;> intro u hu1 hu2)
        | refine w_stv ?_ | refine w_str ?_ | refine w_cpr ?_ | refine w_cps ?_
        | refine al_last (by kernel_rfl) ?_
      | fail)
      all_goals first | (exfalso; omega) | exact ⟨j + 1, by omega, by omega, wx_, sl_⟩ | skip
      exfalso
      exact hb.2 (hx hb.1)
    · repeat' (first
      | refine s_op ?_ (hy := by first | (apply k_ix rfl; exact oo_; exact on_; apply ik_sl un_ el_; exact hat) | fail)
        | refine s_opg ?_ (hy := by intro hk hk2; first | (apply k_ix rfl; exact oog_; exact ong_; apply ik_sl un_ el_; exact hat1) | (apply k_ix rfl; exact oog_; exact ong_; apply ik_sl un_ el_; exact hat2) | fail)
      | refine s_y ?_
        | refine c_ ?_
        | (refine aw_if ?_ ?_ <;> intro hb <;> try (exfalso; first | assumption | omega | (simp only [or_self, and_self, not_true_eq_false, not_false_eq_true, or_false, false_or, and_false, false_and, true_and, and_true] at hb; first | done | omega)))
        | refine s_call ?_ (c := by first | exact f_believed | exact c1 | exact c2 | exact c3 | exact c4 | exact c5 | exact c6 | exact c7 | exact c8 | exact c9 | exact d1 | exact d2 | fail)
        | refine s_op ?_ (hy := by first | fail | fail)
        | refine s_yg ?_
        | refine s_callg ?_ (c := by intro hk hk2; first | exact f_believed | exact c1 | exact c2 | exact c3 | exact c4 | exact c5 | exact c6 | exact c7 | exact c8 | exact c9 | exact d1 | exact d2 | fail)
        | refine s_opg ?_ (hy := by intro hk hk2; first | fail | fail)
        | refine s_skip ?_
        | ((first | refine w_alloc ?_ | refine w_box ?_) <;> intro bb)
        | ((first | refine w_emp ?_ | refine w_make ?_ | refine w_app ?_) <;> intro u hu1 hu2)
        | refine w_stv ?_ | refine w_str ?_ | refine w_cpr ?_ | refine w_cps ?_
        | refine al_last (by kernel_rfl) ?_
      | fail)
      all_goals first | (exfalso; omega) | exact ⟨_, [], rl_, List.nil_sublist _, Sub.refl _, rfl⟩ | skip
  · cases hv : agrB (w, h, l, x, y, b, s) (tw, th, tl, tx, ty, tb) with
    | false =>
      have c2 := (f_beAgrees (T0 := T0) w h l x y b s tw th tl tx ty tb).to (A' := B false) (congrArg B hv)
      generalize doT (tw, th, tl, tx, ty, tb) c = z2 at *
      obtain ⟨⟨e1, e2, e3, e4, e5, e6⟩, e7⟩ := z2
      obtain ⟨k, a, d, r⟩ := c
      refine af_intro Tryd.func10 rfl (by decide) Tryd.ntmps10 rfl ?_
      repeat' (first
      | refine s_op ?_ (hy := by first | (apply k_ix rfl; exact oo_; exact on_; apply ik_sl un_ el_; exact hat) | fail)
        | refine s_opg ?_ (hy := by intro hk hk2; first | (apply k_ix rfl; exact oog_; exact ong_; apply ik_sl un_ el_; exact hat1) | (apply k_ix rfl; exact oog_; exact ong_; apply ik_sl un_ el_; exact hat2) | fail)
      | refine s_y ?_
        | refine c_ ?_
        | (refine aw_if ?_ ?_ <;> intro hb <;> try (exfalso; first | assumption | omega | (simp only [or_self, and_self, not_true_eq_false, not_false_eq_true, or_false, false_or, and_false, false_and, true_and, and_true] at hb; first | done | omega)))
        | refine s_call ?_ (c := by first | exact f_believed | exact c1 | exact c2 | exact c3 | exact c4 | exact c5 | exact c6 | exact c7 | exact c8 | exact c9 | exact d1 | exact d2 | fail)
        | refine s_op ?_ (hy := by first | fail | fail)
        | refine s_yg ?_
        | refine s_callg ?_ (c := by intro hk hk2; first | exact f_believed | exact c1 | exact c2 | exact c3 | exact c4 | exact c5 | exact c6 | exact c7 | exact c8 | exact c9 | exact d1 | exact d2 | fail)
        | refine s_opg ?_ (hy := by intro hk hk2; first | fail | fail)
        | refine s_skip ?_
        | ((first | refine w_alloc ?_ | refine w_box ?_) <;> intro bb)
        | ((first | refine w_emp ?_ | refine w_make ?_ | refine w_app ?_) <;> intro u hu1 hu2)
        | refine w_stv ?_ | refine w_str ?_ | refine w_cpr ?_ | refine w_cps ?_
        | refine al_last (by kernel_rfl) ?_
      | fail)
      all_goals first | (exfalso; simp at hb; done) | exact ⟨_, [], rl_, List.nil_sublist _, Sub.refl _, rfl⟩ | skip
    | true =>
      have c2 := (f_beAgrees (T0 := T0) w h l x y b s tw th tl tx ty tb).to (A' := B true) (congrArg B hv)
      have hc : ¬ isCmd c = true := fun z => hA ⟨of_decide_eq_true hv, z⟩
      rw [doT_no (fun z => hc z.2)] at c3
      obtain ⟨k, a, d, r⟩ := c
      refine af_intro Tryd.func10 rfl (by decide) Tryd.ntmps10 rfl ?_
      repeat' (first
      | refine s_op ?_ (hy := by first | (apply k_ix rfl; exact oo_; exact on_; apply ik_sl un_ el_; exact hat) | fail)
        | refine s_opg ?_ (hy := by intro hk hk2; first | (apply k_ix rfl; exact oog_; exact ong_; apply ik_sl un_ el_; exact hat1) | (apply k_ix rfl; exact oog_; exact ong_; apply ik_sl un_ el_; exact hat2) | fail)
      | refine s_y ?_
        | refine c_ ?_
        | (refine aw_if ?_ ?_ <;> intro hb <;> try (exfalso; first | assumption | omega | (simp only [or_self, and_self, not_true_eq_false, not_false_eq_true, or_false, false_or, and_false, false_and, true_and, and_true] at hb; first | done | omega)))
        | refine s_call ?_ (c := by first | exact f_believed | exact c1 | exact c2 | exact c3 | exact c4 | exact c5 | exact c6 | exact c7 | exact c8 | exact c9 | exact d1 | exact d2 | fail)
        | refine s_op ?_ (hy := by first | fail | fail)
        | refine s_yg ?_
        | refine s_callg ?_ (c := by intro hk hk2; first | exact f_believed | exact c1 | exact c2 | exact c3 | exact c4 | exact c5 | exact c6 | exact c7 | exact c8 | exact c9 | exact d1 | exact d2 | fail)
        | refine s_opg ?_ (hy := by intro hk hk2; first | fail | fail)
        | refine s_skip ?_
        | ((first | refine w_alloc ?_ | refine w_box ?_) <;> intro bb)
        | ((first | refine w_emp ?_ | refine w_make ?_ | refine w_app ?_) <;> intro u hu1 hu2)
        | refine w_stv ?_ | refine w_str ?_ | refine w_cpr ?_ | refine w_cps ?_
        | refine al_last (by kernel_rfl) ?_
      | fail)
      all_goals first | (exfalso; simp at hb; done) | exact ⟨_, [], rl_, List.nil_sublist _, Sub.refl _, rfl⟩ | skip
theorem l_BeliefRuns (w h : Int) (l : List Cell) (x y : Int) (b : Bool) (L : List Cmd) : AP Tryd.prog T0 9 [termA w h l x y b, slA cmdT L] (B true) := by
  have c1 : True := trivial
  have c2 : True := trivial
  have c3 : True := trivial
  have c4 : True := trivial
  have c5 : True := trivial
  have c6 : True := trivial
  have c7 : True := trivial
  have c8 : True := trivial
  have c9 : True := trivial
  have d1 : True := trivial
  have d2 : True := trivial
  have hat : True := trivial
  have c1 := f_beNew (T0 := T0) w h
  cases hk : okT w h l x y b with
  | false =>
    have c2 : AP Tryd.prog T0 34 [termA w h l x y b] (B false) := (f_termIs w h l x y b).to (by rw [hk])
    generalize newB w h = z at *
    obtain ⟨⟨a1, a2, a3, a4, a5, a6, a7⟩, a8⟩ := z
    refine af_intro Tryd.func9 rfl (by decide) Tryd.ntmps9 rfl ?_
    repeat' (first
    | refine s_op ?_ (hy := by first | (apply k_ix rfl; exact oo_; exact on_; apply ik_sl un_ el_; exact hat) | fail)
    | refine s_y ?_
      | refine c_ ?_
      | (refine aw_if ?_ ?_ <;> intro hb <;> try (exfalso; first | assumption | omega | (simp only [or_self, and_self, not_true_eq_false, not_false_eq_true, or_false, false_or, and_false, false_and, true_and, and_true] at hb; first | done | omega)))
      | refine s_call ?_ (c := by first | exact f_believed | exact c1 | exact c2 | exact c3 | exact c4 | exact c5 | exact c6 | exact c7 | exact c8 | exact c9 | exact d1 | exact d2 | fail)
      | refine s_op ?_ (hy := by first | fail | fail)
      | refine s_yg ?_
      | refine s_callg ?_ (c := by intro hk hk2; first | exact f_believed | exact c1 | exact c2 | exact c3 | exact c4 | exact c5 | exact c6 | exact c7 | exact c8 | exact c9 | exact d1 | exact d2 | fail)
      | refine s_opg ?_ (hy := by intro hk hk2; first | fail | fail)
      | refine s_skip ?_
      | ((first | refine w_alloc ?_ | refine w_box ?_) <;> intro bb)
      | ((first | refine w_emp ?_ | refine w_make ?_ | refine w_app ?_) <;> intro u hu1 hu2)
      | refine w_stv ?_ | refine w_str ?_ | refine w_cpr ?_ | refine w_cps ?_
      | refine al_last (by kernel_rfl) ?_
    | fail)
    all_goals first | (exfalso; simp at hb; done) | exact ⟨_, [], rl_, List.nil_sublist _, Sub.refl _, rfl⟩ | skip
  | true =>
    have c2 : AP Tryd.prog T0 34 [termA w h l x y b] (B true) := (f_termIs w h l x y b).to (by rw [hk])
    obtain ⟨o4, o5⟩ := new_agr (t := (w, h, l, x, y, b)) hk
    simp only at o4 o5
    rw [o5] at c1
    clear o5
    generalize (newB w h).1 = z at *
    obtain ⟨a1, a2, a3, a4, a5, a6, a7⟩ := z
    refine af_intro Tryd.func9 rfl (by decide) Tryd.ntmps9 rfl ?_
    repeat' (first
    | refine s_op ?_ (hy := by first | (apply k_ix rfl; exact oo_; exact on_; apply ik_sl un_ el_; exact hat) | fail)
    | (apply aw_regionF 9; (case hB => decide +kernel); (case hn => rfl); (case hg => decide +kernel); (case hm => kernel_rfl); (case hs => rfl))
      | refine endF_ ?_
      | (refine sf_alloc rfl rfl rfl rfl al_ ?_; intro bn)
      | (apply sf_store rfl rfl rfl; (case hx => exact oo_); (case hz => exact sz_); (case hy => exact oo_); (case hc => exact cam_); (case hl => rfl); (case h1 => exact ones_); (case hU => exact upf_); (case hs => exact setc_))
      | (apply sf_y rfl rfl rfl; (case hy => exact y_))
      | refine sf_nil ?_
    | refine aw_seq ?_
      | refine aw_region0 ?_
      | refine al_nil ?_
      | refine th_n ?_
      | refine th_e ?_
      | refine th_r ?_
      | refine ib_n ?_
      | refine ib_e rfl ?_
      | refine ib_e' rfl ?_
      | refine ib_r ?_
      | refine aw_block ?_
      | refine aw_exit ?_
      | refine aw_ret ?_
      | refine aw_skip ?_
      | (apply aw_region1q (by rfl) (by kernel_rfl) (by kernel_rfl))
    | refine s_y ?_
      | refine c_ ?_
      | (refine aw_if ?_ ?_ <;> intro hb <;> try (exfalso; first | assumption | omega | (simp only [or_self, and_self, not_true_eq_false, not_false_eq_true, or_false, false_or, and_false, false_and, true_and, and_true] at hb; first | done | omega)))
      | refine s_call ?_ (c := by first | exact f_believed | exact c1 | exact c2 | exact c3 | exact c4 | exact c5 | exact c6 | exact c7 | exact c8 | exact c9 | exact d1 | exact d2 | fail)
      | refine s_op ?_ (hy := by first | fail | fail)
      | refine s_yg ?_
      | refine s_callg ?_ (c := by intro hk hk2; first | exact f_believed | exact c1 | exact c2 | exact c3 | exact c4 | exact c5 | exact c6 | exact c7 | exact c8 | exact c9 | exact d1 | exact d2 | fail)
      | refine s_opg ?_ (hy := by intro hk hk2; first | fail | fail)
      | refine s_skip ?_
      | ((first | refine w_alloc ?_ | refine w_box ?_) <;> intro bb)
      | ((first | refine w_emp ?_ | refine w_make ?_ | refine w_app ?_) <;> intro u hu1 hu2)
      | refine w_stv ?_ | refine w_str ?_ | refine w_cpr ?_ | refine w_cps ?_
      | refine al_last (by kernel_rfl) ?_
    | fail)
    all_goals first | (exfalso; simp at hb; done) | exact ⟨_, [], rl_, List.nil_sublist _, Sub.refl _, rfl⟩ | skip
    rename_i b2
    refine aw_fl (fun s : Nat × Bel × Tm => [(1, slA cmdT L), (2, ptA b2), (5, ptA bb), (7, I s.1)]) (fun s => [varO bb 24 [I s.2.1.1, I s.2.1.2.1, slA guT s.2.1.2.2.1, I s.2.1.2.2.2.1, I s.2.1.2.2.2.2.1, B s.2.1.2.2.2.2.2.1, B s.2.1.2.2.2.2.2.2], varO b2 43 [I s.2.2.1, I s.2.2.2.1, slA cellT s.2.2.2.2.1, I s.2.2.2.2.2.1, I s.2.2.2.2.2.2.1, B s.2.2.2.2.2.2.2]]) (fun s => s.1 ≤ L.length ∧ AgrP s.2.1 s.2.2) (fun s => L.length - s.1) (0, (a1, a2, a3, a4, a5, a6, a7), (w, h, l, x, y, b)) ⟨Nat.zero_le _, o4⟩ wk_ sl_ ?_
    rintro ⟨k, ⟨e1, e2, e3, e4, e5, e6, e7⟩, ⟨g1, g2, g3, g4, g5, g6⟩⟩ ⟨k1, k2⟩
    simp only at k1 k2
    have c3 := (f_beAgrees (T0 := T0) e1 e2 e3 e4 e5 e6 e7 g1 g2 g3 g4 g5 g6).to (A' := B true) (congrArg B (decide_eq_true k2))
    by_cases hlt : k < L.length
    · obtain ⟨c, hat⟩ : ∃ z, L[k]? = some z := ⟨_, List.getElem?_eq_getElem hlt⟩
      have c4 := f_beDo (T0 := T0) e1 e2 e3 e4 e5 e6 e7 c
      have c5 := f_termDo (T0 := T0) g1 g2 g3 g4 g5 g6 c
      by_cases hc : isCmd c = true
      · have n1 := agr_doB k2 hc
        have n3 := doB_err k2.1 hc
        have n4 : (doT (g1, g2, g3, g4, g5, g6) c).2 = 0 := by rw [doT_ok k2.2.1 hc]
        rw [n3] at c4
        rw [n4] at c5
        clear n3 n4
        generalize (doB (e1, e2, e3, e4, e5, e6, e7) c).1 = z1 at *
        generalize (doT (g1, g2, g3, g4, g5, g6) c).1 = z2 at *
        obtain ⟨p1, p2, p3, p4, p5, p6, p7⟩ := z1
        obtain ⟨q1, q2, q3, q4, q5, q6⟩ := z2
        obtain ⟨kk, a, d, r⟩ := c
        repeat' (first
        | refine s_op ?_ (hy := by first | (apply k_ix rfl; exact oo_; exact on_; apply ik_sl un_ el_; exact hat) | fail)
        | (apply aw_regionF 9; (case hB => decide +kernel); (case hn => rfl); (case hg => decide +kernel); (case hm => kernel_rfl); (case hs => rfl))
          | refine endF_ ?_
          | (refine sf_alloc rfl rfl rfl rfl al_ ?_; intro bn)
          | (apply sf_store rfl rfl rfl; (case hx => exact oo_); (case hz => exact sz_); (case hy => exact oo_); (case hc => exact cam_); (case hl => rfl); (case h1 => exact ones_); (case hU => exact upf_); (case hs => exact setc_))
          | (apply sf_y rfl rfl rfl; (case hy => exact y_))
          | refine sf_nil ?_
        | refine aw_seq ?_
          | refine aw_region0 ?_
          | refine al_nil ?_
          | refine th_n ?_
          | refine th_e ?_
          | refine th_r ?_
          | refine ib_n ?_
          | refine ib_e rfl ?_
          | refine ib_e' rfl ?_
          | refine ib_r ?_
          | refine aw_block ?_
          | refine aw_exit ?_
          | refine aw_ret ?_
          | refine aw_skip ?_
          | (apply aw_region1q (by rfl) (by kernel_rfl) (by kernel_rfl))
        | refine s_y ?_
          | refine c_ ?_
          | (refine aw_if ?_ ?_ <;> intro hb <;> try (exfalso; first | assumption | omega | (simp only [or_self, and_self, not_true_eq_false, not_false_eq_true, or_false, false_or, and_false, false_and, true_and, and_true] at hb; first | done | omega)))
          | refine s_call ?_ (c := by first | exact f_believed | exact c1 | exact c2 | exact c3 | exact c4 | exact c5 | exact c6 | exact c7 | exact c8 | exact c9 | exact d1 | exact d2 | fail)
          | refine s_op ?_ (hy := by first | fail | fail)
          | refine s_yg ?_
          | refine s_callg ?_ (c := by intro hk hk2; first | exact f_believed | exact c1 | exact c2 | exact c3 | exact c4 | exact c5 | exact c6 | exact c7 | exact c8 | exact c9 | exact d1 | exact d2 | fail)
          | refine s_opg ?_ (hy := by intro hk hk2; first | fail | fail)
          | refine s_skip ?_
          | ((first | refine w_alloc ?_ | refine w_box ?_) <;> intro bb)
          | ((first | refine w_emp ?_ | refine w_make ?_ | refine w_app ?_) <;> intro u hu1 hu2)
          | refine w_stv ?_ | refine w_str ?_ | refine w_cpr ?_ | refine w_cps ?_
          | refine al_last (by kernel_rfl) ?_
        | fail)
        all_goals first | (exfalso; omega) | (exfalso; simp at hb; done) | exact ⟨(k + 1, (p1, p2, p3, p4, p5, p6, p7), (q1, q2, q3, q4, q5, q6)), ⟨by show k + 1 ≤ _; omega, n1⟩, by show _ - (k + 1) < _ - k; omega, wk_, sl_⟩ | skip
      · rw [doB_no (fun z => hc z.2)] at c4
        rw [doT_no (fun z => hc z.2)] at c5
        obtain ⟨kk, a, d, r⟩ := c
        repeat' (first
        | refine s_op ?_ (hy := by first | (apply k_ix rfl; exact oo_; exact on_; apply ik_sl un_ el_; exact hat) | fail)
        | (apply aw_regionF 9; (case hB => decide +kernel); (case hn => rfl); (case hg => decide +kernel); (case hm => kernel_rfl); (case hs => rfl))
          | refine endF_ ?_
          | (refine sf_alloc rfl rfl rfl rfl al_ ?_; intro bn)
          | (apply sf_store rfl rfl rfl; (case hx => exact oo_); (case hz => exact sz_); (case hy => exact oo_); (case hc => exact cam_); (case hl => rfl); (case h1 => exact ones_); (case hU => exact upf_); (case hs => exact setc_))
          | (apply sf_y rfl rfl rfl; (case hy => exact y_))
          | refine sf_nil ?_
        | refine aw_seq ?_
          | refine aw_region0 ?_
          | refine al_nil ?_
          | refine th_n ?_
          | refine th_e ?_
          | refine th_r ?_
          | refine ib_n ?_
          | refine ib_e rfl ?_
          | refine ib_e' rfl ?_
          | refine ib_r ?_
          | refine aw_block ?_
          | refine aw_exit ?_
          | refine aw_ret ?_
          | refine aw_skip ?_
          | (apply aw_region1q (by rfl) (by kernel_rfl) (by kernel_rfl))
        | refine s_y ?_
          | refine c_ ?_
          | (refine aw_if ?_ ?_ <;> intro hb <;> try (exfalso; first | assumption | omega | (simp only [or_self, and_self, not_true_eq_false, not_false_eq_true, or_false, false_or, and_false, false_and, true_and, and_true] at hb; first | done | omega)))
          | refine s_call ?_ (c := by first | exact f_believed | exact c1 | exact c2 | exact c3 | exact c4 | exact c5 | exact c6 | exact c7 | exact c8 | exact c9 | exact d1 | exact d2 | fail)
          | refine s_op ?_ (hy := by first | fail | fail)
          | refine s_yg ?_
          | refine s_callg ?_ (c := by intro hk hk2; first | exact f_believed | exact c1 | exact c2 | exact c3 | exact c4 | exact c5 | exact c6 | exact c7 | exact c8 | exact c9 | exact d1 | exact d2 | fail)
          | refine s_opg ?_ (hy := by intro hk hk2; first | fail | fail)
          | refine s_skip ?_
          | ((first | refine w_alloc ?_ | refine w_box ?_) <;> intro bb)
          | ((first | refine w_emp ?_ | refine w_make ?_ | refine w_app ?_) <;> intro u hu1 hu2)
          | refine w_stv ?_ | refine w_str ?_ | refine w_cpr ?_ | refine w_cps ?_
          | refine al_last (by kernel_rfl) ?_
        | fail)
        all_goals first | (exfalso; omega) | (exfalso; simp at hb; done) | exact ⟨(k + 1, (e1, e2, e3, e4, e5, e6, e7), (g1, g2, g3, g4, g5, g6)), ⟨by show k + 1 ≤ _; omega, k2⟩, by show _ - (k + 1) < _ - k; omega, wk_, sl_⟩ | skip
    · repeat' (first
      | refine s_op ?_ (hy := by first | (apply k_ix rfl; exact oo_; exact on_; apply ik_sl un_ el_; exact hat) | fail)
      | refine s_y ?_
        | refine c_ ?_
        | (refine aw_if ?_ ?_ <;> intro hb <;> try (exfalso; first | assumption | omega | (simp only [or_self, and_self, not_true_eq_false, not_false_eq_true, or_false, false_or, and_false, false_and, true_and, and_true] at hb; first | done | omega)))
        | refine s_call ?_ (c := by first | exact f_believed | exact c1 | exact c2 | exact c3 | exact c4 | exact c5 | exact c6 | exact c7 | exact c8 | exact c9 | exact d1 | exact d2 | fail)
        | refine s_op ?_ (hy := by first | fail | fail)
        | refine s_yg ?_
        | refine s_callg ?_ (c := by intro hk hk2; first | exact f_believed | exact c1 | exact c2 | exact c3 | exact c4 | exact c5 | exact c6 | exact c7 | exact c8 | exact c9 | exact d1 | exact d2 | fail)
        | refine s_opg ?_ (hy := by intro hk hk2; first | fail | fail)
        | refine s_skip ?_
        | ((first | refine w_alloc ?_ | refine w_box ?_) <;> intro bb)
        | ((first | refine w_emp ?_ | refine w_make ?_ | refine w_app ?_) <;> intro u hu1 hu2)
        | refine w_stv ?_ | refine w_str ?_ | refine w_cpr ?_ | refine w_cps ?_
        | refine al_last (by kernel_rfl) ?_
      | fail)
      all_goals first | (exfalso; omega) | exact ⟨_, [], rl_, List.nil_sublist _, Sub.refl _, rfl⟩ | exact ⟨_, [], rl_, List.nil_sublist _, Sub.eq (congrArg B (by simp)), rfl⟩ | skip
end Go.Proofs.YtockidoncngdbaaDoor
