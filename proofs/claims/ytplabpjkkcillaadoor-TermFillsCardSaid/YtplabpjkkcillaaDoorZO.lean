/- Several texts in one: see the comment ahead of each. No condition. -/
import Derived.Test.YtplabpjkkcillaaDoorZN
import Derived.Test.YtplabpjkkcillaaDoorAD
/- Layer 7 (term): the laws of what stays right, of two parts, of moves. No condition. -/
namespace Go.Proofs.YtplabpjkkcillaaDoor
set_option linter.unusedSimpArgs false
set_option linter.unusedVariables false
set_option linter.unusedSectionVars false
set_option maxHeartbeats 4000000
open Go Go.RowKit
variable {T0 : Gh} [TabS T0] [TabU T0]
set_option maxRecDepth 200000
/-! ### plain laws -/
theorem runT_ok : ∀ (l : List Cmd) (t : Tm), okTm t = true → (∀ c ∈ l, isCmd c = true) → okTm (runT t l) = true
  | [], _, h, _ => h
  | c :: l, t, h, hc => by
    have h1 := hc c (by simp)
    have := runT_ok l (doT t c).1 (by rw [doT_ok h h1]; exact doK_ok h h1) (fun d hd => hc d (by simp [hd]))
    exact this
theorem feedT_app (t : Tm) (a b : List UInt8) : ((feedT t a).2.2 ≠ 0 → (feedT t (a ++ b)).2.2 = (feedT t a).2.2) ∧ ((feedT t a).2.2 = 0 → feedT t (a ++ b) = feedT (feedT t a).1 ((feedT t a).2.1 ++ b)) ∧ (feedT t a).2.1.length ≤ a.length := by
  by_cases hok : okTm t = true
  · obtain ⟨p1, p2⟩ := allS_app a b
    rcases allS_err a with he | he
    · obtain ⟨s1, s2, _, _⟩ := allS_sound a he
      have e1 : feedT t a = (runT t (allS a).1, (allS a).2.1, 0) := by rw [feedT, if_pos hok, if_pos he]
      have hx := runT_ok (allS a).1 t hok s2
      rw [e1]
      refine ⟨fun h => absurd rfl h, fun _ => ?_, by simp only; omega⟩
      have e2 := p1 he
      rcases allS_err ((allS a).2.1 ++ b) with hb | hb
      · have e3 : allS (a ++ b) = ((allS a).1 ++ (allS ((allS a).2.1 ++ b)).1, (allS ((allS a).2.1 ++ b)).2) := by rw [e2, allF, if_neg (by rw [hb]; decide)]
        rw [feedT, if_pos hok, e3, if_pos hb, feedT, if_pos hx, if_pos hb]
        simp only [runT, List.foldl_append]
      · have e3 : allS (a ++ b) = ([], [], 2) := by rw [e2, hb]; rfl
        rw [feedT, if_pos hok, e3, feedT, if_pos hx, hb]; rfl
    · have e1 : feedT t a = (noT, [], 2) := by rw [feedT, if_pos hok, he]; rfl
      have e2 := p2 (by rw [he]; decide)
      rw [e1]
      refine ⟨fun _ => (by rw [feedT, if_pos hok, e2]; rfl), fun h => (by cases h), by simp⟩
  · have e : ∀ s, feedT t s = (noT, [], 1) := fun s => if_neg hok
    rw [e a]
    exact ⟨fun _ => (by rw [e]), fun h => (by cases h), by simp⟩
theorem sizeT_facts (t : Tm) (W H : Int) (hok : okTm t = true) : ((sizeT t W H).2 = 0 → okTm (sizeT t W H).1 = true) ∧ (newR W H).2 = (sizeT t W H).2 ∧ ((newR W H).2 = 0 → okT (newR W H).1.1 (newR W H).1.2.1 (newR W H).1.2.2 0 0 false = true) := by
  obtain ⟨w, h, l, x, y, b⟩ := t
  obtain ⟨h1, ⟨h2, h3, h4, h5⟩, h6⟩ := okT_iff.1 hok
  obtain ⟨f1, f2, f3, f4, f5⟩ := fitR_facts w h l W H h1
  by_cases hs : sidesM W H = true
  · have e : sizeT (w, h, l, x, y, b) W H = ((W, H, fitK w.toNat h.toNat l W.toNat H.toNat (min H.toNat h.toNat), inM x (W - 1), inM y (H - 1), false), 0) := by rw [sizeT, if_pos hok, if_pos hs]
    have e2 : fitR w h l W H = ((W, H, fitK w.toNat h.toNat l W.toNat H.toNat (min H.toNat h.toNat)), 0) := by rw [fitR, if_pos h1, if_pos hs]
    have e3 : newR W H = ((W, H, List.replicate (W.toNat * H.toNat) (32, 0)), 0) := by rw [newR, if_pos hs]
    rw [e2] at f2
    have g1 := f2 rfl
    have g2 := f4 (by rw [e3])
    have hr : 2 ≤ W ∧ W ≤ 80 ∧ 1 ≤ H ∧ H ≤ 24 := by simpa [sidesM, and_assoc] using hs
    have r1 := inM_rng (n := x) (most := W - 1) (by omega)
    have r2 := inM_rng (n := y) (most := H - 1) (by omega)
    have k1 : okT W H (fitK w.toNat h.toNat l W.toNat H.toNat (min H.toNat h.toNat)) (inM x (W - 1)) (inM y (H - 1)) false = true := okT_iff.2 ⟨g1, ⟨r1.1, by omega, r2.1, by omega⟩, fun h => by cases h⟩
    rw [e, e3]
    rw [e3] at g2
    exact ⟨fun _ => k1, rfl, fun _ => okT_iff.2 ⟨g2, ⟨by omega, by simp only; omega, by omega, by simp only; omega⟩, fun h => by cases h⟩⟩
  · have e : sizeT (w, h, l, x, y, b) W H = (noT, 4) := by rw [sizeT, if_pos hok, if_neg hs]
    have e3 : newR W H = ((0, 0, []), 4) := by rw [newR, if_neg hs]
    rw [e, e3]
    exact ⟨fun h => (by cases h), rfl, fun h => by cases h⟩
/-- a move leads where a going would lead -/
theorem move_go {w h : Int} {l : List Cell} {x y : Int} {b : Bool} {c : Cmd} (hok : okT w h l x y b = true) (hc : isCmd c = true) (hm : (3 ≤ c.1 ∧ c.1 ≤ 6) ∨ c.1 = 9 ∨ c.1 = 11 ∨ (c.1 = 10 ∧ y < h - 1)) :
    ∃ X Y, doT (w, h, l, x, y, b) c = ((w, h, l, X, Y, false), 0) ∧ doT (w, h, l, x, y, b) (2, Y, X, 0) = ((w, h, l, X, Y, false), 0) := by
  obtain ⟨h1, ⟨h2, h3, h4, h5⟩, h6⟩ := okT_iff.1 hok
  have hg := okG_len h1
  have key : ∀ X Y, (0 ≤ X ∧ X ≤ w - 1) → (0 ≤ Y ∧ Y ≤ h - 1) → doK w h l x y b c = (w, h, l, X, Y, false) → ∃ X Y, doT (w, h, l, x, y, b) c = ((w, h, l, X, Y, false), 0) ∧ doT (w, h, l, x, y, b) (2, Y, X, 0) = ((w, h, l, X, Y, false), 0) := fun X Y hX hY e => by
    refine ⟨X, Y, by rw [doT_ok hok hc]; exact congrArg (fun z => (z, (0 : Int))) e, ?_⟩
    have hc2 : isCmd (2, Y, X, 0) = true := by simp [isCmd]; omega
    rw [doT_ok hok hc2]
    show (goK w h l X Y, (0 : Int)) = _
    rw [goK, inM_in hX.1 hX.2, inM_in hY.1 hY.2]
  have go : ∀ X Y, doK w h l x y b c = goK w h l X Y → ∃ X Y, doT (w, h, l, x, y, b) c = ((w, h, l, X, Y, false), 0) ∧ doT (w, h, l, x, y, b) (2, Y, X, 0) = ((w, h, l, X, Y, false), 0) := fun X Y e =>
    key _ _ (inM_rng (n := X) (by omega)) (inM_rng (n := Y) (by omega)) e
  rcases cmd_ways hc with ⟨r, rfl, hs⟩ | ⟨a, d, rfl, _⟩ | ⟨k, a, rfl, hk, _⟩ | ⟨k, rfl, hk⟩
  · simp only at hm; omega
  · simp only at hm; omega
  · rcases hk with rfl | rfl | rfl | rfl <;> exact go _ _ rfl
  · simp only at hm
    rcases hk with rfl | rfl | rfl | rfl | rfl | rfl
    · omega
    · omega
    · exact go _ _ rfl
    · refine key x (y + 1) ⟨h2, by omega⟩ ⟨by omega, by omega⟩ ?_
      show (w, h, (downL w h l y).1, x, (downL w h l y).2, false) = _
      rw [downL, if_neg (by omega)]
    · exact go _ _ rfl
    · omega
attribute [local irreducible] thenA inBlockA AW AL AO QY varO rowO rsA Opd OpdN vA gvA tupA aggA slA slcA ipA rpA EqK LnK IxK LdK FaK FdK
theorem l_TermStays (w h : Int) (l : List Cell) (x y : Int) (b : Bool) (c : Cmd) (W H : Int) : AP Tryd.prog T0 12 [termA w h l x y b, cmdA c, I W, I H] (B true) := by
  have c7 := f_termIs (T0 := T0) w h l x y b
  cases hok : okT w h l x y b with
  | false =>
    rw [hok] at c7
    have c1 : True := trivial
    have c2 : True := trivial
    have c3 : True := trivial
    have c4 : True := trivial
    have c5 : True := trivial
    have c6 : True := trivial
    refine af_intro Tryd.func12 rfl (by decide) Tryd.ntmps12 rfl ?_
    repeat' (first
    | fail
    | refine s_y ?_
      | refine c_ ?_
      | (refine aw_if ?_ ?_ <;> intro hb <;> try (exfalso; first | assumption | omega | (simp only [or_self, and_self, not_true_eq_false, not_false_eq_true, or_false, false_or, and_false, false_and, true_and, and_true] at hb; first | done | omega)))
      | refine s_call ?_ (c := by first | exact f_fed | exact f_big07 _ _ _ _ _ _ | exact c1 | exact c2 | exact c3 | exact c4 | exact c5 | exact c6 | exact c7 | exact f_ref07Same _ _ _ _ _ _ _ _ _ _ _ _ | exact f_ref03Same _ _ _ _ _ _ | fail)
      | refine s_op ?_ (hy := by first | fail | fail)
      | refine s_yg ?_
      | refine s_callg ?_ (c := by intro hk hk2; first | exact f_fed | exact f_big07 _ _ _ _ _ _ | exact c1 | exact c2 | exact c3 | exact c4 | exact c5 | exact c6 | exact c7 | exact f_ref07Same _ _ _ _ _ _ _ _ _ _ _ _ | exact f_ref03Same _ _ _ _ _ _ | fail)
      | refine s_opg ?_ (hy := by intro hk hk2; first | fail | fail)
      | refine s_skip ?_
      | ((first | refine w_alloc ?_ | refine w_box ?_) <;> intro bb)
      | ((first | refine w_emp ?_ | refine w_make ?_ | refine w_app ?_) <;> intro u hu1 hu2)
      | refine w_stv ?_ | refine w_str ?_ | refine w_cpr ?_ | refine w_cps ?_
      | refine al_last (by kernel_rfl) ?_
    | fail)
    all_goals first | (exfalso; omega) | (exfalso; simp at hb; done) | exact ⟨_, [], rl_, List.nil_sublist _, Sub.refl _, rfl⟩ | exact ⟨_, [], rl_, List.nil_sublist _, Sub.eq (congrArg B (by simp)), rfl⟩
  | true =>
    rw [hok] at c7
    have hlen := (okG_len (okT_iff.1 hok).1).2.1
    have c1 := f_termDo (T0 := T0) w h l x y b c
    have c2 := f_termResize (T0 := T0) w h l x y b W H
    have c3 := f_termNew (T0 := T0) W H
    obtain ⟨s1, s2, s3⟩ := sizeT_facts (w, h, l, x, y, b) W H hok
    have s4 : (sizeT (w, h, l, x, y, b) W H).2 = 0 ∨ (sizeT (w, h, l, x, y, b) W H).2 = 4 := by
      unfold sizeT; rw [if_pos (show okTm (w, h, l, x, y, b) = true from hok)]; split <;> simp
    have s5 : (doT (w, h, l, x, y, b) c).2 = 0 ∧ okTm (doT (w, h, l, x, y, b) c).1 = true ∨ (doT (w, h, l, x, y, b) c).2 = 1 := by
      by_cases hc : isCmd c = true
      · left; rw [doT_ok hok hc]; exact ⟨rfl, doK_ok hok hc⟩
      · right; rw [doT_no (fun h => hc h.2)]
    obtain ⟨⟨t1, e1⟩, hz1⟩ : ∃ z, z = doT (w, h, l, x, y, b) c := ⟨_, rfl⟩
    obtain ⟨⟨t2, e2⟩, hz2⟩ : ∃ z, z = sizeT (w, h, l, x, y, b) W H := ⟨_, rfl⟩
    obtain ⟨⟨⟨w3, h3, l3⟩, e3⟩, hz3⟩ : ∃ z, z = newR W H := ⟨_, rfl⟩
    rw [← hz1] at c1 s5
    rw [← hz2] at c2 s1 s2 s4
    rw [← hz3] at c3 s2 s3
    simp only at c1 c2 c3 s1 s2 s3 s4 s5
    clear hz1 hz2 hz3
    obtain ⟨w1, h1, l1, x1, y1, b1⟩ := t1
    obtain ⟨w2, h2, l2, x2, y2, b2⟩ := t2
    try simp only at c1 c2 s1 s5
    have c4 := f_termIs (T0 := T0) w1 h1 l1 x1 y1 b1
    have c5 := f_termIs (T0 := T0) w2 h2 l2 x2 y2 b2
    have c6 := f_termIs (T0 := T0) w3 h3 l3 0 0 false
    subst s2
    rcases s4 with rfl | rfl
    · have s1 := s1 rfl
      have s3 := s3 rfl
      rw [show okTm (w2, h2, l2, x2, y2, b2) = okT w2 h2 l2 x2 y2 b2 from rfl] at s1
      rw [s1] at c5
      rw [s3] at c6
      rcases s5 with ⟨rfl, s5⟩ | rfl
      · rw [show okTm (w1, h1, l1, x1, y1, b1) = okT w1 h1 l1 x1 y1 b1 from rfl] at s5
        rw [s5] at c4
        refine af_intro Tryd.func12 rfl (by decide) Tryd.ntmps12 rfl ?_
        repeat' (first
        | fail
        | refine s_y ?_
          | refine c_ ?_
          | (refine aw_if ?_ ?_ <;> intro hb <;> try (exfalso; first | assumption | omega | (simp only [or_self, and_self, not_true_eq_false, not_false_eq_true, or_false, false_or, and_false, false_and, true_and, and_true] at hb; first | done | omega)))
          | refine s_call ?_ (c := by first | exact f_fed | exact f_big07 _ _ _ _ _ _ | exact c1 | exact c2 | exact c3 | exact c4 | exact c5 | exact c6 | exact c7 | exact f_ref07Same _ _ _ _ _ _ _ _ _ _ _ _ | exact f_ref03Same _ _ _ _ _ _ | fail)
          | refine s_op ?_ (hy := by first | fail | fail)
          | refine s_yg ?_
          | refine s_callg ?_ (c := by intro hk hk2; first | exact f_fed | exact f_big07 _ _ _ _ _ _ | exact c1 | exact c2 | exact c3 | exact c4 | exact c5 | exact c6 | exact c7 | exact f_ref07Same _ _ _ _ _ _ _ _ _ _ _ _ | exact f_ref03Same _ _ _ _ _ _ | fail)
          | refine s_opg ?_ (hy := by intro hk hk2; first | fail | fail)
          | refine s_skip ?_
          | ((first | refine w_alloc ?_ | refine w_box ?_) <;> intro bb)
          | ((first | refine w_emp ?_ | refine w_make ?_ | refine w_app ?_) <;> intro u hu1 hu2)
          | refine w_stv ?_ | refine w_str ?_ | refine w_cpr ?_ | refine w_cps ?_
          | refine al_last (by kernel_rfl) ?_
        | fail)
        all_goals first | (exfalso; omega) | (exfalso; simp at hb; done) | exact ⟨_, [], rl_, List.nil_sublist _, Sub.refl _, rfl⟩ | exact ⟨_, [], rl_, List.nil_sublist _, Sub.eq (congrArg B (by simp)), rfl⟩
      · refine af_intro Tryd.func12 rfl (by decide) Tryd.ntmps12 rfl ?_
        repeat' (first
        | fail
        | refine s_y ?_
          | refine c_ ?_
          | (refine aw_if ?_ ?_ <;> intro hb <;> try (exfalso; first | assumption | omega | (simp only [or_self, and_self, not_true_eq_false, not_false_eq_true, or_false, false_or, and_false, false_and, true_and, and_true] at hb; first | done | omega)))
          | refine s_call ?_ (c := by first | exact f_fed | exact f_big07 _ _ _ _ _ _ | exact c1 | exact c2 | exact c3 | exact c4 | exact c5 | exact c6 | exact c7 | exact f_ref07Same _ _ _ _ _ _ _ _ _ _ _ _ | exact f_ref03Same _ _ _ _ _ _ | fail)
          | refine s_op ?_ (hy := by first | fail | fail)
          | refine s_yg ?_
          | refine s_callg ?_ (c := by intro hk hk2; first | exact f_fed | exact f_big07 _ _ _ _ _ _ | exact c1 | exact c2 | exact c3 | exact c4 | exact c5 | exact c6 | exact c7 | exact f_ref07Same _ _ _ _ _ _ _ _ _ _ _ _ | exact f_ref03Same _ _ _ _ _ _ | fail)
          | refine s_opg ?_ (hy := by intro hk hk2; first | fail | fail)
          | refine s_skip ?_
          | ((first | refine w_alloc ?_ | refine w_box ?_) <;> intro bb)
          | ((first | refine w_emp ?_ | refine w_make ?_ | refine w_app ?_) <;> intro u hu1 hu2)
          | refine w_stv ?_ | refine w_str ?_ | refine w_cpr ?_ | refine w_cps ?_
          | refine al_last (by kernel_rfl) ?_
        | fail)
        all_goals first | (exfalso; omega) | (exfalso; simp at hb; done) | exact ⟨_, [], rl_, List.nil_sublist _, Sub.refl _, rfl⟩ | exact ⟨_, [], rl_, List.nil_sublist _, Sub.eq (congrArg B (by simp)), rfl⟩
    · rcases s5 with ⟨rfl, s5⟩ | rfl
      · rw [show okTm (w1, h1, l1, x1, y1, b1) = okT w1 h1 l1 x1 y1 b1 from rfl] at s5
        rw [s5] at c4
        refine af_intro Tryd.func12 rfl (by decide) Tryd.ntmps12 rfl ?_
        repeat' (first
        | fail
        | refine s_y ?_
          | refine c_ ?_
          | (refine aw_if ?_ ?_ <;> intro hb <;> try (exfalso; first | assumption | omega | (simp only [or_self, and_self, not_true_eq_false, not_false_eq_true, or_false, false_or, and_false, false_and, true_and, and_true] at hb; first | done | omega)))
          | refine s_call ?_ (c := by first | exact f_fed | exact f_big07 _ _ _ _ _ _ | exact c1 | exact c2 | exact c3 | exact c4 | exact c5 | exact c6 | exact c7 | exact f_ref07Same _ _ _ _ _ _ _ _ _ _ _ _ | exact f_ref03Same _ _ _ _ _ _ | fail)
          | refine s_op ?_ (hy := by first | fail | fail)
          | refine s_yg ?_
          | refine s_callg ?_ (c := by intro hk hk2; first | exact f_fed | exact f_big07 _ _ _ _ _ _ | exact c1 | exact c2 | exact c3 | exact c4 | exact c5 | exact c6 | exact c7 | exact f_ref07Same _ _ _ _ _ _ _ _ _ _ _ _ | exact f_ref03Same _ _ _ _ _ _ | fail)
          | refine s_opg ?_ (hy := by intro hk hk2; first | fail | fail)
          | refine s_skip ?_
          | ((first | refine w_alloc ?_ | refine w_box ?_) <;> intro bb)
          | ((first | refine w_emp ?_ | refine w_make ?_ | refine w_app ?_) <;> intro u hu1 hu2)
          | refine w_stv ?_ | refine w_str ?_ | refine w_cpr ?_ | refine w_cps ?_
          | refine al_last (by kernel_rfl) ?_
        | fail)
        all_goals first | (exfalso; omega) | (exfalso; simp at hb; done) | exact ⟨_, [], rl_, List.nil_sublist _, Sub.refl _, rfl⟩ | exact ⟨_, [], rl_, List.nil_sublist _, Sub.eq (congrArg B (by simp)), rfl⟩
      · refine af_intro Tryd.func12 rfl (by decide) Tryd.ntmps12 rfl ?_
        repeat' (first
        | fail
        | refine s_y ?_
          | refine c_ ?_
          | (refine aw_if ?_ ?_ <;> intro hb <;> try (exfalso; first | assumption | omega | (simp only [or_self, and_self, not_true_eq_false, not_false_eq_true, or_false, false_or, and_false, false_and, true_and, and_true] at hb; first | done | omega)))
          | refine s_call ?_ (c := by first | exact f_fed | exact f_big07 _ _ _ _ _ _ | exact c1 | exact c2 | exact c3 | exact c4 | exact c5 | exact c6 | exact c7 | exact f_ref07Same _ _ _ _ _ _ _ _ _ _ _ _ | exact f_ref03Same _ _ _ _ _ _ | fail)
          | refine s_op ?_ (hy := by first | fail | fail)
          | refine s_yg ?_
          | refine s_callg ?_ (c := by intro hk hk2; first | exact f_fed | exact f_big07 _ _ _ _ _ _ | exact c1 | exact c2 | exact c3 | exact c4 | exact c5 | exact c6 | exact c7 | exact f_ref07Same _ _ _ _ _ _ _ _ _ _ _ _ | exact f_ref03Same _ _ _ _ _ _ | fail)
          | refine s_opg ?_ (hy := by intro hk hk2; first | fail | fail)
          | refine s_skip ?_
          | ((first | refine w_alloc ?_ | refine w_box ?_) <;> intro bb)
          | ((first | refine w_emp ?_ | refine w_make ?_ | refine w_app ?_) <;> intro u hu1 hu2)
          | refine w_stv ?_ | refine w_str ?_ | refine w_cpr ?_ | refine w_cps ?_
          | refine al_last (by kernel_rfl) ?_
        | fail)
        all_goals first | (exfalso; omega) | (exfalso; simp at hb; done) | exact ⟨_, [], rl_, List.nil_sublist _, Sub.refl _, rfl⟩ | exact ⟨_, [], rl_, List.nil_sublist _, Sub.eq (congrArg B (by simp)), rfl⟩
theorem l_TermParts (w h : Int) (l : List Cell) (x y : Int) (b : Bool) (s t : List UInt8) : AP Tryd.prog T0 13 [termA w h l x y b, SA s, SA t] (B true) := by
  have c4 : True := trivial
  have c5 : True := trivial
  have c6 : True := trivial
  have c7 : True := trivial
  by_cases hs : s.length ≤ 300 ∧ t.length ≤ 300
  · obtain ⟨hs, ht⟩ := hs
    have c1 := f_termFeed (T0 := T0) w h l x y b s (by omega)
    have c2 := f_termFeed (T0 := T0) w h l x y b (s ++ t) (by rw [List.length_append]; omega)
    obtain ⟨p1, p2, p3⟩ := feedT_app (w, h, l, x, y, b) s t
    obtain ⟨⟨⟨w1, h1, l1, x1, y1, b1⟩, r1, e1⟩, hz1⟩ : ∃ z, z = feedT (w, h, l, x, y, b) s := ⟨_, rfl⟩
    rw [← hz1] at c1 p1 p2 p3
    simp only at c1 p1 p2 p3
    by_cases he : e1 = 0
    · subst he
      have p2 := p2 rfl
      have c3 := f_termFeed (T0 := T0) w1 h1 l1 x1 y1 b1 (r1 ++ t) (by rw [List.length_append]; omega)
      rw [← p2] at c3
      clear p1 p2 hz1
      obtain ⟨⟨⟨w2, h2, l2, x2, y2, b2⟩, r2, e2⟩, hz2⟩ : ∃ z, z = feedT (w, h, l, x, y, b) (s ++ t) := ⟨_, rfl⟩
      rw [← hz2] at c2 c3
      simp only at c2 c3
      clear hz2
      refine af_intro Tryd.func13 rfl (by decide) Tryd.ntmps13 rfl ?_
      repeat' (first
      | fail
      | refine s_y ?_
        | refine c_ ?_
        | (refine aw_if ?_ ?_ <;> intro hb <;> try (exfalso; first | assumption | omega | (simp only [or_self, and_self, not_true_eq_false, not_false_eq_true, or_false, false_or, and_false, false_and, true_and, and_true] at hb; first | done | omega)))
        | refine s_call ?_ (c := by first | exact f_fed | exact f_big07 _ _ _ _ _ _ | exact c1 | exact c2 | exact c3 | exact c4 | exact c5 | exact c6 | exact c7 | exact f_ref07Same _ _ _ _ _ _ _ _ _ _ _ _ | exact f_ref03Same _ _ _ _ _ _ | fail)
        | refine s_op ?_ (hy := by first | fail | fail)
        | refine s_yg ?_
        | refine s_callg ?_ (c := by intro hk hk2; first | exact f_fed | exact f_big07 _ _ _ _ _ _ | exact c1 | exact c2 | exact c3 | exact c4 | exact c5 | exact c6 | exact c7 | exact f_ref07Same _ _ _ _ _ _ _ _ _ _ _ _ | exact f_ref03Same _ _ _ _ _ _ | fail)
        | refine s_opg ?_ (hy := by intro hk hk2; first | fail | fail)
        | refine s_skip ?_
        | ((first | refine w_alloc ?_ | refine w_box ?_) <;> intro bb)
        | ((first | refine w_emp ?_ | refine w_make ?_ | refine w_app ?_) <;> intro u hu1 hu2)
        | refine w_stv ?_ | refine w_str ?_ | refine w_cpr ?_ | refine w_cps ?_
        | refine al_last (by kernel_rfl) ?_
      | fail)
      all_goals first | (exfalso; omega) | (exfalso; simp at hb; done) | exact ⟨_, [], rl_, List.nil_sublist _, Sub.refl _, rfl⟩ | exact ⟨_, [], rl_, List.nil_sublist _, Sub.eq (congrArg B (by simp)), rfl⟩
    · have p1 := p1 he
      clear p2 hz1
      have c3 : True := trivial
      obtain ⟨⟨⟨w2, h2, l2, x2, y2, b2⟩, r2, e2⟩, hz2⟩ : ∃ z, z = feedT (w, h, l, x, y, b) (s ++ t) := ⟨_, rfl⟩
      rw [← hz2] at c2 p1
      simp only at c2 p1
      subst p1
      clear hz2
      refine af_intro Tryd.func13 rfl (by decide) Tryd.ntmps13 rfl ?_
      repeat' (first
      | fail
      | refine s_y ?_
        | refine c_ ?_
        | (refine aw_if ?_ ?_ <;> intro hb <;> try (exfalso; first | assumption | omega | (simp only [or_self, and_self, not_true_eq_false, not_false_eq_true, or_false, false_or, and_false, false_and, true_and, and_true] at hb; first | done | omega)))
        | refine s_call ?_ (c := by first | exact f_fed | exact f_big07 _ _ _ _ _ _ | exact c1 | exact c2 | exact c3 | exact c4 | exact c5 | exact c6 | exact c7 | exact f_ref07Same _ _ _ _ _ _ _ _ _ _ _ _ | exact f_ref03Same _ _ _ _ _ _ | fail)
        | refine s_op ?_ (hy := by first | fail | fail)
        | refine s_yg ?_
        | refine s_callg ?_ (c := by intro hk hk2; first | exact f_fed | exact f_big07 _ _ _ _ _ _ | exact c1 | exact c2 | exact c3 | exact c4 | exact c5 | exact c6 | exact c7 | exact f_ref07Same _ _ _ _ _ _ _ _ _ _ _ _ | exact f_ref03Same _ _ _ _ _ _ | fail)
        | refine s_opg ?_ (hy := by intro hk hk2; first | fail | fail)
        | refine s_skip ?_
        | ((first | refine w_alloc ?_ | refine w_box ?_) <;> intro bb)
        | ((first | refine w_emp ?_ | refine w_make ?_ | refine w_app ?_) <;> intro u hu1 hu2)
        | refine w_stv ?_ | refine w_str ?_ | refine w_cpr ?_ | refine w_cps ?_
        | refine al_last (by kernel_rfl) ?_
      | fail)
      all_goals first | (exfalso; omega) | (exfalso; simp at hb; done) | exact ⟨_, [], rl_, List.nil_sublist _, Sub.refl _, rfl⟩ | exact ⟨_, [], rl_, List.nil_sublist _, Sub.eq (congrArg B (by simp)), rfl⟩
  · have c1 : True := trivial
    have c2 : True := trivial
    have c3 : True := trivial
    refine af_intro Tryd.func13 rfl (by decide) Tryd.ntmps13 rfl ?_
    repeat' (first
    | fail
    | refine s_y ?_
      | refine c_ ?_
      | (refine aw_if ?_ ?_ <;> intro hb <;> try (exfalso; first | assumption | omega | (simp only [or_self, and_self, not_true_eq_false, not_false_eq_true, or_false, false_or, and_false, false_and, true_and, and_true] at hb; first | done | omega)))
      | refine s_call ?_ (c := by first | exact f_fed | exact f_big07 _ _ _ _ _ _ | exact c1 | exact c2 | exact c3 | exact c4 | exact c5 | exact c6 | exact c7 | exact f_ref07Same _ _ _ _ _ _ _ _ _ _ _ _ | exact f_ref03Same _ _ _ _ _ _ | fail)
      | refine s_op ?_ (hy := by first | fail | fail)
      | refine s_yg ?_
      | refine s_callg ?_ (c := by intro hk hk2; first | exact f_fed | exact f_big07 _ _ _ _ _ _ | exact c1 | exact c2 | exact c3 | exact c4 | exact c5 | exact c6 | exact c7 | exact f_ref07Same _ _ _ _ _ _ _ _ _ _ _ _ | exact f_ref03Same _ _ _ _ _ _ | fail)
      | refine s_opg ?_ (hy := by intro hk hk2; first | fail | fail)
      | refine s_skip ?_
      | ((first | refine w_alloc ?_ | refine w_box ?_) <;> intro bb)
      | ((first | refine w_emp ?_ | refine w_make ?_ | refine w_app ?_) <;> intro u hu1 hu2)
      | refine w_stv ?_ | refine w_str ?_ | refine w_cpr ?_ | refine w_cps ?_
      | refine al_last (by kernel_rfl) ?_
    | fail)
    all_goals first | (exfalso; omega) | (exfalso; simp at hb; done) | exact ⟨_, [], rl_, List.nil_sublist _, Sub.refl _, rfl⟩ | exact ⟨_, [], rl_, List.nil_sublist _, Sub.eq (congrArg B (by simp)), rfl⟩
end Go.Proofs.YtplabpjkkcillaaDoor
/- Regions that draw their order and end in a row of operations that write, one behind the other. No condition. -/
namespace Go.Proofs.YtplabpjkkcillaaDoor
set_option linter.unusedSimpArgs false
set_option linter.unusedVariables false
set_option linter.unusedSectionVars false
set_option maxHeartbeats 4000000
open Go Go.RowKit
section
variable {P : Program} {T0 : Gh} {N : Fz} {Q : Post} {fr : Fr} {M : List Own} {ops : Array Oper}
/-- from here on each comes alone -/
def seqR (md : Region.Mode) (ops : Array Oper) : List Nat → Array Bool → Bool
  | [], listed => (Region.ready md ops listed).isEmpty
  | d :: ds, listed => (Region.ready md ops listed).contains d && ((Region.ready md ops listed).all fun k => Nat.beq k d) && seqR md ops ds (listed.setIfInBounds d true)
theorem wpAny_seq {md : Region.Mode} {Qc : Exit → Act → World → Prop} : ∀ (ds : List Nat) (os : List Oper) (listed : Array Bool) (a : Act) (w : World), ds.map (fun d => ops[d]?) = os.map some → seqR md ops ds listed = true → wpList P ops Qc os a w → wpAny P md ops Qc ds.length listed a w
  | [], [], listed, a, w, _, hB, h => ⟨by simpa [seqR] using hB, h⟩
  | [], _ :: _, _, _, _, he, _, _ => by simp at he
  | _ :: _, [], _, _, _, he, _, _ => by simp at he
  | d :: ds, o :: os, listed, a, w, he, hB, h => by
    simp only [List.map_cons, List.cons.injEq] at he
    simp only [seqR, Bool.and_eq_true] at hB
    obtain ⟨⟨b1, b2⟩, b3⟩ := hB
    have r1 : d ∈ Region.ready md ops listed := by simpa using b1
    refine ⟨fun h0 => (by rw [h0] at r1; cases r1), fun i hi => ?_⟩
    obtain rfl := Nat.eq_of_beq_eq_true (List.all_eq_true.1 b2 i hi)
    unfold wpOp
    rw [he.1]
    unfold wpList at h
    simp only
    split at h
    · rename_i hw
      rw [if_pos hw]
      exact h.imp (fun h => op_mono (fun a w h => wpAny_seq ds os _ a w he.2 b3 h) h) (fun h => h)
    · rename_i hw
      rw [if_neg hw]
      exact wpAny_seq ds os _ _ _ he.2 b3 h
def wpAnyS (P : Program) (T0 : Gh) (N : Fz) (md : Region.Mode) (ops : Array Oper) (L : Nat) (ds : List Nat) (QC : Fr → Prop) (M : List Own) : Nat → Array Bool → Fr → Prop
  | 0, _, _ => False
  | fuel + 1, listed, fr => Region.ready md ops listed ≠ [] ∧ ∀ i ∈ Region.ready md ops listed, ∀ o, ops[i]? = some o →
      (i = L ∧ fuel = ds.length ∧ seqR md ops ds (listed.setIfInBounds i true) = true ∧ QC fr) ∨
      (i ≠ L ∧ (∀ x, o.dst = some x → x < N.n) ∧ ∃ A, QY P T0 ops o fr M A ∧ wpAnyS P T0 N md ops L ds QC M fuel (listed.setIfInBounds i true) (fr.put o.dst A))
theorem wpAny_of_S {md : Region.Mode} {L : Nat} {ds : List Nat} {oL : Oper} {os : List Oper} {QC : Fr → Prop} {w0 : World} {F : List Own} {G0 : Gh} {Qc : Exit → Act → World → Prop} (hoL : ops[L]? = some oL) (hos : ds.map (fun d => ops[d]?) = os.map some)
    (hC : ∀ fr' G a w, Gh.le G0 G → QC fr' → Con T0 N w0 G F fr' M a w → wpList P ops Qc (oL :: os) a w) : ∀ (fuel : Nat) (listed : Array Bool) (fr : Fr) (G : Gh) (a : Act) (w : World), Gh.le G0 G → Con T0 N w0 G F fr M a w →
    wpAnyS P T0 N md ops L ds QC M fuel listed fr → wpAny P md ops Qc fuel listed a w
  | 0, _, _, _, _, _, _, _, h => h.elim
  | fuel + 1, listed, fr, G, a, w, hl, hc, h => by
    refine ⟨fun h0 => absurd h0 h.1, fun i hi => ?_⟩
    unfold wpOp
    cases ho : ops[i]? with
    | none => have := (mem_ready.1 hi).2; rw [ho] at this; obtain ⟨_, e, _⟩ := this; cases e
    | some o =>
      rcases h.2 i hi o ho with ⟨rfl, rfl, hB, hq⟩ | ⟨_, hd, A, hy, hr⟩
      · rw [ho] at hoL; obtain rfl := Option.some.inj hoL
        have h3 := hC fr G a w hl hq hc
        unfold wpList at h3
        simp only
        split at h3
        · rename_i hw
          rw [if_pos hw]
          exact h3.imp (fun h => op_mono (fun a w h => wpAny_seq ds os _ a w hos hB h) h) (fun h => h)
        · rename_i hw
          rw [if_neg hw]
          exact wpAny_seq ds os _ _ _ hos hB h3
      · obtain ⟨h1, h2⟩ := hy w0 G F a w hc.st (fun s A _ e => hc.fr s A trivial e)
        simp only
        by_cases hw : Region.wanted o (yielded ops a.tmps) = true
        · rw [if_pos hw]
          refine .inl (h1 hw _ _ fun G' u w' hl' hs hu => ?_)
          exact wpAny_of_S hoL hos hC fuel _ _ G' _ w' (hl.trans hl') (hc.put hl' hs hd hu) hr
        · rw [if_neg hw]
          exact wpAny_of_S hoL hos hC fuel _ _ G _ w hl (hc.put (Gh.le.refl _) hc.st hd (h2 (by simpa using hw))) hr
theorem wpAnyS_same {md : Region.Mode} {L : Nat} {ds : List Nat} {QC : Fr → Prop} (hQC : ∀ fr fr' : Fr, (∀ s, fr'.get s = fr.get s) → QC fr → QC fr') : ∀ (fuel : Nat) (listed : Array Bool) (fr fr' : Fr), (∀ s, fr'.get s = fr.get s) → wpAnyS P T0 N md ops L ds QC M fuel listed fr → wpAnyS P T0 N md ops L ds QC M fuel listed fr'
  | 0, _, _, _, _, h => h
  | fuel + 1, listed, fr, fr', he, h => by
    refine ⟨h.1, fun i hi o ho => ?_⟩
    rcases h.2 i hi o ho with ⟨h1, h2, h3, h4⟩ | ⟨h1, hd, A, hy, hr⟩
    · exact .inl ⟨h1, h2, h3, hQC fr fr' he h4⟩
    · refine .inr ⟨h1, hd, A, hy.other (fun s _ => he s), wpAnyS_same hQC fuel _ _ _ (fun s => ?_) hr⟩
      cases hdst : o.dst with
      | none => exact he s
      | some d =>
        by_cases e : s = d
        · subst e; simp only [Fr.put, get_cons_same]
        · simp only [Fr.put, get_cons_ne e]; exact he s
/-- each operation ahead of L is one that a later one waits for, L at the latest -/
def lastS (L : Nat) (md : Region.Mode) (ops : Array Oper) : Bool := (List.range L).all fun i => (List.range (L + 1)).any fun k => decide (i < k) && (ops[k]?).any fun o => o.after.any fun e => Region.binds md e && e.on == i
theorem lastS_spec {L : Nat} {md : Region.Mode} (h : lastS L md ops = true) {i : Nat} (hi : i < L) : ∃ k o, i < k ∧ k ≤ L ∧ ops[k]? = some o ∧ ∃ e ∈ o.after, Region.binds md e = true ∧ e.on = i := by
  have := List.all_eq_true.1 h i (List.mem_range.2 hi)
  obtain ⟨k, hk, h2⟩ := List.any_eq_true.1 this
  simp only [Bool.and_eq_true, decide_eq_true_eq] at h2
  obtain ⟨h3, h4⟩ := h2
  cases ho : ops[k]? with
  | none => rw [ho] at h4; cases h4
  | some o =>
    rw [ho] at h4
    simp only [Option.any_some, Array.any_eq_true, Bool.and_eq_true, beq_iff_eq] at h4
    obtain ⟨n, hn, h5, h6⟩ := h4
    exact ⟨k, o, h3, by have := List.mem_range.1 hk; omega, ho, _, Array.getElem_mem hn, h5, h6⟩
theorem lastS_all {L : Nat} {md : Region.Mode} {listed : Array Bool} (hS : Shut md ops listed) (hlast : lastS L md ops = true) (hL : L ∈ Region.ready md ops listed) : ∀ n i, L - i = n → i < L → listed.getD i false = true := by
  intro n
  induction n using Nat.strongRecOn with
  | _ n ih =>
    intro i hn hi
    obtain ⟨k, o, h1, h2', h2, e, h3, h4, h5⟩ := lastS_spec hlast hi
    by_cases hkL : k = L
    · obtain ⟨_, o', ho', hall⟩ := mem_ready.1 hL
      rw [← hkL, h2] at ho'; obtain rfl := Option.some.inj ho'
      rw [← h5]; exact hall e h3 h4
    · have := ih (L - k) (by omega) k rfl (by omega)
      rw [← h5]; exact hS k o h2 this e h3 h4
theorem wpAnyS_first {md : Region.Mode} {L : Nat} {ds : List Nat} {QC : Fr → Prop} (hQC : ∀ fr fr' : Fr, (∀ s, fr'.get s = fr.get s) → QC fr → QC fr') (hlast : lastS L md ops = true) {i : Nat} {oi : Oper} {A : AV} (hi : ops[i]? = some oi) (hiL : i < L) (hdi : ∀ x, oi.dst = some x → x < N.n) :
    ∀ (fuel : Nat) (listed : Array Bool) (fr : Fr),
      (∀ j oj, ops[j]? = some oj → j ≠ i → listed.getD j true = false → (∀ e ∈ oj.after, Region.binds md e = true → e.on ≠ i) → oi.apart ops oj = true) →
      Shut md ops listed → i ∈ Region.ready md ops listed → QY P T0 ops oi fr M A →
      wpAnyS P T0 N md ops L ds QC M fuel (listed.setIfInBounds i true) (fr.put oi.dst A) → wpAnyS P T0 N md ops L ds QC M (fuel + 1) listed fr := by
  intro fuel
  induction fuel with
  | zero => intro listed fr _ _ hr hy H; exact H.elim
  | succ fuel ih =>
    intro listed fr hfree hS hr hy H
    refine ⟨fun h => (by rw [h] at hr; cases hr), fun j hj o ho => ?_⟩
    by_cases hji : j = i
    · subst hji; rw [hi] at ho; obtain rfl := Option.some.inj ho; exact .inr ⟨by omega, hdi, A, hy, H⟩
    · obtain ⟨hjun, oj, hoj, hall⟩ := mem_ready.1 hj
      rw [ho] at hoj; obtain rfl := Option.some.inj hoj
      have hnot : ∀ e ∈ o.after, Region.binds md e = true → e.on ≠ i := fun e he hb heq => by
        have h1 := hall e he hb
        rw [heq] at h1
        exact not_ready_of hr h1
      have hjL : j ≠ L := fun e => by
        subst e
        exact not_ready_of hr (lastS_all hS hlast hj _ i rfl hiL)
      rcases H.2 j (ready_mono hj hji) o ho with ⟨h1, _⟩ | ⟨_, hd, A', hy', hr'⟩
      · exact absurd h1 hjL
      obtain ⟨p1, p2, p3⟩ := Oper.apart_spec (hfree j o ho hji hjun hnot)
      have hfree' : ∀ k ok, ops[k]? = some ok → k ≠ i → (listed.setIfInBounds j true).getD k true = false →
          (∀ e ∈ ok.after, Region.binds md e = true → e.on ≠ i) → oi.apart ops ok = true := fun k ok hk hki hun hno => by
        refine hfree k ok hk hki ?_ hno
        by_cases hjk : j = k
        · subst hjk; exact hjun
        · rw [getD_set_ne true hjk] at hun; exact hun
      refine .inr ⟨hjL, hd, A', hy'.other (fun s hs => (get_put_ne fun x hx e => p1 x hx (e ▸ hs)).symm), ?_⟩
      refine ih (listed.setIfInBounds j true) _ hfree' (hS.put hj) (ready_mono hr (Ne.symm hji)) (hy.other fun s hs => get_put_ne fun x hx e => p3 x hx (e ▸ hs)) ?_
      rw [Array.setIfInBounds_comm _ _ hji]
      exact wpAnyS_same hQC fuel _ _ _ (fun s => put_put_get (fun x hx e => p2 x (by rw [← e]) hx |>.elim) s) hr'
def lexT (md : Region.Mode) (ops : Array Oper) (L : Nat) (ds : List Nat) : Nat → Nat → Array Bool → Bool
  | 0, _, listed => seqR md ops (L :: ds) listed
  | fuel + 1, k, listed => (Region.ready md ops listed).contains k && Region.free md ops listed k && lexT md ops L ds fuel (k + 1) (listed.setIfInBounds k true)
theorem wpAnyS_lex {md : Region.Mode} {L : Nat} {ds : List Nat} {QC : Fr → Prop} (hQC : ∀ fr fr' : Fr, (∀ s, fr'.get s = fr.get s) → QC fr → QC fr') (hlast : lastS L md ops = true) : ∀ (l : List Oper) (k : Nat) (listed : Array Bool) (fr : Fr), k + l.length ≤ L → (∀ j, j < l.length → l[j]? = ops[k + j]?) →
    lexT md ops L ds l.length k listed = true → Shut md ops listed → AQ P T0 N ops QC M l fr → wpAnyS P T0 N md ops L ds QC M (l.length + (ds.length + 1)) listed fr
  | [], k, listed, fr, _, _, hB, hS, h => by
    simp only [List.length_nil, lexT, seqR, Bool.and_eq_true] at hB
    obtain ⟨⟨b1, b2⟩, b3⟩ := hB
    have r1 : L ∈ Region.ready md ops listed := by simpa using b1
    rw [List.length_nil, Nat.zero_add]
    refine ⟨fun e => (by rw [e] at r1; cases r1), fun i hi oi hoi => ?_⟩
    obtain rfl := Nat.eq_of_beq_eq_true (List.all_eq_true.1 b2 i hi)
    exact .inl ⟨rfl, rfl, b3, h⟩
  | o :: l, k, listed, fr, hL, hl, hB, hS, h => by
    simp only [List.length_cons] at hL
    have h0 : ops[k]? = some o := by simpa using (hl 0 (by simp)).symm
    have hl' : ∀ j, j < l.length → l[j]? = ops[k + 1 + j]? := fun j hj => by have := hl (j + 1) (by simp; omega); simpa [Nat.add_assoc, Nat.add_comm 1 j] using this
    simp only [List.length_cons, lexT, Bool.and_eq_true] at hB
    obtain ⟨⟨hr, hf⟩, hB'⟩ := hB
    have hr' : k ∈ Region.ready md ops listed := by simpa using hr
    obtain ⟨hd, A, hy, hr2⟩ := h
    rw [List.length_cons, show l.length + 1 + (ds.length + 1) = (l.length + (ds.length + 1)) + 1 by omega]
    refine wpAnyS_first hQC hlast h0 (by omega) hd _ listed fr (Region.free_spec h0 hf) hS hr' hy ?_
    exact wpAnyS_lex hQC hlast l (k + 1) _ _ (by omega) hl' hB' (hS.put hr') hr2
def endT (P : Program) (T0 : Gh) (N : Fz) (ops : Array Oper) (os : List Oper) (Q : Post) : Post := fun e fr' M' => e = .normal ∧ AL P T0 N false ops Q os fr' M'
theorem endT_ {os : List Oper} {fr' : Fr} {M' : List Own} (h : AL P T0 N false ops Q os fr' M') : endT P T0 N ops os Q .normal fr' M' := ⟨rfl, h⟩
/-- numbers from a place on -/
def fromN : Nat → Nat → List Nat
  | 0, _ => []
  | n + 1, k => k :: fromN n (k + 1)
theorem fromN_get (l : List Oper) : ∀ (os : List Oper) (k : Nat), (∀ j, j < os.length → l[k + j]? = os[j]?) → (fromN os.length k).map (fun d => l.toArray[d]?) = os.map some
  | [], _, _ => rfl
  | o :: os, k, h => by
    have h0 := h 0 (by simp)
    simp only [List.length_cons, fromN, List.map_cons, List.cons.injEq]
    refine ⟨by simpa using h0, fromN_get l os (k + 1) fun j hj => ?_⟩
    have := h (j + 1) (by simp; omega)
    rw [show k + 1 + j = k + (j + 1) by omega, this]; simp
theorem fromN_len : ∀ n k, (fromN n k).length = n
  | 0, _ => rfl
  | n + 1, k => by simp [fromN, fromN_len n (k + 1)]
/-- n operations that draw their order, and behind them some that write -/
theorem aw_regionT {id : Nat} {l : List Oper} (n : Nat) {oL : Oper} {os : List Oper} (hs : l.drop n = oL :: os) (hD : lastS n .any l.toArray = true) (hB : lexT .any l.toArray n (fromN (l.length - (n + 1)) (n + 1)) n 0 (List.replicate l.length false).toArray = true) (hg : ((l.take n).all fun o => o.guard.isNone) = true) (hm : P.follows .mixedOrders = true)
    (h : AL P T0 N true nopOps (endT P T0 N l.toArray (oL :: os) Q) (l.take n) fr M) : AW P T0 N (.region id l.toArray true) Q fr M := fun w0 G F a w hc => by
  have h' : AQ2 P T0 N nopOps (fun fr' => endT P T0 N l.toArray (oL :: os) Q .normal fr' M) (fun o fr' => lastB .any nopOps = true ∧ AE P T0 N nopOps (endT P T0 N l.toArray (oL :: os) Q) [o] fr' M) M (l.take n) fr := by simpa [AL] using h
  rcases aq2_split _ _ h' with h1 | h1
  case inr => obtain ⟨_, _, _, hlast, _⟩ := aqb_some _ _ h1; rw [nopOps_last] at hlast; cases hlast
  have hlen : l.length = n + (os.length + 1) := by
    have := congrArg List.length hs
    simp only [List.length_drop, List.length_cons] at this; omega
  have hgd : ∀ j, l[n + j]? = (oL :: os)[j]? := fun j => by rw [← hs, List.getElem?_drop]
  have hoL : l.toArray[n]? = some oL := by simpa using hgd 0
  have hos : (fromN os.length (n + 1)).map (fun d => l.toArray[d]?) = os.map some := fromN_get l os (n + 1) fun j _ => by
    have := hgd (j + 1)
    rw [show n + 1 + j = n + (j + 1) by omega, this]; simp
  rw [show l.length - (n + 1) = os.length by omega] at hB
  have htl : (l.take n).length = n := by rw [List.length_take]; omega
  have h2 := aq_plain (ops := l.toArray) _ _ hg (aq_close _ _ h1)
  have h3 := wpAnyS_lex (md := .any) (L := n) (ds := fromN os.length (n + 1)) (QC := fun fr' => ∃ fr1, (∀ s, Fr.get fr' s = Fr.get fr1 s) ∧ endT P T0 N l.toArray (oL :: os) Q .normal fr1 M)
    (fun fr fr' he h => by obtain ⟨fr1, h1, h2⟩ := h; exact ⟨fr1, fun s => (he s).trans (h1 s), h2⟩) hD (l.take n) 0 (List.replicate l.length false).toArray fr (by omega)
    (fun j hj => by rw [htl] at hj; simp [List.getElem?_take, hj]) (by rw [htl]; exact hB) (by simpa using shut_none (md := .any) (ops := l.toArray) l.length) h2
  rw [htl, fromN_len, ← hlen] at h3
  refine wp_region_any hm ?_
  have es : Array.replicate l.toArray.size false = (List.replicate l.length false).toArray := by simp
  rw [es]
  refine wpAny_of_S (QC := fun fr' => ∃ fr1, (∀ s, Fr.get fr' s = Fr.get fr1 s) ∧ endT P T0 N l.toArray (oL :: os) Q .normal fr1 M) (G0 := G) (F := F) (w0 := w0) hoL hos ?_ _ _ fr G _ _ (Gh.le.refl _) ⟨hc.st.drew, hc.fr, hc.size, hc.defers⟩ (by simpa using h3)
  rintro fr' G' a' w' hl' ⟨fr1, he, _, hq⟩ hc'
  simp only [AL, Bool.false_eq_true, if_false] at hq
  exact wpList_mono (fun _ _ _ q => q.mono (fun _ _ _ h => h) hl') _ _ _ (hq w0 G' F a' w' ⟨hc'.st, fun s A hs e => hc'.fr s A hs (by rw [he s]; exact e), hc'.size, hc'.defers⟩)
end
end Go.Proofs.YtplabpjkkcillaaDoor
/- Layer 7 (term): the laws of moves, and of a grid that is filled. No condition. -/
namespace Go.Proofs.YtplabpjkkcillaaDoor
set_option linter.unusedSimpArgs false
set_option linter.unusedVariables false
set_option linter.unusedSectionVars false
set_option maxHeartbeats 4000000
open Go Go.RowKit
variable {T0 : Gh} [TabS T0] [TabU T0]
set_option maxRecDepth 200000
/-- a loop: of what is owned just this turns -/
theorem aw_lm {P : Program} {T0 : Gh} {N : Fz} {Q : Post} {fr : Fr} {M : List Own} {c : Code} {σ : Type} (d : σ → Fr) (ms : σ → List Own) (inv : σ → Prop) (μ : σ → Nat) (s0 : σ) (h0 : inv s0) (hm0 : List.Sublist (ms s0) M)
    (round : ∀ s, inv s → AW P T0 N c (thenA (fun fr' M' => ∃ s', inv s' ∧ μ s' < μ s ∧ Weak fr' (d s' ++ fr) ∧ List.Sublist (ms s') M') Q) (d s ++ fr) (ms s)) (hf0 : Weak fr (d s0) := by first | exact wk_ | fail) : AW P T0 N (.loop c) Q fr M :=
  aw_fl (fun s => d s ++ fr) ms inv μ s0 h0 (weak_in hf0) hm0 round
/-! ### plain: a grid is filled, sign by sign -/
theorem div_next {w i : Nat} (hw : 2 ≤ w) : (i % w = w - 1 → (i + 1) % w = 0 ∧ (i + 1) / w = i / w + 1) ∧ (i % w ≠ w - 1 → (i + 1) % w = i % w + 1 ∧ (i + 1) / w = i / w) := by
  have h1 := Nat.div_add_mod i w
  have h2 := Nat.mod_lt i (show 0 < w by omega)
  constructor
  · intro h
    have e : i + 1 = w * (i / w + 1) := by rw [Nat.mul_add, Nat.mul_one]; omega
    rw [e]
    exact ⟨Nat.mul_mod_right _ _, Nat.mul_div_cancel_left _ (by omega)⟩
  · intro h
    have e : i + 1 = w * (i / w) + (i % w + 1) := by omega
    constructor
    · rw [e, Nat.mul_add_mod, Nat.mod_eq_of_lt (by omega)]
    · rw [e, Nat.mul_add_div (by omega), Nat.div_eq_of_lt (show i % w + 1 < w by omega), Nat.add_zero]
/-- where the cursor is behind i signs of one cell -/
def curX (w i : Nat) : Int := if i = 0 then 0 else min (((i - 1) % w + 1 : Nat) : Int) ((w : Int) - 1)
def curY (w i : Nat) : Int := if i = 0 then 0 else ((i - 1) / w : Nat)
def curB (w i : Nat) : Bool := if i = 0 then false else decide ((i - 1) % w = w - 1)
theorem fill_step {w h i m q : Nat} {l : List Cell} {r : Int} (hw : 2 ≤ w ∧ w ≤ 80) (hh : 1 ≤ h ∧ h ≤ 24) (hi : i < w * h) (em : i % w = m) (eq : i / w = q) (hok : okG w h l = true) (hs : shown r = true) (hk : (cellsM r).length = 1) :
    okT w h l (curX w i) (curY w i) (curB w i) = true ∧ ∃ l', putR w h l m q r = (((w : Int), (h : Int), l'), 0) ∧ okG w h l' = true ∧ textK w h l (curX w i) (curY w i) (curB w i) r = ((w : Int), (h : Int), l', curX w (i + 1), curY w (i + 1), curB w (i + 1)) := by
  have hm : m < w := by rw [← em]; exact Nat.mod_lt i (by omega)
  have hd : q < h := by rw [← eq]; exact Nat.div_lt_of_lt_mul hi
  obtain ⟨e1, e2⟩ := putR_shown (x := (m : Int)) (y := (q : Int)) hok ⟨by omega, by omega⟩ ⟨by omega, by omega⟩ hs (by rw [hk]; omega)
  obtain ⟨l', hl'⟩ : ∃ z, z = layG l ((q : Int).toNat * (w : Int).toNat + (m : Int).toNat) (cellsM r) := ⟨_, rfl⟩
  rw [← hl'] at e1 e2
  have hX : curX w (i + 1) = min ((m + 1 : Nat) : Int) ((w : Int) - 1) := by rw [curX, if_neg (by omega), Nat.add_sub_cancel, em]
  have hY : curY w (i + 1) = (q : Int) := by rw [curY, if_neg (by omega), Nat.add_sub_cancel, eq]
  have hB : curB w (i + 1) = decide (m = w - 1) := by rw [curB, if_neg (by omega), Nat.add_sub_cancel, em]
  have fin : textAt w h l m q r = ((w : Int), (h : Int), l', curX w (i + 1), curY w (i + 1), curB w (i + 1)) := by
    rw [textAt, e1, hk, hX, hY, hB]
    have a1 : inM ((m : Int) + ((1 : Nat) : Int)) ((w : Int) - 1) = min ((m + 1 : Nat) : Int) ((w : Int) - 1) := by unfold inM; omega
    have a2 : decide ((m : Int) + ((1 : Nat) : Int) = (w : Int)) = decide (m = w - 1) := by
      rw [Bool.eq_iff_iff, decide_eq_true_eq, decide_eq_true_eq]; omega
    rw [a1, a2]
  by_cases h0 : i = 0
  · subst h0
    have m0 : m = 0 := by rw [← em]; exact Nat.zero_mod w
    have q0 : q = 0 := by rw [← eq]; exact Nat.zero_div w
    subst m0 q0
    refine ⟨okT_iff.2 ⟨hok, ⟨by simp [curX], by simp only [curX, if_true]; omega, by simp [curY], by simp only [curY, if_true]; omega⟩, fun h => by simp [curB] at h⟩, l', e1, e2, ?_⟩
    rw [textK, if_neg (by simp [curB, curX, hk]; omega)]
    exact fin
  · obtain ⟨j, rfl⟩ : ∃ j, i = j + 1 := ⟨i - 1, by omega⟩
    obtain ⟨d1, d2⟩ := div_next (i := j) hw.1
    have hjm := Nat.mod_lt j (show 0 < w by omega)
    obtain ⟨m', em'⟩ : ∃ m', j % w = m' := ⟨_, rfl⟩
    obtain ⟨q', eq'⟩ : ∃ q', j / w = q' := ⟨_, rfl⟩
    rw [em', eq', em, eq] at d1 d2
    rw [em'] at hjm
    have cX : curX w (j + 1) = min ((m' + 1 : Nat) : Int) ((w : Int) - 1) := by rw [curX, if_neg (by omega), Nat.add_sub_cancel, em']
    have cY : curY w (j + 1) = (q' : Int) := by rw [curY, if_neg (by omega), Nat.add_sub_cancel, eq']
    have cB : curB w (j + 1) = decide (m' = w - 1) := by rw [curB, if_neg (by omega), Nat.add_sub_cancel, em']
    by_cases hj : m' = w - 1
    · obtain ⟨m1, m2⟩ := d1 hj
      subst m1 m2
      refine ⟨okT_iff.2 ⟨hok, ⟨by rw [cX]; omega, by rw [cX]; omega, by rw [cY]; omega, by rw [cY]; omega⟩, fun _ => by rw [cX]; omega⟩, l', e1, e2, ?_⟩
      rw [textK, if_pos (.inl (by rw [cB]; exact decide_eq_true hj)), cY, downL, if_neg (by omega)]
      exact fin
    · obtain ⟨m1, m2⟩ := d2 hj
      have hX2 : curX w (j + 1) = (m : Int) := by rw [cX, m1]; omega
      have hY2 : curY w (j + 1) = (q : Int) := by rw [cY, m2]
      refine ⟨okT_iff.2 ⟨hok, ⟨by rw [hX2]; omega, by rw [hX2]; omega, by rw [hY2]; omega, by rw [hY2]; omega⟩, fun h => by rw [cB] at h; exact absurd (of_decide_eq_true h) hj⟩, l', e1, e2, ?_⟩
      rw [textK, if_neg (by rw [cB, hX2, hk, decide_eq_false hj]; simp; omega), hX2, hY2]
      exact fin
attribute [local irreducible] thenA inBlockA AW AL AO QY varO rowO rsA Opd OpdN vA gvA tupA aggA slA slcA ipA rpA EqK LnK IxK LdK FaK FdK
theorem l_TermMovesK (w h : Int) (l : List Cell) (x y : Int) (b : Bool) (k a d r : Int) : AP Tryd.prog T0 14 [termA w h l x y b, aggA [I k, I a, I d, R r]] (B true) := by
  have c3 : True := trivial
  have c4 : True := trivial
  have c1 := f_termDo (T0 := T0) w h l x y b (k, a, d, r)
  by_cases hh : okT w h l x y b = true ∧ isCmd (k, a, d, r) = true
  · obtain ⟨hok, hc⟩ := hh
    obtain ⟨h1, ⟨h2, h3, h4, h5⟩, h6⟩ := okT_iff.1 hok
    have hg := okG_len h1
    by_cases hm : (3 ≤ k ∧ k ≤ 6) ∨ k = 9 ∨ k = 11 ∨ (k = 10 ∧ y < h - 1)
    · obtain ⟨X, Y, e1, e2⟩ := move_go hok hc hm
      have c2 := f_termDo (T0 := T0) w h l x y b (2, Y, X, 0)
      rw [e1] at c1
      rw [e2] at c2
      refine af_intro Tryd.func14 rfl (by decide) Tryd.ntmps14 rfl ?_
      repeat' (first
      | fail
      | refine s_y ?_
        | refine c_ ?_
        | (refine aw_if ?_ ?_ <;> intro hb <;> try (exfalso; first | assumption | omega | (simp only [or_self, and_self, not_true_eq_false, not_false_eq_true, or_false, false_or, and_false, false_and, true_and, and_true] at hb; first | done | omega)))
        | refine s_call ?_ (c := by first | exact f_fed | exact f_big07 _ _ _ _ _ _ | exact c1 | exact c2 | exact c3 | exact c4 | exact f_ref07Same _ _ _ _ _ _ _ _ _ _ _ _ | exact f_ref03Same _ _ _ _ _ _ | fail)
        | refine s_op ?_ (hy := by first | (apply ay_subw rfl; exact oog_; exact oog_; done) | fail)
        | refine s_yg ?_
        | refine s_callg ?_ (c := by intro hk hk2; first | exact f_fed | exact f_big07 _ _ _ _ _ _ | exact c1 | exact c2 | exact c3 | exact c4 | exact f_ref07Same _ _ _ _ _ _ _ _ _ _ _ _ | exact f_ref03Same _ _ _ _ _ _ | fail)
        | refine s_opg ?_ (hy := by intro hk hk2; first | (apply ay_subw rfl; exact oog_; exact oog_; done) | fail)
        | refine s_skip ?_
        | ((first | refine w_alloc ?_ | refine w_box ?_) <;> intro bb)
        | ((first | refine w_emp ?_ | refine w_make ?_ | refine w_app ?_) <;> intro u hu1 hu2)
        | refine w_stv ?_ | refine w_str ?_ | refine w_cpr ?_ | refine w_cps ?_
        | refine al_last (by kernel_rfl) ?_
      | fail)
      all_goals first | (exfalso; omega) | (exfalso; simp at hb; done) | exact ⟨_, [], rl_, List.nil_sublist _, Sub.refl _, rfl⟩ | exact ⟨_, [], rl_, List.nil_sublist _, Sub.eq (congrArg B (by simp)), rfl⟩
    · have c2 : True := trivial
      have e : (doT (w, h, l, x, y, b) (k, a, d, r)).2 = 0 := by rw [doT_ok hok hc]
      obtain ⟨⟨⟨w1, h1', l1, x1, y1, b1⟩, e1⟩, hz1⟩ : ∃ z, z = doT (w, h, l, x, y, b) (k, a, d, r) := ⟨_, rfl⟩
      rw [← hz1] at c1 e
      simp only at c1 e
      subst e
      clear hz1
      refine af_intro Tryd.func14 rfl (by decide) Tryd.ntmps14 rfl ?_
      repeat' (first
      | fail
      | refine s_y ?_
        | refine c_ ?_
        | (refine aw_if ?_ ?_ <;> intro hb <;> try (exfalso; first | assumption | omega | (simp only [or_self, and_self, not_true_eq_false, not_false_eq_true, or_false, false_or, and_false, false_and, true_and, and_true] at hb; first | done | omega)))
        | refine s_call ?_ (c := by first | exact f_fed | exact f_big07 _ _ _ _ _ _ | exact c1 | exact c2 | exact c3 | exact c4 | exact f_ref07Same _ _ _ _ _ _ _ _ _ _ _ _ | exact f_ref03Same _ _ _ _ _ _ | fail)
        | refine s_op ?_ (hy := by first | (apply ay_subw rfl; exact oog_; exact oog_; done) | fail)
        | refine s_yg ?_
        | refine s_callg ?_ (c := by intro hk hk2; first | exact f_fed | exact f_big07 _ _ _ _ _ _ | exact c1 | exact c2 | exact c3 | exact c4 | exact f_ref07Same _ _ _ _ _ _ _ _ _ _ _ _ | exact f_ref03Same _ _ _ _ _ _ | fail)
        | refine s_opg ?_ (hy := by intro hk hk2; first | (apply ay_subw rfl; exact oog_; exact oog_; done) | fail)
        | refine s_skip ?_
        | ((first | refine w_alloc ?_ | refine w_box ?_) <;> intro bb)
        | ((first | refine w_emp ?_ | refine w_make ?_ | refine w_app ?_) <;> intro u hu1 hu2)
        | refine w_stv ?_ | refine w_str ?_ | refine w_cpr ?_ | refine w_cps ?_
        | refine al_last (by kernel_rfl) ?_
      | fail)
      all_goals first | (exfalso; omega) | (exfalso; simp at hb; done) | exact ⟨_, [], rl_, List.nil_sublist _, Sub.refl _, rfl⟩ | exact ⟨_, [], rl_, List.nil_sublist _, Sub.eq (congrArg B (by simp)), rfl⟩
  · rw [doT_no hh] at c1
    have c2 : True := trivial
    refine af_intro Tryd.func14 rfl (by decide) Tryd.ntmps14 rfl ?_
    repeat' (first
    | fail
    | refine s_y ?_
      | refine c_ ?_
      | (refine aw_if ?_ ?_ <;> intro hb <;> try (exfalso; first | assumption | omega | (simp only [or_self, and_self, not_true_eq_false, not_false_eq_true, or_false, false_or, and_false, false_and, true_and, and_true] at hb; first | done | omega)))
      | refine s_call ?_ (c := by first | exact f_fed | exact f_big07 _ _ _ _ _ _ | exact c1 | exact c2 | exact c3 | exact c4 | exact f_ref07Same _ _ _ _ _ _ _ _ _ _ _ _ | exact f_ref03Same _ _ _ _ _ _ | fail)
      | refine s_op ?_ (hy := by first | (apply ay_subw rfl; exact oog_; exact oog_; done) | fail)
      | refine s_yg ?_
      | refine s_callg ?_ (c := by intro hk hk2; first | exact f_fed | exact f_big07 _ _ _ _ _ _ | exact c1 | exact c2 | exact c3 | exact c4 | exact f_ref07Same _ _ _ _ _ _ _ _ _ _ _ _ | exact f_ref03Same _ _ _ _ _ _ | fail)
      | refine s_opg ?_ (hy := by intro hk hk2; first | (apply ay_subw rfl; exact oog_; exact oog_; done) | fail)
      | refine s_skip ?_
      | ((first | refine w_alloc ?_ | refine w_box ?_) <;> intro bb)
      | ((first | refine w_emp ?_ | refine w_make ?_ | refine w_app ?_) <;> intro u hu1 hu2)
      | refine w_stv ?_ | refine w_str ?_ | refine w_cpr ?_ | refine w_cps ?_
      | refine al_last (by kernel_rfl) ?_
    | fail)
    all_goals first | (exfalso; omega) | (exfalso; simp at hb; done) | exact ⟨_, [], rl_, List.nil_sublist _, Sub.refl _, rfl⟩ | exact ⟨_, [], rl_, List.nil_sublist _, Sub.eq (congrArg B (by simp)), rfl⟩
theorem l_TermMoves (w h : Int) (l : List Cell) (x y : Int) (b : Bool) (c : Cmd) : AP Tryd.prog T0 14 [termA w h l x y b, cmdA c] (B true) := l_TermMovesK w h l x y b c.1 c.2.1 c.2.2.1 c.2.2.2
end Go.Proofs.YtplabpjkkcillaaDoor
