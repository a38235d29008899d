/- Layer 28 (motion): the examples, and the laws. No condition. -/
import Derived.Test.YtockidoncngdbaaDoorQ0O3
import Derived.Test.YtockidoncngdbaaDoorQ0O4
import Derived.Test.YtockidoncngdbaaDoorQ0BE
import Derived.Test.YtockidoncngdbaaDoorQ0H7
namespace Go.Proofs.YtockidoncngdbaaDoor
set_option linter.unusedSimpArgs false
set_option linter.unusedVariables false
set_option linter.unusedSectionVars false
set_option maxHeartbeats 4000000
open Go Go.RowKit
set_option maxRecDepth 100000
variable {T0 : Gh} [TabS T0]
attribute [local irreducible] thenA inBlockA AW AL AO QY varO rowO rsA Opd OpdN vA gvA tupA aggA slA slcA ipA rpA EqK LnK IxK LdK FaK FdK
def at43 (x y : Int) (b : Bool) : Bel := (4, 3, List.replicate 12 gZero, x, y, b, true)
theorem f_at (x y : Int) (b : Bool) : AP Tryd.prog T0 43 [I x, I y, B b] (blA (at43 x y b)) := by
  have c1 : AP Tryd.prog T0 21 [I 4, I 3] (tupA [belA 4 3 (List.replicate 12 gZero) 0 0 false false, I 0]) := (f_beNew 4 3).to (by rw [newB, if_pos (by decide)]; rfl)
  show AP _ _ _ _ (belA 4 3 (List.replicate 12 gZero) x y b true)
  generalize List.replicate 12 gZero = L at *
  refine af_intro Tryd.func43 rfl (by decide) Tryd.ntmps43 rfl ?_
  repeat' (first
  | fail
  | refine s_y ?_
    | refine c_ ?_
    | (refine aw_if ?_ ?_ <;> intro hb <;> try (exfalso; first | assumption | omega | (simp only [or_self, and_self, not_true_eq_false, not_false_eq_true, or_false, false_or, and_false, false_and, true_and, and_true] at hb; first | done | omega)))
    | refine s_call ?_ (c := by first | exact c1 | fail)
    | refine s_op ?_ (hy := by first | fail | fail)
    | refine s_yg ?_
    | refine s_callg ?_ (c := by intro hk hk2; first | exact c1 | fail)
    | refine s_opg ?_ (hy := by intro hk hk2; first | fail | fail)
    | refine s_skip ?_
    | ((first | refine w_alloc ?_ | refine w_box ?_) <;> intro bb)
    | ((first | refine w_emp ?_ | refine w_make ?_ | refine w_app ?_) <;> intro u hu1 hu2)
    | refine w_stv ?_ | refine w_str ?_ | refine w_cpr ?_ | refine w_cps ?_
    | refine al_last (by kernel_rfl) ?_
  | fail)
  exact ⟨_, [], rl_, List.nil_sublist _, Sub.refl _, rfl⟩
theorem at_ok {x y : Int} {b : Bool} (hx : 0 ≤ x ∧ x < 4) (hy : 0 ≤ y ∧ y < 3) (hb : b = true → x = 3) : okBe 4 3 (List.replicate 12 gZero) x y b true = true :=
  okBe_iff.2 ⟨4, 3, rfl, rfl, by decide, by decide, by decide, by decide, by simp, rep_ok 4 12, fun _ => ⟨hx.1, by omega, hy.1, by omega, fun z => by have := hb z; omega⟩, fun z => by cases z⟩
theorem next_at {x y X Y : Int} {b : Bool} {c : Cmd × Int} (hx : 0 ≤ x ∧ x < 4) (hy : 0 ≤ y ∧ y < 3) (hb : b = true → x = 3) (hc : (if ¬ (0 ≤ X ∧ X < 4 ∧ 0 ≤ Y ∧ Y < 3) then ((0, 0, 0, 0), 1) else if x = X ∧ y = Y ∧ b = false then ((0, 0, 0, 0), 7) else (bestM (movesM 3 x y X Y) (goC X Y), 0)) = c) : nextMo (4, 3, List.replicate 12 gZero, x, y, b, true) X Y = c := by
  rw [← hc]
  have h1 := at_ok hx hy hb
  by_cases h : 0 ≤ X ∧ X < 4 ∧ 0 ≤ Y ∧ Y < 3
  · rw [if_neg (fun z => z h)]
    by_cases ht : x = X ∧ y = Y ∧ b = false
    · rw [if_pos ht, nextMo, if_neg (fun z => z ⟨h1, h⟩), if_neg (fun z => absurd (show true = false from z) (by decide)), if_pos ht]
    · rw [if_neg ht, nextMo, if_neg (fun z => z ⟨h1, h⟩), if_neg (fun z => absurd (show true = false from z) (by decide)), if_neg ht]
  · rw [if_pos h, nextMo, if_pos (fun z => h z.2)]
theorem f_nextAt {x y X Y : Int} {b : Bool} (c : Cmd) (e : Int) (hx : 0 ≤ x ∧ x < 4) (hy : 0 ≤ y ∧ y < 3) (hb : b = true → x = 3) (hc : (if ¬ (0 ≤ X ∧ X < 4 ∧ 0 ≤ Y ∧ Y < 3) then ((0, 0, 0, 0), 1) else if x = X ∧ y = Y ∧ b = false then ((0, 0, 0, 0), 7) else (bestM (movesM 3 x y X Y) (goC X Y), 0)) = (c, e)) : AP Tryd.prog T0 12 [belA 4 3 (List.replicate 12 gZero) x y b true, I X, I Y] (tupA [cmdA c, I e]) :=
  (f_moNext 4 3 (List.replicate 12 gZero) x y b true X Y).to (by rw [next_at hx hy hb hc])
theorem f_led : AP Tryd.prog T0 14 [] (B true) := by
  have c1 := f_nextAt (T0 := T0) (x := 2) (y := 1) (b := false) (X := 0) (Y := 1) (9, 0, 0, 0) 0 (by decide) (by decide) (by decide) (by decide +kernel)
  have c2 := f_nextAt (T0 := T0) (x := 2) (y := 1) (b := false) (X := 2) (Y := 2) (10, 0, 0, 0) 0 (by decide) (by decide) (by decide) (by decide +kernel)
  have c3 := f_nextAt (T0 := T0) (x := 2) (y := 2) (b := false) (X := 2) (Y := 0) (3, 2, 0, 0) 0 (by decide) (by decide) (by decide) (by decide +kernel)
  have c4 := f_nextAt (T0 := T0) (x := 2) (y := 2) (b := false) (X := 1) (Y := 0) (2, 0, 1, 0) 0 (by decide) (by decide) (by decide) (by decide +kernel)
  have c5 := f_nextAt (T0 := T0) (x := 3) (y := 1) (b := true) (X := 3) (Y := 1) (5, 1, 0, 0) 0 (by decide) (by decide) (by decide) (by decide +kernel)
  have c6 := f_nextAt (T0 := T0) (x := 3) (y := 1) (b := false) (X := 3) (Y := 1) (0, 0, 0, 0) 7 (by decide) (by decide) (by decide) (by decide +kernel)
  have c7 := f_nextAt (T0 := T0) (x := 3) (y := 1) (b := false) (X := 4) (Y := 1) (0, 0, 0, 0) 1 (by decide) (by decide) (by decide) (by decide +kernel)
  have c8 := fun x y b => f_at (T0 := T0) x y b
  simp only [at43] at c8
  generalize List.replicate 12 gZero = L at *
  refine af_intro Tryd.func14 rfl (by decide) Tryd.ntmps14 rfl ?_
  repeat' (first
  | fail
  | refine s_y ?_
    | refine c_ ?_
    | (refine aw_if ?_ ?_ <;> intro hb <;> try (exfalso; first | assumption | omega | (simp only [or_self, and_self, not_true_eq_false, not_false_eq_true, or_false, false_or, and_false, false_and, true_and, and_true] at hb; first | done | omega)))
    | refine s_call ?_ (c := by first | exact c1 | exact c2 | exact c3 | exact c4 | exact c5 | exact c6 | exact c7 | exact c8 _ _ _ | fail)
    | refine s_op ?_ (hy := by first | fail | fail)
    | refine s_yg ?_
    | refine s_callg ?_ (c := by intro hk hk2; first | exact c1 | exact c2 | exact c3 | exact c4 | exact c5 | exact c6 | exact c7 | exact c8 _ _ _ | fail)
    | refine s_opg ?_ (hy := by intro hk hk2; first | fail | fail)
    | refine s_skip ?_
    | ((first | refine w_alloc ?_ | refine w_box ?_) <;> intro bb)
    | ((first | refine w_emp ?_ | refine w_make ?_ | refine w_app ?_) <;> intro u hu1 hu2)
    | refine w_stv ?_ | refine w_str ?_ | refine w_cpr ?_ | refine w_cps ?_
    | refine al_last (by kernel_rfl) ?_
  | fail)
  exact ⟨_, [], rl_, List.nil_sublist _, Sub.eq (congrArg B (by decide)), rfl⟩
end Go.Proofs.YtockidoncngdbaaDoor
