/- Layer 27 (belief): a new belief, one of its own, blanks, by the program. No condition. -/
import Derived.Test.YtgfmjmfphmjdkaaGreatDoorQ3B1
import Derived.Test.YtgfmjmfphmjdkaaGreatDoorQ3BR
namespace Go.Proofs.YtgfmjmfphmjdkaaGreatDoor
set_option linter.unusedSimpArgs false
set_option linter.unusedVariables false
set_option linter.unusedSectionVars false
set_option maxHeartbeats 4000000
open Go Go.RowKit
set_option maxRecDepth 100000
theorem sub_nilB : Sub (vA (.slice none 0 0)) (slA guT []) := fun _ _ h => by
  rw [h.eq]; exact .of ⟨none, 0, 0, rfl, rfl, Nat.le_refl _, Nat.zero_le _, fun _ => rfl, fun h => absurd rfl h⟩
variable {T0 : Gh} [TabS T0]
attribute [local irreducible] thenA inBlockA AW AL AO QY varO rowO rsA Opd OpdN vA gvA tupA aggA slA slcA ipA rpA EqK LnK IxK LdK FaK FdK
theorem f_beOwn (w h : Int) (l : List Guess) (x y : Int) (b s : Bool) (hl : l.length ≤ 100000) : AF Tryz.prog T0 67 [belA w h l x y b s] [] (fun A M' => ∃ u, A = aggA [I w, I h, vA u, I x, I y, B b, B s] ∧ M' = [rowO guT 96 u l]) := by
  refine af_intro Tryz.func67 rfl (by decide) Tryz.ntmps67 rfl ?_
  repeat' (first
  | refine g6_ ?_ | (refine aw_if ?_ ?_ <;> intro hb <;> try exact no_) | (refine sx_ ?_ <;> intro bb) | (refine su_ ?_ <;> intro u hu1 hu2) | fail)
  refine ⟨_, _, rs_, (List.Sublist.cons_cons _ (List.nil_sublist _)), u, rfl, ?_⟩
  rw [List.length_replicate, List.take_length, show ovr (List.replicate l.length gZero) 0 l = l by simp [ovr]]
theorem f_changes (k : Int) : AP Tryz.prog T0 66 [I k] (B (chg k)) := by
  refine af_intro Tryz.func66 rfl (by decide) Tryz.ntmps66 rfl ?_
  repeat' (first
  | refine g6_ ?_ | (refine aw_if ?_ ?_ <;> intro hb <;> try exact no_) | (refine sx_ ?_ <;> intro bb) | (refine su_ ?_ <;> intro u hu1 hu2) | fail)
  refine ⟨_, [], rl_, List.nil_sublist _, Sub.eq (congrArg B ?_), rfl⟩
  simp [chg]
theorem f_beNewO (w h : Nat) (h1 : 2 ≤ w) (h2 : w ≤ 80) (h3 : 1 ≤ h) (h4 : h ≤ 24) : AF Tryz.prog T0 60 [I w, I h] [] (fun A M' => ∃ u, A = tupA [aggA [I w, I h, vA u, I 0, I 0, B false, B false], I 0] ∧ M' = [rowO guT 96 u (List.replicate (w * h) gZero)]) := by
  have hb := side_le h2 h4
  have hnn : (0 : Int) ≤ ((w * h : Nat) : Int) := Int.natCast_nonneg _
  have c1 : AP Tryz.prog T0 114 [I w, I h] (tupA [gridA w h (List.replicate (w * h) (32, 0)), I 0]) := (f_New w h).to (by rw [newR, if_pos (by simp [sidesM]; omega)]; rfl)
  generalize List.replicate (w * h) ((32, 0) : Cell) = g0 at *
  refine af_intro Tryz.func60 rfl (by decide) Tryz.ntmps60 rfl ?_
  repeat' (first
  | refine g10_ ?_ | (refine aw_if ?_ ?_ <;> intro hb <;> try exact no_) | (refine sx_ ?_ <;> intro bb) | (refine su_ ?_ <;> intro u hu1 hu2) | fail)
  all_goals first | exact e1_ | skip
  exact ⟨_, _, rl_, sl_, u, rfl, rfl⟩
theorem f_beNew (w h : Int) : AP Tryz.prog T0 60 [I w, I h] (tupA [blA (newB w h).1, I (newB w h).2]) := by
  by_cases hs : sidesM w h = true
  · obtain ⟨w, h, rfl, rfl, h1, h2, h3, h4⟩ := sides_nat hs
    have := (f_beNewO (T0 := T0) w h h1 h2 h3 h4).frz1 fza_
    rw [newB, if_pos hs]
    simpa only [Int.toNat_natCast] using this
  · have c1 : AP Tryz.prog T0 114 [I w, I h] (tupA [gridA 0 0 [], I 4]) := (f_New w h).to (by simp only [newR, hs, grid2]; rfl)
    rw [newB, if_neg hs]
    refine af_intro Tryz.func60 rfl (by decide) Tryz.ntmps60 rfl ?_
    repeat' (first
    | refine g10_ ?_ | (refine aw_if ?_ ?_ <;> intro hb <;> try exact no_) | (refine sx_ ?_ <;> intro bb) | (refine su_ ?_ <;> intro u hu1 hu2) | fail)
    all_goals first | (exfalso; omega) | exact ⟨_, [], rl_, List.nil_sublist _, Sub.refl _, rfl⟩ | exact ⟨_, [], rl_, List.nil_sublist _, sub_tup (subl1 (sub_agg (subl1 (Sub.refl _) (subl1 (Sub.refl _) (subl1 sub_nilB (subl1 (Sub.refl _) (subl1 (Sub.refl _) (subl1 (Sub.refl _) (subl1 (Sub.refl _) subl0)))))))) (subl1 (Sub.refl _) subl0)), rfl⟩ | skip
end Go.Proofs.YtgfmjmfphmjdkaaGreatDoor
