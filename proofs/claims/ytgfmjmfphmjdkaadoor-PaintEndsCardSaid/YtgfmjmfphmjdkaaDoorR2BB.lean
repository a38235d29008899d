/- Layer 27 (belief): Do, by the program. No condition. -/
import Derived.Test.YtgfmjmfphmjdkaaDoorR2BC
import Derived.Test.YtgfmjmfphmjdkaaDoorR2B1
namespace Go.Proofs.YtgfmjmfphmjdkaaDoor
set_option linter.unusedSimpArgs false
set_option linter.unusedVariables false
set_option linter.unusedSectionVars false
set_option maxHeartbeats 4000000
open Go Go.RowKit
set_option maxRecDepth 100000
variable {T0 : Gh} [TabS T0]
theorem sub_noB {n : Int} : Sub (tupA [aggA [I 0, I 0, vA (.slice none 0 0), I 0, I 0, B false, B false], I n]) (tupA [blA noB, I n]) := sub_tup (subl1 (sub_agg (subl1 (Sub.refl _) (subl1 (Sub.refl _) (subl1 sub_nilB (subl1 (Sub.refl _) (subl1 (Sub.refl _) (subl1 (Sub.refl _) (subl1 (Sub.refl _) subl0)))))))) (subl1 (Sub.refl _) subl0))
abbrev DoAF (T0 : Gh) (w h : Int) (l : List Guess) (x y : Int) (b s : Bool) (c : Cmd) (X Y : Int) (B' : Bool) (L : List Guess) : Prop :=
  AF Tryd.prog T0 8 [belA w h l x y b s, cmdA c] [] (fun A M' => ∃ u, A = tupA [aggA [I w, I h, vA u, I X, I Y, B B', B true], I 0] ∧ M' = [gsO u L])
/-- what is told of a cursor that is led by numbers -/
theorem f_beDoC {w h : Int} {l : List Guess} {x y : Int} {b s : Bool} {c : Cmd} {X Y X' Y' : Int} {B' : Bool} {L : List Guess} (k : DoAF T0 w h l x y b s c X Y B' L) (hX : X = X') (hY : Y = Y') : DoAF T0 w h l x y b s c X' Y' B' L := by subst hX hY; exact k
theorem go_ok2 {a d : Int} (h1 : 0 ≤ a ∧ a < 24) (h2 : 0 ≤ d ∧ d < 80) : isCmd (2, a, d, 0) = true := by simp [isCmd]; omega
attribute [local irreducible] thenA inBlockA AW AL AO QY varO rowO rsA Opd OpdN vA gvA tupA aggA slA slcA ipA rpA EqK LnK IxK LdK FaK FdK
section
variable {w h : Int} {l : List Guess} {x y : Int} {b : Bool} (h1 : okBe w h l x y b true = true)
include h1
theorem f_beDoUp (k a : Int) (hk : k = 3 ∨ k = 4 ∨ k = 5 ∨ k = 6) (ha : 1 ≤ a ∧ a ≤ 80) : DoAF T0 w h l x y b true (k, a, 0, 0) (inM (if k = 5 then x + a else if k = 6 then x - a else x) (w - 1)) (inM (if k = 3 then y - a else if k = 4 then y + a else y) (h - 1)) false l := by
  obtain ⟨hw, hx, hl, hl2, hm, hg, hl3⟩ := be_facts h1
  have c1 : AP Tryd.prog T0 21 [belA w h l x y b true] (B true) := (f_beIs w h l x y b true).to (by rw [h1])
  have c2 : AP Tryd.prog T0 22 [cmdA (k, a, 0, 0)] (B true) := (f_vtIs (k, a, 0, 0)).to (by rw [up_ok hk ha])
  have co := f_beOwn (T0 := T0) w h l x y b true (by omega)
  have c3 : True := trivial
  have ct : True := trivial
  have cl : True := trivial
  rcases hk with rfl | rfl | rfl | rfl
  · replace c2 : AP Tryd.prog T0 22 [aggA [I 3, I a, I 0, R 0]] (B true) := c2
    show DoAF T0 w h l x y b true (3, a, 0, 0) (inM x (w - 1)) (inM (y - a) (h - 1)) false l
    show AF _ _ _ [_, aggA [I 3, I a, I 0, R 0]] _ _
    refine af_intro Tryd.func8 rfl (by decide) Tryd.ntmps8 rfl ?_
    repeat' (first
    | (apply al_call0 rfl rfl rfl rfl (c := co)
       case ha => exact os_
       rintro _ _ ⟨u, rfl, rfl⟩; refine al_rowc (List.Mem.head _) fun hu1 hu2 => ?_)
      | (apply al_call2 rfl rfl rfl rfl (c := ct _ _)
         case ha => exact os_
         case hM => exact pick_
         case hM2 => exact pick_
         rintro _ _ rfl
         simp only [List.cons_append, List.nil_append, List.append_eq])
      | (apply al_call1 rfl rfl rfl rfl (c := cl _)
         case ha => exact os_
         case hM => exact pick_
         rintro _ _ rfl
         simp only [List.cons_append, List.nil_append, List.append_eq])
    | refine g34_ ?_
      | refine s_op ?_ (hy := by first | (apply ay_nilp rfl; exact oo_; done) | (apply ay_nilp rfl; exact oog_; done)
                                         | (apply ay_maxi rfl; exact oo_; exact oo_) | (apply ay_mini rfl; exact oo_; exact oo_) | fail)
    | refine g35_ ?_
      | refine s_opg ?_ (hy := by intro hk hk2; first | (apply ay_nilp rfl; exact oo_; done) | (apply ay_nilp rfl; exact oog_; done)
                                                        | (apply ay_maxi rfl; exact oo_; exact oo_) | (apply ay_mini rfl; exact oo_; exact oo_) | fail)
    | refine sw_ ?_ | (refine aw_if ?_ ?_ <;> intro hb <;> try exact no_) | (refine sx_ ?_ <;> intro bb) | (refine su_ ?_ <;> intro u hu1 hu2) | fail)
    all_goals first | exact e4_ | skip
  · replace c2 : AP Tryd.prog T0 22 [aggA [I 4, I a, I 0, R 0]] (B true) := c2
    show DoAF T0 w h l x y b true (4, a, 0, 0) (inM x (w - 1)) (inM (y + a) (h - 1)) false l
    show AF _ _ _ [_, aggA [I 4, I a, I 0, R 0]] _ _
    refine af_intro Tryd.func8 rfl (by decide) Tryd.ntmps8 rfl ?_
    repeat' (first
    | (apply al_call0 rfl rfl rfl rfl (c := co)
       case ha => exact os_
       rintro _ _ ⟨u, rfl, rfl⟩; refine al_rowc (List.Mem.head _) fun hu1 hu2 => ?_)
      | (apply al_call2 rfl rfl rfl rfl (c := ct _ _)
         case ha => exact os_
         case hM => exact pick_
         case hM2 => exact pick_
         rintro _ _ rfl
         simp only [List.cons_append, List.nil_append, List.append_eq])
      | (apply al_call1 rfl rfl rfl rfl (c := cl _)
         case ha => exact os_
         case hM => exact pick_
         rintro _ _ rfl
         simp only [List.cons_append, List.nil_append, List.append_eq])
    | refine g34_ ?_
      | refine s_op ?_ (hy := by first | (apply ay_nilp rfl; exact oo_; done) | (apply ay_nilp rfl; exact oog_; done)
                                         | (apply ay_maxi rfl; exact oo_; exact oo_) | (apply ay_mini rfl; exact oo_; exact oo_) | fail)
    | refine g35_ ?_
      | refine s_opg ?_ (hy := by intro hk hk2; first | (apply ay_nilp rfl; exact oo_; done) | (apply ay_nilp rfl; exact oog_; done)
                                                        | (apply ay_maxi rfl; exact oo_; exact oo_) | (apply ay_mini rfl; exact oo_; exact oo_) | fail)
    | refine sw_ ?_ | (refine aw_if ?_ ?_ <;> intro hb <;> try exact no_) | (refine sx_ ?_ <;> intro bb) | (refine su_ ?_ <;> intro u hu1 hu2) | fail)
    all_goals first | exact e4_ | skip
  · replace c2 : AP Tryd.prog T0 22 [aggA [I 5, I a, I 0, R 0]] (B true) := c2
    show DoAF T0 w h l x y b true (5, a, 0, 0) (inM (x + a) (w - 1)) (inM y (h - 1)) false l
    show AF _ _ _ [_, aggA [I 5, I a, I 0, R 0]] _ _
    refine af_intro Tryd.func8 rfl (by decide) Tryd.ntmps8 rfl ?_
    repeat' (first
    | (apply al_call0 rfl rfl rfl rfl (c := co)
       case ha => exact os_
       rintro _ _ ⟨u, rfl, rfl⟩; refine al_rowc (List.Mem.head _) fun hu1 hu2 => ?_)
      | (apply al_call2 rfl rfl rfl rfl (c := ct _ _)
         case ha => exact os_
         case hM => exact pick_
         case hM2 => exact pick_
         rintro _ _ rfl
         simp only [List.cons_append, List.nil_append, List.append_eq])
      | (apply al_call1 rfl rfl rfl rfl (c := cl _)
         case ha => exact os_
         case hM => exact pick_
         rintro _ _ rfl
         simp only [List.cons_append, List.nil_append, List.append_eq])
    | refine g34_ ?_
      | refine s_op ?_ (hy := by first | (apply ay_nilp rfl; exact oo_; done) | (apply ay_nilp rfl; exact oog_; done)
                                         | (apply ay_maxi rfl; exact oo_; exact oo_) | (apply ay_mini rfl; exact oo_; exact oo_) | fail)
    | refine g35_ ?_
      | refine s_opg ?_ (hy := by intro hk hk2; first | (apply ay_nilp rfl; exact oo_; done) | (apply ay_nilp rfl; exact oog_; done)
                                                        | (apply ay_maxi rfl; exact oo_; exact oo_) | (apply ay_mini rfl; exact oo_; exact oo_) | fail)
    | refine sw_ ?_ | (refine aw_if ?_ ?_ <;> intro hb <;> try exact no_) | (refine sx_ ?_ <;> intro bb) | (refine su_ ?_ <;> intro u hu1 hu2) | fail)
    all_goals first | exact e4_ | skip
  · replace c2 : AP Tryd.prog T0 22 [aggA [I 6, I a, I 0, R 0]] (B true) := c2
    show DoAF T0 w h l x y b true (6, a, 0, 0) (inM (x - a) (w - 1)) (inM y (h - 1)) false l
    show AF _ _ _ [_, aggA [I 6, I a, I 0, R 0]] _ _
    refine af_intro Tryd.func8 rfl (by decide) Tryd.ntmps8 rfl ?_
    repeat' (first
    | (apply al_call0 rfl rfl rfl rfl (c := co)
       case ha => exact os_
       rintro _ _ ⟨u, rfl, rfl⟩; refine al_rowc (List.Mem.head _) fun hu1 hu2 => ?_)
      | (apply al_call2 rfl rfl rfl rfl (c := ct _ _)
         case ha => exact os_
         case hM => exact pick_
         case hM2 => exact pick_
         rintro _ _ rfl
         simp only [List.cons_append, List.nil_append, List.append_eq])
      | (apply al_call1 rfl rfl rfl rfl (c := cl _)
         case ha => exact os_
         case hM => exact pick_
         rintro _ _ rfl
         simp only [List.cons_append, List.nil_append, List.append_eq])
    | refine g34_ ?_
      | refine s_op ?_ (hy := by first | (apply ay_nilp rfl; exact oo_; done) | (apply ay_nilp rfl; exact oog_; done)
                                         | (apply ay_maxi rfl; exact oo_; exact oo_) | (apply ay_mini rfl; exact oo_; exact oo_) | fail)
    | refine g35_ ?_
      | refine s_opg ?_ (hy := by intro hk hk2; first | (apply ay_nilp rfl; exact oo_; done) | (apply ay_nilp rfl; exact oog_; done)
                                                        | (apply ay_maxi rfl; exact oo_; exact oo_) | (apply ay_mini rfl; exact oo_; exact oo_) | fail)
    | refine sw_ ?_ | (refine aw_if ?_ ?_ <;> intro hb <;> try exact no_) | (refine sx_ ?_ <;> intro bb) | (refine su_ ?_ <;> intro u hu1 hu2) | fail)
    all_goals first | exact e4_ | skip
theorem f_beDoText (r : Int) (hs : shown r = true) : DoAF T0 w h l x y b true (1, 0, 0, r) (curK w h x y b (1, 0, 0, r)).1 (curK w h x y b (1, 0, 0, r)).2.1 (curK w h x y b (1, 0, 0, r)).2.2 (listK w.toNat h.toNat l x.toNat y.toNat b (1, 0, 0, r)) := by
  obtain ⟨hw, hx, hl, hl2, hm, hg, hl3⟩ := be_facts h1
  have c1 : AP Tryd.prog T0 21 [belA w h l x y b true] (B true) := (f_beIs w h l x y b true).to (by rw [h1])
  have c2 : AP Tryd.prog T0 22 [cmdA (1, 0, 0, r)] (B true) := (f_vtIs (1, 0, 0, r)).to (by rw [show isCmd (1, 0, 0, r) = true by simp [isCmd, hs]])
  have co := f_beOwn (T0 := T0) w h l x y b true (by omega)
  have c3 : True := trivial
  have cl : True := trivial
  have ct := fun p u => f_beText (T0 := T0) p w h u l x y b r h1 hs
  generalize listK w.toNat h.toNat l x.toNat y.toNat b (1, 0, 0, r) = L at *
  generalize curK w h x y b (1, 0, 0, r) = z at *
  obtain ⟨X, Y, Z⟩ := z
  dsimp only at ct ⊢
  refine af_intro Tryd.func8 rfl (by decide) Tryd.ntmps8 rfl ?_
  repeat' (first
  | (apply al_call0 rfl rfl rfl rfl (c := co)
     case ha => exact os_
     rintro _ _ ⟨u, rfl, rfl⟩; refine al_rowc (List.Mem.head _) fun hu1 hu2 => ?_)
    | (apply al_call2 rfl rfl rfl rfl (c := ct _ _)
       case ha => exact os_
       case hM => exact pick_
       case hM2 => exact pick_
       rintro _ _ rfl
       simp only [List.cons_append, List.nil_append, List.append_eq])
    | (apply al_call1 rfl rfl rfl rfl (c := cl _)
       case ha => exact os_
       case hM => exact pick_
       rintro _ _ rfl
       simp only [List.cons_append, List.nil_append, List.append_eq])
  | refine g34_ ?_
    | refine s_op ?_ (hy := by first | (apply ay_nilp rfl; exact oo_; done) | (apply ay_nilp rfl; exact oog_; done)
                                       | (apply ay_maxi rfl; exact oo_; exact oo_) | (apply ay_mini rfl; exact oo_; exact oo_) | fail)
  | refine g35_ ?_
    | refine s_opg ?_ (hy := by intro hk hk2; first | (apply ay_nilp rfl; exact oo_; done) | (apply ay_nilp rfl; exact oog_; done)
                                                      | (apply ay_maxi rfl; exact oo_; exact oo_) | (apply ay_mini rfl; exact oo_; exact oo_) | fail)
  | refine sw_ ?_ | (refine aw_if ?_ ?_ <;> intro hb <;> try exact no_) | (refine sx_ ?_ <;> intro bb) | (refine su_ ?_ <;> intro u hu1 hu2) | fail)
  all_goals first | exact e4_ | skip
theorem f_beDoK (k : Int) (hk : k = 7 ∨ k = 8 ∨ k = 9 ∨ k = 10 ∨ k = 11) : DoAF T0 w h l x y b true (k, 0, 0, 0) (curK w h x y b (k, 0, 0, 0)).1 (curK w h x y b (k, 0, 0, 0)).2.1 false (listK w.toNat h.toNat l x.toNat y.toNat b (k, 0, 0, 0)) := by
  obtain ⟨hw, hx, hl, hl2, hm, hg, hl3⟩ := be_facts h1
  have c1 : AP Tryd.prog T0 21 [belA w h l x y b true] (B true) := (f_beIs w h l x y b true).to (by rw [h1])
  have c2 : AP Tryd.prog T0 22 [cmdA (k, 0, 0, 0)] (B true) := (f_vtIs (k, 0, 0, 0)).to (by rw [show isCmd (k, 0, 0, 0) = true by rcases hk with rfl | rfl | rfl | rfl | rfl <;> rfl])
  have co := f_beOwn (T0 := T0) w h l x y b true (by omega)
  have e1 := inM_in hx.1 (show x ≤ w - 1 by omega)
  have e2 := inM_in hx.2.2.1 (show y ≤ h - 1 by omega)
  have hlen := Int.toNat_of_nonneg (show 0 ≤ w by omega)
  have hlen2 := Int.toNat_of_nonneg (show 0 ≤ h by omega)
  have hlx := Int.toNat_of_nonneg hx.1
  have hly := Int.toNat_of_nonneg hx.2.2.1
  have hat := toNat_at (w := w) (x := x) (y := y) (by omega) (by omega) (by omega)
  have hri := row_in (h := h.toNat) (w := w.toNat) (y := y.toNat) (x := x.toNat) (n := w.toNat - x.toNat) (by omega) (by omega)
  rcases hk with rfl | rfl | rfl | rfl | rfl
  · have ct : True := trivial
    have c3 := f_partI (T0 := T0) (w - x) (by omega) (by omega)
    have cl := fun u => (f_beLayI (T0 := T0) w h u l x y false true (y * w + x) (List.replicate (w - x).toNat (32, 0)) (by omega) (by omega) (by omega) (by omega) (by
      have : (y * w + x).toNat + (w.toNat - x.toNat) ≤ l.length := by rw [hat, hl3]; exact hri
      simp; omega) (by
      rw [hat, List.length_replicate, show (w - x).toNat = w.toNat - x.toNat by omega]
      exact lay_end (h := h.toNat) hl3 hri)).toL (L' := [gsO u (listK w.toNat h.toNat l x.toNat y.toNat b (7, 0, 0, 0))]) (by
      show _ = [gsO u (layB w.toNat l (y.toNat * w.toNat + x.toNat) (List.replicate (w.toNat - x.toNat) (32, 0)))]
      rw [hat, show (w - x).toNat = w.toNat - x.toNat by omega])
    generalize listK w.toNat h.toNat l x.toNat y.toNat b (7, 0, 0, 0) = L at *
    refine f_beDoC (X := inM x (w - 1)) (Y := inM y (h - 1)) ?_ e1 e2
    clear hri hat
    refine af_intro Tryd.func8 rfl (by decide) Tryd.ntmps8 rfl ?_
    repeat' (first
    | (apply al_call0 rfl rfl rfl rfl (c := co)
       case ha => exact os_
       rintro _ _ ⟨u, rfl, rfl⟩; refine al_rowc (List.Mem.head _) fun hu1 hu2 => ?_)
      | (apply al_call2 rfl rfl rfl rfl (c := ct _ _)
         case ha => exact os_
         case hM => exact pick_
         case hM2 => exact pick_
         rintro _ _ rfl
         simp only [List.cons_append, List.nil_append, List.append_eq])
      | (apply al_call1 rfl rfl rfl rfl (c := cl _)
         case ha => exact os_
         case hM => exact pick_
         rintro _ _ rfl
         simp only [List.cons_append, List.nil_append, List.append_eq])
    | refine g34_ ?_
      | refine s_op ?_ (hy := by first | (apply ay_nilp rfl; exact oo_; done) | (apply ay_nilp rfl; exact oog_; done)
                                         | (apply ay_maxi rfl; exact oo_; exact oo_) | (apply ay_mini rfl; exact oo_; exact oo_) | fail)
    | refine g35_ ?_
      | refine s_opg ?_ (hy := by intro hk hk2; first | (apply ay_nilp rfl; exact oo_; done) | (apply ay_nilp rfl; exact oog_; done)
                                                        | (apply ay_maxi rfl; exact oo_; exact oo_) | (apply ay_mini rfl; exact oo_; exact oo_) | fail)
    | refine sw_ ?_ | (refine aw_if ?_ ?_ <;> intro hb <;> try exact no_) | (refine sx_ ?_ <;> intro bb) | (refine su_ ?_ <;> intro u hu1 hu2) | fail)
    all_goals first | exact e4_ | skip
  · have ct : True := trivial
    have hp : (y * w + x).toNat ≤ l.length := by rw [hat, hl3]; omega
    have c3 := f_partI (T0 := T0) (l.length - (y * w + x)) (by omega) (by omega)
    have cl := fun u => (f_beLayI (T0 := T0) w h u l x y false true (y * w + x) (List.replicate ((l.length : Int) - (y * w + x)).toNat (32, 0)) (by omega) (by omega) (by omega) (by omega) (by simp; omega) (by
      rw [List.length_replicate]
      refine lay_end (h := h.toNat) hl3 ?_
      omega)).toL (L' := [gsO u (listK w.toNat h.toNat l x.toNat y.toNat b (8, 0, 0, 0))]) (by
      show _ = [gsO u (layB w.toNat l (y.toNat * w.toNat + x.toNat) (List.replicate (l.length - (y.toNat * w.toNat + x.toNat)) (32, 0)))]
      rw [← hat, show ((l.length : Int) - (y * w + x)).toNat = l.length - (y * w + x).toNat by omega])
    generalize listK w.toNat h.toNat l x.toNat y.toNat b (8, 0, 0, 0) = L at *
    refine f_beDoC (X := inM x (w - 1)) (Y := inM y (h - 1)) ?_ e1 e2
    clear hri hat
    refine af_intro Tryd.func8 rfl (by decide) Tryd.ntmps8 rfl ?_
    repeat' (first
    | (apply al_call0 rfl rfl rfl rfl (c := co)
       case ha => exact os_
       rintro _ _ ⟨u, rfl, rfl⟩; refine al_rowc (List.Mem.head _) fun hu1 hu2 => ?_)
      | (apply al_call2 rfl rfl rfl rfl (c := ct _ _)
         case ha => exact os_
         case hM => exact pick_
         case hM2 => exact pick_
         rintro _ _ rfl
         simp only [List.cons_append, List.nil_append, List.append_eq])
      | (apply al_call1 rfl rfl rfl rfl (c := cl _)
         case ha => exact os_
         case hM => exact pick_
         rintro _ _ rfl
         simp only [List.cons_append, List.nil_append, List.append_eq])
    | refine g34_ ?_
      | refine s_op ?_ (hy := by first | (apply ay_nilp rfl; exact oo_; done) | (apply ay_nilp rfl; exact oog_; done)
                                         | (apply ay_maxi rfl; exact oo_; exact oo_) | (apply ay_mini rfl; exact oo_; exact oo_) | fail)
    | refine g35_ ?_
      | refine s_opg ?_ (hy := by intro hk hk2; first | (apply ay_nilp rfl; exact oo_; done) | (apply ay_nilp rfl; exact oog_; done)
                                                        | (apply ay_maxi rfl; exact oo_; exact oo_) | (apply ay_mini rfl; exact oo_; exact oo_) | fail)
    | refine sw_ ?_ | (refine aw_if ?_ ?_ <;> intro hb <;> try exact no_) | (refine sx_ ?_ <;> intro bb) | (refine su_ ?_ <;> intro u hu1 hu2) | fail)
    all_goals first | exact e4_ | skip
  · have ct : True := trivial
    have c3 : True := trivial
    have cl : True := trivial
    show DoAF T0 w h l x y b true (9, 0, 0, 0) (inM 0 (w - 1)) (inM y (h - 1)) false l
    refine af_intro Tryd.func8 rfl (by decide) Tryd.ntmps8 rfl ?_
    repeat' (first
    | (apply al_call0 rfl rfl rfl rfl (c := co)
       case ha => exact os_
       rintro _ _ ⟨u, rfl, rfl⟩; refine al_rowc (List.Mem.head _) fun hu1 hu2 => ?_)
      | (apply al_call2 rfl rfl rfl rfl (c := ct _ _)
         case ha => exact os_
         case hM => exact pick_
         case hM2 => exact pick_
         rintro _ _ rfl
         simp only [List.cons_append, List.nil_append, List.append_eq])
      | (apply al_call1 rfl rfl rfl rfl (c := cl _)
         case ha => exact os_
         case hM => exact pick_
         rintro _ _ rfl
         simp only [List.cons_append, List.nil_append, List.append_eq])
    | refine g34_ ?_
      | refine s_op ?_ (hy := by first | (apply ay_nilp rfl; exact oo_; done) | (apply ay_nilp rfl; exact oog_; done)
                                         | (apply ay_maxi rfl; exact oo_; exact oo_) | (apply ay_mini rfl; exact oo_; exact oo_) | fail)
    | refine g35_ ?_
      | refine s_opg ?_ (hy := by intro hk hk2; first | (apply ay_nilp rfl; exact oo_; done) | (apply ay_nilp rfl; exact oog_; done)
                                                        | (apply ay_maxi rfl; exact oo_; exact oo_) | (apply ay_mini rfl; exact oo_; exact oo_) | fail)
    | refine sw_ ?_ | (refine aw_if ?_ ?_ <;> intro hb <;> try exact no_) | (refine sx_ ?_ <;> intro bb) | (refine su_ ?_ <;> intro u hu1 hu2) | fail)
    all_goals first | exact e4_ | skip
  · have c3 : True := trivial
    have cl : True := trivial
    have hdy : 0 ≤ downY h y ∧ downY h y < h := by unfold downY; split <;> omega
    have ct := fun p u => f_beDown (T0 := T0) p w h u l x y false true hw hl ⟨hx.2.2.1, hx.2.2.2⟩
    have eL : listK w.toNat h.toNat l x.toNat y.toNat b (10, 0, 0, 0) = downG w h l y := by
      show (if y.toNat + 1 < h.toNat then l else upB w.toNat l) = _
      unfold downG
      by_cases e : y = h - 1
      · rw [if_pos e, if_neg (by omega)]
      · rw [if_neg e, if_pos (by omega)]
    have eY : (downL w h [] y).2 = downY h y := by unfold downL downY; split <;> rfl
    rw [eL]
    show DoAF T0 w h l x y b true (10, 0, 0, 0) x (downL w h [] y).2 false _
    rw [eY]
    generalize downG w h l y = L at *
    generalize downY h y = Y at *
    refine f_beDoC (X := inM x (w - 1)) (Y := inM Y (h - 1)) ?_ e1 (inM_in hdy.1 (by omega))
    clear hri hat
    refine af_intro Tryd.func8 rfl (by decide) Tryd.ntmps8 rfl ?_
    repeat' (first
    | (apply al_call0 rfl rfl rfl rfl (c := co)
       case ha => exact os_
       rintro _ _ ⟨u, rfl, rfl⟩; refine al_rowc (List.Mem.head _) fun hu1 hu2 => ?_)
      | (apply al_call2 rfl rfl rfl rfl (c := ct _ _)
         case ha => exact os_
         case hM => exact pick_
         case hM2 => exact pick_
         rintro _ _ rfl
         simp only [List.cons_append, List.nil_append, List.append_eq])
      | (apply al_call1 rfl rfl rfl rfl (c := cl _)
         case ha => exact os_
         case hM => exact pick_
         rintro _ _ rfl
         simp only [List.cons_append, List.nil_append, List.append_eq])
    | refine g34_ ?_
      | refine s_op ?_ (hy := by first | (apply ay_nilp rfl; exact oo_; done) | (apply ay_nilp rfl; exact oog_; done)
                                         | (apply ay_maxi rfl; exact oo_; exact oo_) | (apply ay_mini rfl; exact oo_; exact oo_) | fail)
    | refine g35_ ?_
      | refine s_opg ?_ (hy := by intro hk hk2; first | (apply ay_nilp rfl; exact oo_; done) | (apply ay_nilp rfl; exact oog_; done)
                                                        | (apply ay_maxi rfl; exact oo_; exact oo_) | (apply ay_mini rfl; exact oo_; exact oo_) | fail)
    | refine sw_ ?_ | (refine aw_if ?_ ?_ <;> intro hb <;> try exact no_) | (refine sx_ ?_ <;> intro bb) | (refine su_ ?_ <;> intro u hu1 hu2) | fail)
    all_goals first | exact e4_ | skip
  · have ct : True := trivial
    have c3 : True := trivial
    have cl : True := trivial
    show DoAF T0 w h l x y b true (11, 0, 0, 0) (inM (x - 1) (w - 1)) (inM y (h - 1)) false l
    refine af_intro Tryd.func8 rfl (by decide) Tryd.ntmps8 rfl ?_
    repeat' (first
    | (apply al_call0 rfl rfl rfl rfl (c := co)
       case ha => exact os_
       rintro _ _ ⟨u, rfl, rfl⟩; refine al_rowc (List.Mem.head _) fun hu1 hu2 => ?_)
      | (apply al_call2 rfl rfl rfl rfl (c := ct _ _)
         case ha => exact os_
         case hM => exact pick_
         case hM2 => exact pick_
         rintro _ _ rfl
         simp only [List.cons_append, List.nil_append, List.append_eq])
      | (apply al_call1 rfl rfl rfl rfl (c := cl _)
         case ha => exact os_
         case hM => exact pick_
         rintro _ _ rfl
         simp only [List.cons_append, List.nil_append, List.append_eq])
    | refine g34_ ?_
      | refine s_op ?_ (hy := by first | (apply ay_nilp rfl; exact oo_; done) | (apply ay_nilp rfl; exact oog_; done)
                                         | (apply ay_maxi rfl; exact oo_; exact oo_) | (apply ay_mini rfl; exact oo_; exact oo_) | fail)
    | refine g35_ ?_
      | refine s_opg ?_ (hy := by intro hk hk2; first | (apply ay_nilp rfl; exact oo_; done) | (apply ay_nilp rfl; exact oog_; done)
                                                        | (apply ay_maxi rfl; exact oo_; exact oo_) | (apply ay_mini rfl; exact oo_; exact oo_) | fail)
    | refine sw_ ?_ | (refine aw_if ?_ ?_ <;> intro hb <;> try exact no_) | (refine sx_ ?_ <;> intro bb) | (refine su_ ?_ <;> intro u hu1 hu2) | fail)
    all_goals first | exact e4_ | skip
end
end Go.Proofs.YtgfmjmfphmjdkaaDoor
