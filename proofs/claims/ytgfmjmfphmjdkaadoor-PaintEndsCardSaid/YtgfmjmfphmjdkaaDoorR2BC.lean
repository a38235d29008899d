/- Layer 27 (belief): a sign, by the program. No condition. -/
import Derived.Test.YtgfmjmfphmjdkaaDoorR2BA
import Derived.Test.YtgfmjmfphmjdkaaDoorR2H1
namespace Go.Proofs.YtgfmjmfphmjdkaaDoor
set_option linter.unusedSimpArgs false
set_option linter.unusedVariables false
set_option linter.unusedSectionVars false
set_option maxHeartbeats 4000000
open Go Go.RowKit
set_option maxRecDepth 100000
theorem toNat_at {w x y : Int} (hw : 0 ≤ w) (hx : 0 ≤ x) (hy : 0 ≤ y) : (y * w + x).toNat = y.toNat * w.toNat + x.toNat := by
  obtain ⟨w, rfl⟩ := Int.eq_ofNat_of_zero_le hw
  obtain ⟨x, rfl⟩ := Int.eq_ofNat_of_zero_le hx
  obtain ⟨y, rfl⟩ := Int.eq_ofNat_of_zero_le hy
  simp only [Int.toNat_natCast]
  rw [← Int.natCast_mul, ← Int.natCast_add, Int.toNat_natCast]
/-- what is laid within a row ends ahead of the end, or at a row's end -/
theorem lay_end {w h p n : Nat} {l : List Guess} (hl : l.length = w * h) (hp : p + n ≤ w * h) : 0 < (p + n) % w → p + n < l.length := fun k => by
  rcases Nat.lt_or_ge (p + n) l.length with e | e
  · exact e
  · rw [show p + n = w * h by omega, Nat.mul_mod_right] at k; omega
theorem be_facts {w h : Int} {l : List Guess} {x y : Int} {b : Bool} (h1 : okBe w h l x y b true = true) : (2 ≤ w ∧ w ≤ 80 ∧ 1 ≤ h ∧ h ≤ 24) ∧ (0 ≤ x ∧ x < w ∧ 0 ≤ y ∧ y < h) ∧ (l.length : Int) = w * h ∧ l.length ≤ 1920 ∧ (0 ≤ y * w ∧ y * w ≤ 1920) ∧ GOk w.toNat l ∧ l.length = w.toNat * h.toNat := by
  obtain ⟨w', h', rfl, rfl, w2, w3, w4, w5, hl, hk, p1, p2⟩ := okBe_iff.1 h1
  obtain ⟨q1, q2, q3, q4, q5⟩ := p1 rfl
  have hm := mul_rng (w := w') (h := h') (y := y) (by omega) (by omega) (by omega)
  have := side_leB w3 w5
  exact ⟨by omega, by omega, by rw [hl]; exact Int.natCast_mul w' h', by omega, by omega, by simpa using hk, by simpa using hl⟩
theorem beO_eq {p : Nat} {w h : Int} {u : Value} {x x' y : Int} {b b' s : Bool} (hx : x = x') (hb : b = b') : beO p w h u x y b s = beO p w h u x' y b' s := by rw [hx, hb]
variable {T0 : Gh} [TabS T0]
attribute [local irreducible] thenA inBlockA AW AL AO QY varO rowO rsA Opd OpdN vA gvA tupA aggA slA slcA ipA rpA EqK LnK IxK LdK FaK FdK
theorem f_wrapsU (w h : Int) (u : Value) (x y : Int) (b s : Bool) (c : Cmd) (hx : -1000 ≤ x ∧ x ≤ 1000) : AP Tryd.prog T0 39 [aggA [I w, I h, vA u, I x, I y, B b, B s], cmdA c] (B (decide (c.1 = 1) && (b || decide (w < x + (cellsM c.2.2.2).length)))) := by
  obtain ⟨k, a, d, r⟩ := c
  have hr : (cellsM r).length ≤ 2 := (cellsM_len r).2
  have cw := f_Width (T0 := T0) r
  generalize (cellsM r).length = n at *
  refine af_intro Tryd.func39 rfl (by decide) Tryd.ntmps39 rfl ?_
  repeat' (first
  | refine sa_ ?_ | refine s_call ?_ (c := by first | exact cw | fail) | refine s_yg ?_ | refine s_callg ?_ (c := by intro hk hk2; first | exact cw | fail) | refine sw_ ?_ | (refine aw_if ?_ ?_ <;> intro hb <;> try exact no_) | (refine sx_ ?_ <;> intro bb) | (refine su_ ?_ <;> intro u hu1 hu2) | fail)
  refine ⟨_, [], rl_, List.nil_sublist _, Sub.eq (congrArg B ?_), rfl⟩
  first | rfl | (cases b <;> simp) | skip
theorem f_beText (p : Nat) (w h : Int) (u : Value) (l : List Guess) (x y : Int) (b : Bool) (r : Int) (h1 : okBe w h l x y b true = true) (hs : shown r = true) : AF Tryd.prog T0 25 [ptA p, cmdA (1, 0, 0, r)] [beO p w h u x y b true, gsO u l]
    (fun _ M' => M' = [gsO u (listK w.toNat h.toNat l x.toNat y.toNat b (1, 0, 0, r)), beO p w h u (curK w h x y b (1, 0, 0, r)).1 (curK w h x y b (1, 0, 0, r)).2.1 (curK w h x y b (1, 0, 0, r)).2.2 true]) := by
  obtain ⟨hw, hx, hl, hl2, hm, hg, hl3⟩ := be_facts h1
  have hn := cellsM_rng hs
  have c2 := f_Cells (T0 := T0) r
  have hlen := Int.toNat_of_nonneg (show 0 ≤ w by omega)
  have hlen2 := Int.toNat_of_nonneg (show 0 ≤ h by omega)
  have hlx := Int.toNat_of_nonneg hx.1
  have hly := Int.toNat_of_nonneg hx.2.2.1
  by_cases hq : b = true ∨ w < x + (cellsM r).length
  · have hdg : (downG w h l y).length = l.length := by
      unfold downG; split
      · exact upB_len (by rw [hl3]; exact Nat.le_mul_of_pos_right _ (by omega))
      · rfl
    have hdy : 0 ≤ downY h y ∧ downY h y < h := by unfold downY; split <;> omega
    have hm2 := mul_rng (w := w) (h := h) (y := downY h y) (by omega) (by omega) hdy
    have hri := row_in (h := h.toNat) (w := w.toNat) (y := (downY h y).toNat) (x := 0) (n := (cellsM r).length) (by omega) (by omega)
    have hat := toNat_at (w := w) (x := 0) (y := downY h y) (by omega) (by omega) hdy.1
    have cd := f_beDown (T0 := T0) p w h u l x y b true hw hl ⟨hx.2.2.1, hx.2.2.2⟩
    have cl := f_beLayI (T0 := T0) w h u (downG w h l y) 0 (downY h y) b true (downY h y * w + 0) (cellsM r) (by omega) (by omega) (by omega) (by omega) (by
      have : (downY h y * w + 0).toNat + (cellsM r).length ≤ l.length := by rw [hat, hl3]; exact hri
      omega) (by
      rw [hat, hdg]
      exact lay_end (h := h.toNat) hl3 hri)
    have eL : layB w.toNat (downG w h l y) (downY h y * w + 0).toNat (cellsM r) = listK w.toNat h.toNat l x.toNat y.toNat b (1, 0, 0, r) := by
      rw [hat]
      show _ = textL w.toNat h.toNat l x.toNat y.toNat b (cellsM r)
      unfold textL downG downY
      rw [if_pos (show b = true ∨ w.toNat < x.toNat + (cellsM r).length by rcases hq with q | q; exact .inl q; exact .inr (by omega))]
      by_cases e : y = h - 1
      · rw [if_pos e, if_pos e, if_neg (by omega), Int.toNat_zero, Nat.add_zero]
      · rw [if_neg e, if_neg e, if_pos (by omega), Int.toNat_zero, Nat.add_zero, show (y + 1).toNat = y.toNat + 1 by omega]
    rw [eL] at cl
    have eC : curK w h x y b (1, 0, 0, r) = (if (0 : Int) + (cellsM r).length = w then w - 1 else 0 + (cellsM r).length, downY h y, decide ((0 : Int) + (cellsM r).length = w)) := by
      show (textK w h [] x y b r).2.2.2 = _
      unfold textK
      rw [if_pos hq]
      show (inM (0 + ((cellsM r).length : Int)) (w - 1), (downL w h [] y).2, decide ((0 : Int) + (cellsM r).length = w)) = _
      congr 1
      · unfold inM; split <;> omega
      · congr 1
        unfold downL downY; split <;> rfl
    rw [eC]
    have c1 : AP Tryd.prog T0 39 [aggA [I w, I h, vA u, I x, I y, B b, B true], cmdA (1, 0, 0, r)] (B true) := (f_wrapsU (T0 := T0) w h u x y b true (1, 0, 0, r) (by omega)).to (congrArg B (by rcases hq with q | q <;> simp [q]))
    generalize listK w.toNat h.toNat l x.toNat y.toNat b (1, 0, 0, r) = L2 at *
    generalize downG w h l y = L1 at *
    generalize downY h y = Y at *
    generalize cellsM r = cs at *
    clear eL eC hat hri
    by_cases hf : (0 : Int) + cs.length = w
    · rw [if_pos hf, show decide ((0 : Int) + cs.length = w) = true by simpa using hf]
      refine af_intro Tryd.func25 rfl (by decide) Tryd.ntmps25 rfl ?_
      repeat' (first
      | (apply al_call2 rfl rfl rfl rfl (c := cd)
         case ha => exact os_
         case hM => exact pick_
         case hM2 => exact pick_
         rintro _ _ rfl
         simp only [List.cons_append, List.nil_append, List.append_eq])
        | (apply al_call1 rfl rfl rfl rfl (c := cl)
           case ha => exact os_
           case hM => exact pick_
           rintro _ _ rfl
           simp only [List.cons_append, List.nil_append, List.append_eq])
      | refine g33_ ?_ | (refine aw_if ?_ ?_ <;> intro hb <;> try exact no_) | (refine sx_ ?_ <;> intro bb) | (refine su_ ?_ <;> intro u hu1 hu2) | fail)
      all_goals first | exact e3_ | skip
      all_goals first | refine ⟨_, _, rl_, List.Sublist.cons_cons _ (List.Sublist.cons_cons _ (List.nil_sublist _)), congrArg (List.cons _) (congrArg (fun z => [z]) (beO_eq ?_ ?_))⟩ | refine ⟨_, _, rl_, List.Sublist.cons_cons _ (List.Sublist.cons _ (List.Sublist.refl _)), congrArg (List.cons _) (congrArg (fun z => [z]) (beO_eq ?_ ?_))⟩
      all_goals first | omega | exact decide_eq_true (by omega) | exact decide_eq_false (by omega)
    · rw [if_neg hf, show decide ((0 : Int) + cs.length = w) = false by simpa using hf]
      refine af_intro Tryd.func25 rfl (by decide) Tryd.ntmps25 rfl ?_
      repeat' (first
      | (apply al_call2 rfl rfl rfl rfl (c := cd)
         case ha => exact os_
         case hM => exact pick_
         case hM2 => exact pick_
         rintro _ _ rfl
         simp only [List.cons_append, List.nil_append, List.append_eq])
        | (apply al_call1 rfl rfl rfl rfl (c := cl)
           case ha => exact os_
           case hM => exact pick_
           rintro _ _ rfl
           simp only [List.cons_append, List.nil_append, List.append_eq])
      | refine g33_ ?_ | (refine aw_if ?_ ?_ <;> intro hb <;> try exact no_) | (refine sx_ ?_ <;> intro bb) | (refine su_ ?_ <;> intro u hu1 hu2) | fail)
      all_goals first | exact e3_ | skip
      all_goals first | refine ⟨_, _, rl_, List.Sublist.cons_cons _ (List.Sublist.cons_cons _ (List.nil_sublist _)), congrArg (List.cons _) (congrArg (fun z => [z]) (beO_eq ?_ ?_))⟩ | refine ⟨_, _, rl_, List.Sublist.cons_cons _ (List.Sublist.cons _ (List.Sublist.refl _)), congrArg (List.cons _) (congrArg (fun z => [z]) (beO_eq ?_ ?_))⟩
      all_goals first | omega | exact decide_eq_true (by omega) | exact decide_eq_false (by omega)
  · have cd : True := trivial
    have hri := row_in (h := h.toNat) (w := w.toNat) (y := y.toNat) (x := x.toNat) (n := (cellsM r).length) (by omega) (by omega)
    have hat := toNat_at (w := w) (x := x) (y := y) (by omega) (by omega) (by omega)
    have cl := f_beLayI (T0 := T0) w h u l x y b true (y * w + x) (cellsM r) (by omega) (by omega) (by omega) (by omega) (by
      have : (y * w + x).toNat + (cellsM r).length ≤ l.length := by rw [hat, hl3]; exact hri
      omega) (by
      rw [hat]
      exact lay_end (h := h.toNat) hl3 hri)
    have eL : layB w.toNat l (y * w + x).toNat (cellsM r) = listK w.toNat h.toNat l x.toNat y.toNat b (1, 0, 0, r) := by
      rw [hat]
      show _ = textL w.toNat h.toNat l x.toNat y.toNat b (cellsM r)
      unfold textL
      rw [if_neg (show ¬ (b = true ∨ w.toNat < x.toNat + (cellsM r).length) by rintro (q | q); exact hq (.inl q); exact hq (.inr (by omega)))]
    rw [eL] at cl
    have eC : curK w h x y b (1, 0, 0, r) = (if x + (cellsM r).length = w then w - 1 else x + (cellsM r).length, y, decide (x + (cellsM r).length = w)) := by
      show (textK w h [] x y b r).2.2.2 = _
      unfold textK
      rw [if_neg hq]
      show (inM (x + ((cellsM r).length : Int)) (w - 1), y, decide (x + (cellsM r).length = w)) = _
      congr 1
      unfold inM; split <;> omega
    rw [eC]
    have c1 : AP Tryd.prog T0 39 [aggA [I w, I h, vA u, I x, I y, B b, B true], cmdA (1, 0, 0, r)] (B false) := (f_wrapsU (T0 := T0) w h u x y b true (1, 0, 0, r) (by omega)).to (congrArg B (by
      cases b with
      | true => exact absurd (.inl rfl) hq
      | false => simp; omega))
    generalize listK w.toNat h.toNat l x.toNat y.toNat b (1, 0, 0, r) = L2 at *
    generalize cellsM r = cs at *
    clear eL eC hat hri
    by_cases hf : x + (cs.length : Int) = w
    · rw [if_pos hf, show decide (x + (cs.length : Int) = w) = true by simpa using hf]
      refine af_intro Tryd.func25 rfl (by decide) Tryd.ntmps25 rfl ?_
      repeat' (first
      | (apply al_call2 rfl rfl rfl rfl (c := cd)
         case ha => exact os_
         case hM => exact pick_
         case hM2 => exact pick_
         rintro _ _ rfl
         simp only [List.cons_append, List.nil_append, List.append_eq])
        | (apply al_call1 rfl rfl rfl rfl (c := cl)
           case ha => exact os_
           case hM => exact pick_
           rintro _ _ rfl
           simp only [List.cons_append, List.nil_append, List.append_eq])
      | refine g33_ ?_ | (refine aw_if ?_ ?_ <;> intro hb <;> try exact no_) | (refine sx_ ?_ <;> intro bb) | (refine su_ ?_ <;> intro u hu1 hu2) | fail)
      all_goals first | exact e3_ | skip
      all_goals first | refine ⟨_, _, rl_, List.Sublist.cons_cons _ (List.Sublist.cons_cons _ (List.nil_sublist _)), congrArg (List.cons _) (congrArg (fun z => [z]) (beO_eq ?_ ?_))⟩ | refine ⟨_, _, rl_, List.Sublist.cons_cons _ (List.Sublist.cons _ (List.Sublist.refl _)), congrArg (List.cons _) (congrArg (fun z => [z]) (beO_eq ?_ ?_))⟩
      all_goals first | omega | exact decide_eq_true (by omega) | exact decide_eq_false (by omega)
    · rw [if_neg hf, show decide (x + (cs.length : Int) = w) = false by simpa using hf]
      refine af_intro Tryd.func25 rfl (by decide) Tryd.ntmps25 rfl ?_
      repeat' (first
      | (apply al_call2 rfl rfl rfl rfl (c := cd)
         case ha => exact os_
         case hM => exact pick_
         case hM2 => exact pick_
         rintro _ _ rfl
         simp only [List.cons_append, List.nil_append, List.append_eq])
        | (apply al_call1 rfl rfl rfl rfl (c := cl)
           case ha => exact os_
           case hM => exact pick_
           rintro _ _ rfl
           simp only [List.cons_append, List.nil_append, List.append_eq])
      | refine g33_ ?_ | (refine aw_if ?_ ?_ <;> intro hb <;> try exact no_) | (refine sx_ ?_ <;> intro bb) | (refine su_ ?_ <;> intro u hu1 hu2) | fail)
      all_goals first | exact e3_ | skip
      all_goals first | refine ⟨_, _, rl_, List.Sublist.cons_cons _ (List.Sublist.cons_cons _ (List.nil_sublist _)), congrArg (List.cons _) (congrArg (fun z => [z]) (beO_eq ?_ ?_))⟩ | refine ⟨_, _, rl_, List.Sublist.cons_cons _ (List.Sublist.cons _ (List.Sublist.refl _)), congrArg (List.cons _) (congrArg (fun z => [z]) (beO_eq ?_ ?_))⟩
      all_goals first | omega | exact decide_eq_true (by omega) | exact decide_eq_false (by omega)
end Go.Proofs.YtgfmjmfphmjdkaaDoor
