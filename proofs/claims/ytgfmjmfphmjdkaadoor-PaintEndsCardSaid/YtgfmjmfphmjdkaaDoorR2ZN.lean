/- Several texts in one: see the comment ahead of each. No condition. -/
import Derived.Test.YtgfmjmfphmjdkaaDoorR2ZM
import Derived.Test.YtgfmjmfphmjdkaaDoorR2ZS
/- Layer 7 (term): Feed, Resize and Same, the program's and the reference's. No condition. -/
namespace Go.Proofs.YtgfmjmfphmjdkaaDoor
set_option linter.unusedSimpArgs false
set_option linter.unusedVariables false
set_option linter.unusedSectionVars false
set_option maxHeartbeats 4000000
section
open Go Go.RowKit
set_option maxRecDepth 200000
/-- some commands, one behind the other -/
noncomputable def runT (t : Tm) (l : List Cmd) : Tm := l.foldl (fun t c => (doT t c).1) t
theorem runT_snoc (t : Tm) (l : List Cmd) (k : Nat) (h : k < l.length) : runT t (l.take (k + 1)) = (doT (runT t (l.take k)) l[k]).1 := by
  rw [runT, runT, List.take_succ_eq_append_getElem h, List.foldl_append]; rfl
noncomputable def feedT (t : Tm) (s : List UInt8) : Tm × List UInt8 × Int := if okTm t = true then (if (allS s).2.2 = 0 then (runT t (allS s).1, (allS s).2.1, 0) else (noT, [], (allS s).2.2)) else (noT, [], 1)
theorem sub_noTm3 {n : Int} {s : List UInt8} : Sub (tupA [aggA [I 0, I 0, vA (.slice none 0 0), I 0, I 0, B false], SA s, I n]) (tupA [termA 0 0 [] 0 0 false, SA s, I n]) := sub_tup (subl1 (sub_agg (subl1 (Sub.refl _) (subl1 (Sub.refl _) (subl1 sub_nilG (subl1 (Sub.refl _) (subl1 (Sub.refl _) (subl1 (Sub.refl _) subl0))))))) (subl1 (Sub.refl _) (subl1 (Sub.refl _) subl0)))
abbrev tmC (t : Tm) : List AV := [I t.1, I t.2.1, slA cellT t.2.2.1, I t.2.2.2.1, I t.2.2.2.2.1, B t.2.2.2.2.2]
variable {T0 : Gh} [TabS T0]
attribute [local irreducible] thenA inBlockA AW AL AO QY varO rowO rsA Opd OpdN vA gvA tupA aggA slA slcA ipA rpA EqK LnK IxK LdK FaK FdK
theorem f_termFeed [TabU T0] (w h : Int) (l : List Cell) (x y : Int) (b : Bool) (s : List UInt8) (hs : s.length ≤ 80000) : AP Tryd.prog T0 19 [termA w h l x y b, SA s] (tupA [tmA (feedT (w, h, l, x, y, b) s).1, SA (feedT (w, h, l, x, y, b) s).2.1, I (feedT (w, h, l, x, y, b) s).2.2]) := by
  have c1 := f_termIs (T0 := T0) w h l x y b
  have c2 := f_scanAll (T0 := T0) s (by omega)
  cases hok : okT w h l x y b with
  | false =>
    rw [hok] at c1
    have e : feedT (w, h, l, x, y, b) s = (noT, [], 1) := if_neg (by rw [show okTm (w, h, l, x, y, b) = okT w h l x y b from rfl, hok]; decide)
    rw [e]
    have c2 : True := trivial
    have c3 : True := trivial
    refine af_intro Tryd.func19 rfl (by decide) Tryd.ntmps19 rfl ?_
    repeat' (first
    | refine g22_ ?_ | (refine aw_if ?_ ?_ <;> intro hb <;> try exact no_) | (refine sx_ ?_ <;> intro bb) | (refine su_ ?_ <;> intro u hu1 hu2) | fail)
    all_goals first | (exfalso; simp at hb; done) | exact ⟨_, [], rl_, List.nil_sublist _, sub_noTm3, rfl⟩
  | true =>
    rw [hok] at c1
    have c3 : True := trivial
    rcases allS_err s with he | he
    · have e : feedT (w, h, l, x, y, b) s = (runT (w, h, l, x, y, b) (allS s).1, (allS s).2.1, 0) := by rw [feedT, if_pos hok, if_pos he]
      rw [e]
      have hle := allS_len s
      obtain ⟨⟨cs, rest, er⟩, hx⟩ : ∃ z, z = allS s := ⟨_, rfl⟩
      rw [← hx] at c2 he hle ⊢
      simp only at c2 he hle ⊢
      subst he
      clear e hx
      obtain ⟨t0, ht0⟩ : ∃ t0 : Tm, t0 = (w, h, l, x, y, b) := ⟨_, rfl⟩
      rw [← ht0]
      refine af_intro Tryd.func19 rfl (by decide) Tryd.ntmps19 rfl ?_
      repeat' (first
      | refine g22_ ?_ | (refine aw_if ?_ ?_ <;> intro hb <;> try exact no_) | (refine sx_ ?_ <;> intro bb) | (refine su_ ?_ <;> intro u hu1 hu2) | fail)
      all_goals first | (exfalso; simp at hb; done) | skip
      refine aw_lv (σ := Nat × Tm) (fun z => [(28, I z.1)]) (fun z => tmC z.2) (fun z => z.1 ≤ cs.length ∧ z.2 = runT t0 (cs.take z.1)) (fun z => cs.length - z.1) (0, w, h, l, x, y, b) ⟨Nat.zero_le _, ht0.symm⟩ rfl ?_
      rintro ⟨k, w', h', l', x', y', b'⟩ ⟨i1, i2⟩
      simp only at i1 i2 ⊢
      clear c1 c2
      have c1 : True := trivial
      have c2 : True := trivial
      by_cases hlt : k < cs.length
      · have hget : cs[k]? = some cs[k] := List.getElem?_eq_getElem hlt
        have hn := runT_snoc t0 cs k hlt
        rw [← i2] at hn
        generalize cs[k] = c at hget hn
        clear c3
        have c3 := f_termDo (T0 := T0) w' h' l' x' y' b' c
        obtain ⟨⟨⟨w2, h2, l2, x2, y2, b2⟩, er2⟩, hz⟩ : ∃ z, z = doT (w', h', l', x', y', b') c := ⟨_, rfl⟩
        rw [← hz] at c3 hn
        simp only at c3 hn
        clear hz
        repeat' (first
        | (apply aw_regionD 8 9; (case hN => decide +kernel); (case hD => decide +kernel); (case hB => kernel_rfl); (case hm => kernel_rfl); (case hod => rfl); (case hl => rfl); (case hn => rfl); (case hsd => rfl); (case hb => rfl)) | (apply endD_; (case h2 => exact delf_)) | (apply aw_regionS; (case h2 => rfl); (case hD => decide +kernel); (case hB => decide +kernel); (case hg => decide +kernel); (case hm => kernel_rfl); (case hoL => rfl); (case hod => rfl)) | refine endS_ ?_ | (apply aw_regionN; (case hn => rfl); (case hm => kernel_rfl)) | refine g5_ ?_ | (apply an_all; (case hL => rfl); (case hne => rfl)) | exact ai_nil | apply ai_cons | (apply at_i; (case ho => rfl)) | (apply j_first; exact ext1_) | (apply j_next; (case h => exact ext_); (case hk => exact wk_); (case hc => rfl)) | refine g18_ ?_ | (apply aw_region1q (by rfl) (by kernel_rfl) (by kernel_rfl)) | refine g22_ ?_ | (refine aw_if ?_ ?_ <;> intro hb <;> try exact no_) | (refine sx_ ?_ <;> intro bb) | (refine su_ ?_ <;> intro u hu1 hu2) | fail)
        all_goals first | (exfalso; omega) | exact ⟨(k + 1, w2, h2, l2, x2, y2, b2), ⟨by simp only; omega, hn.symm⟩, by simp only; omega, wx_, sl_⟩
      · rw [List.take_of_length_le (by omega)] at i2
        rw [← i2]
        repeat' (first
        | refine g22_ ?_ | (refine aw_if ?_ ?_ <;> intro hb <;> try exact no_) | (refine sx_ ?_ <;> intro bb) | (refine su_ ?_ <;> intro u hu1 hu2) | fail)
        all_goals first | (exfalso; omega) | exact ⟨_, [], rl_, List.nil_sublist _, Sub.refl _, rfl⟩
    · have e : feedT (w, h, l, x, y, b) s = (noT, [], 2) := by rw [feedT, if_pos hok, he]; rfl
      rw [e]
      rw [he] at c2
      refine af_intro Tryd.func19 rfl (by decide) Tryd.ntmps19 rfl ?_
      repeat' (first
      | refine g22_ ?_ | (refine aw_if ?_ ?_ <;> intro hb <;> try exact no_) | (refine sx_ ?_ <;> intro bb) | (refine su_ ?_ <;> intro u hu1 hu2) | fail)
      all_goals first | (exfalso; simp at hb; done) | exact ⟨_, [], rl_, List.nil_sublist _, sub_noTm3, rfl⟩
end
/- Layer 7 (term): Resize and Same; the example. No condition. -/
section
open Go Go.RowKit
set_option maxRecDepth 200000
/-! ### the same, told so that it can be reckoned -/
def putC (w h : Int) (l : List Cell) (x y r : Int) : (Int × Int × List Cell) × Int := if (okB w h l = true ∧ 0 ≤ x ∧ x < w ∧ 0 ≤ y ∧ y < h) ∧ shown r = true ∧ x + (cellsM r).length ≤ w then ((w, h, layG l (y.toNat * w.toNat + x.toNat) (cellsM r)), 0) else ((0, 0, []), 1)
theorem putR_c (w h : Int) (l : List Cell) (x y r : Int) : putR w h l x y r = putC w h l x y r := by unfold putR putC; rw [okG_eq]
def blankC (w h : Int) (l : List Cell) (a b : Int) : (Int × Int × List Cell) × Int := if okB w h l = true ∧ 0 ≤ a ∧ a ≤ b ∧ b ≤ l.length then ((w, h, layG l a.toNat (List.replicate (b - a).toNat (32, 0))), 0) else ((0, 0, []), 1)
theorem blankR_c (w h : Int) (l : List Cell) (a b : Int) : blankR w h l a b = blankC w h l a b := by unfold blankR blankC; rw [okG_eq]
def scrollC (w h : Int) (l : List Cell) : List Cell := if okB w h l = true then l.drop w.toNat ++ List.replicate w.toNat (32, 0) else l
theorem scrollR_c (w h : Int) (l : List Cell) : scrollR w h l = scrollC w h l := by unfold scrollR scrollC; rw [okG_eq]
def downC (w h : Int) (l : List Cell) (y : Int) : List Cell × Int := if y = h - 1 then (scrollC w h l, y) else (l, y + 1)
theorem downL_c (w h : Int) (l : List Cell) (y : Int) : downL w h l y = downC w h l y := by unfold downL downC; rw [scrollR_c]
def textAtC (w h : Int) (l : List Cell) (x y r : Int) : Tm := (w, h, (putC w h l x y r).1.2.2, inM (x + (cellsM r).length) (w - 1), y, decide (x + (cellsM r).length = w))
theorem textAt_c (w h : Int) (l : List Cell) (x y r : Int) : textAt w h l x y r = textAtC w h l x y r := by unfold textAt textAtC; rw [putR_c]
def textKC (w h : Int) (l : List Cell) (x y : Int) (b : Bool) (r : Int) : Tm :=
  if b = true ∨ w < x + (cellsM r).length then textAtC w h (downC w h l y).1 0 (downC w h l y).2 r else textAtC w h l x y r
theorem textK_c (w h : Int) (l : List Cell) (x y : Int) (b : Bool) (r : Int) : textK w h l x y b r = textKC w h l x y b r := by unfold textK textKC; rw [textAt_c, textAt_c, downL_c]
def doKC (w h : Int) (l : List Cell) (x y : Int) (b : Bool) (c : Cmd) : Tm :=
  if c.1 = 1 then textKC w h l x y b c.2.2.2
  else if c.1 = 12 then (w, h, l, x, y, b)
  else if c.1 = 2 then goK w h l c.2.2.1 c.2.1
  else if c.1 = 3 then goK w h l x (y - c.2.1)
  else if c.1 = 4 then goK w h l x (y + c.2.1)
  else if c.1 = 5 then goK w h l (x + c.2.1) y
  else if c.1 = 6 then goK w h l (x - c.2.1) y
  else if c.1 = 7 then (w, h, (blankC w h l (y * w + x) ((y + 1) * w)).1.2.2, x, y, false)
  else if c.1 = 8 then (w, h, (blankC w h l (y * w + x) l.length).1.2.2, x, y, false)
  else if c.1 = 9 then goK w h l 0 y
  else if c.1 = 10 then (w, h, (downC w h l y).1, x, (downC w h l y).2, false)
  else goK w h l (x - 1) y
theorem doK_c (w h : Int) (l : List Cell) (x y : Int) (b : Bool) (c : Cmd) : doK w h l x y b c = doKC w h l x y b c := by unfold doK doKC; rw [textK_c, blankR_c, blankR_c, downL_c]
def okTC (w h : Int) (l : List Cell) (x y : Int) (b : Bool) : Bool := okB w h l && decide (0 ≤ x ∧ x < w ∧ 0 ≤ y ∧ y < h) && (!b || decide (x = w - 1))
theorem okT_c (w h : Int) (l : List Cell) (x y : Int) (b : Bool) : okT w h l x y b = okTC w h l x y b := by unfold okT okTC; rw [okG_eq]
def doTC (t : Tm) (c : Cmd) : Tm × Int := if okTC t.1 t.2.1 t.2.2.1 t.2.2.2.1 t.2.2.2.2.1 t.2.2.2.2.2 = true ∧ isCmd c = true then (doKC t.1 t.2.1 t.2.2.1 t.2.2.2.1 t.2.2.2.2.1 t.2.2.2.2.2 c, 0) else (noT, 1)
theorem doT_c (t : Tm) (c : Cmd) : doT t c = doTC t c := by unfold doT doTC; rw [okT_c, doK_c]
def runTC (t : Tm) (l : List Cmd) : Tm := l.foldl (fun t c => (doTC t c).1) t
theorem runT_c (t : Tm) (l : List Cmd) : runT t l = runTC t l := by
  unfold runT runTC
  have : (fun (t : Tm) (c : Cmd) => (doT t c).1) = fun t c => (doTC t c).1 := funext fun t => funext fun c => by rw [doT_c]
  rw [this]
def feedTC (t : Tm) (s : List UInt8) : Tm × List UInt8 × Int := if okTC t.1 t.2.1 t.2.2.1 t.2.2.2.1 t.2.2.2.2.1 t.2.2.2.2.2 = true then (if (allS s).2.2 = 0 then (runTC t (allS s).1, (allS s).2.1, 0) else (noT, [], (allS s).2.2)) else (noT, [], 1)
theorem feedT_c (t : Tm) (s : List UInt8) : feedT t s = feedTC t s := by unfold feedT feedTC okTm; rw [okT_c, runT_c]
variable {T0 : Gh} [TabS T0]
attribute [local irreducible] thenA inBlockA AW AL AO QY varO rowO rsA Opd OpdN vA gvA tupA aggA slA slcA ipA rpA EqK LnK IxK LdK FaK FdK
end
end Go.Proofs.YtgfmjmfphmjdkaaDoor
