/- Several texts in one: see the comment ahead of each. No condition. -/
import Derived.Test.YtplabpjkkcillaaDoorZM
import Derived.Test.YtplabpjkkcillaaDoorZQ
/- Layer 7 (term): Feed, Resize and Same, the program's and the reference's. No condition. -/
namespace Go.Proofs.YtplabpjkkcillaaDoor
set_option linter.unusedSimpArgs false
set_option linter.unusedVariables false
set_option linter.unusedSectionVars false
set_option maxHeartbeats 4000000
open Go Go.RowKit
set_option maxRecDepth 200000
/-- some commands, one behind the other -/
noncomputable def runT (t : Tm) (l : List Cmd) : Tm := l.foldl (fun t c => (doT t c).1) t
theorem runT_snoc (t : Tm) (l : List Cmd) (k : Nat) (h : k < l.length) : runT t (l.take (k + 1)) = (doT (runT t (l.take k)) l[k]).1 := by
  rw [runT, runT, List.take_succ_eq_append_getElem h, List.foldl_append]; rfl
noncomputable def feedT (t : Tm) (s : List UInt8) : Tm × List UInt8 × Int := if okTm t = true then (if (allS s).2.2 = 0 then (runT t (allS s).1, (allS s).2.1, 0) else (noT, [], (allS s).2.2)) else (noT, [], 1)
noncomputable def sizeT (t : Tm) (W H : Int) : Tm × Int := if okTm t = true then (if sidesM W H = true then ((W, H, fitK t.1.toNat t.2.1.toNat t.2.2.1 W.toNat H.toNat (min H.toNat t.2.1.toNat), inM t.2.2.2.1 (W - 1), inM t.2.2.2.2.1 (H - 1), false), 0) else (noT, 4)) else (noT, 1)
theorem sub_noTm3 {n : Int} {s : List UInt8} : Sub (tupA [aggA [I 0, I 0, vA (.slice none 0 0), I 0, I 0, B false], SA s, I n]) (tupA [termA 0 0 [] 0 0 false, SA s, I n]) := sub_tup (subl1 (sub_agg (subl1 (Sub.refl _) (subl1 (Sub.refl _) (subl1 sub_nilG (subl1 (Sub.refl _) (subl1 (Sub.refl _) (subl1 (Sub.refl _) subl0))))))) (subl1 (Sub.refl _) (subl1 (Sub.refl _) subl0)))
abbrev tmC (t : Tm) : List AV := [I t.1, I t.2.1, slA cellT t.2.2.1, I t.2.2.2.1, I t.2.2.2.2.1, B t.2.2.2.2.2]
variable {T0 : Gh} [TabS T0]
attribute [local irreducible] thenA inBlockA AW AL AO QY varO rowO rsA Opd OpdN vA gvA tupA aggA slA slcA ipA rpA EqK LnK IxK LdK FaK FdK
theorem f_termFeed [TabU T0] (w h : Int) (l : List Cell) (x y : Int) (b : Bool) (s : List UInt8) (hs : s.length ≤ 80000) : AP Tryd.prog T0 33 [termA w h l x y b, SA s] (tupA [tmA (feedT (w, h, l, x, y, b) s).1, SA (feedT (w, h, l, x, y, b) s).2.1, I (feedT (w, h, l, x, y, b) s).2.2]) := by
  have c1 := f_termIs (T0 := T0) w h l x y b
  have c2 := f_scanAll (T0 := T0) s (by omega)
  cases hok : okT w h l x y b with
  | false =>
    rw [hok] at c1
    have e : feedT (w, h, l, x, y, b) s = (noT, [], 1) := if_neg (by rw [show okTm (w, h, l, x, y, b) = okT w h l x y b from rfl, hok]; decide)
    rw [e]
    have c2 : True := trivial
    have c3 : True := trivial
    refine af_intro Tryd.func33 rfl (by decide) Tryd.ntmps33 rfl ?_
    repeat' (first
    | fail
    | refine s_y ?_
      | refine c_ ?_
      | (refine aw_if ?_ ?_ <;> intro hb <;> try (exfalso; first | assumption | omega | (simp only [or_self, and_self, not_true_eq_false, not_false_eq_true, or_false, false_or, and_false, false_and, true_and, and_true] at hb; first | done | omega)))
      | refine s_call ?_ (c := by first | exact c1 | exact c2 | exact c3 | fail)
      | refine s_op ?_ (hy := by first | fail | fail)
      | refine s_yg ?_
      | refine s_callg ?_ (c := by intro hk hk2; first | exact c1 | exact c2 | exact c3 | fail)
      | refine s_opg ?_ (hy := by intro hk hk2; first | fail | fail)
      | refine s_skip ?_
      | ((first | refine w_alloc ?_ | refine w_box ?_) <;> intro bb)
      | ((first | refine w_emp ?_ | refine w_make ?_ | refine w_app ?_) <;> intro u hu1 hu2)
      | refine w_stv ?_ | refine w_str ?_ | refine w_cpr ?_ | refine w_cps ?_
      | refine al_last (by kernel_rfl) ?_
    | fail)
    all_goals first | (exfalso; simp at hb; done) | exact ⟨_, [], rl_, List.nil_sublist _, sub_noTm3, rfl⟩
  | true =>
    rw [hok] at c1
    have c3 : True := trivial
    rcases allS_err s with he | he
    · have e : feedT (w, h, l, x, y, b) s = (runT (w, h, l, x, y, b) (allS s).1, (allS s).2.1, 0) := by rw [feedT, if_pos hok, if_pos he]
      rw [e]
      have hle := allS_len s
      obtain ⟨⟨cs, rest, er⟩, hx⟩ : ∃ z, z = allS s := ⟨_, rfl⟩
      rw [← hx] at c2 he hle ⊢
      simp only at c2 he hle ⊢
      subst he
      clear e hx
      obtain ⟨t0, ht0⟩ : ∃ t0 : Tm, t0 = (w, h, l, x, y, b) := ⟨_, rfl⟩
      rw [← ht0]
      refine af_intro Tryd.func33 rfl (by decide) Tryd.ntmps33 rfl ?_
      repeat' (first
      | fail
      | refine s_y ?_
        | refine c_ ?_
        | (refine aw_if ?_ ?_ <;> intro hb <;> try (exfalso; first | assumption | omega | (simp only [or_self, and_self, not_true_eq_false, not_false_eq_true, or_false, false_or, and_false, false_and, true_and, and_true] at hb; first | done | omega)))
        | refine s_call ?_ (c := by first | exact c1 | exact c2 | exact c3 | fail)
        | refine s_op ?_ (hy := by first | fail | fail)
        | refine s_yg ?_
        | refine s_callg ?_ (c := by intro hk hk2; first | exact c1 | exact c2 | exact c3 | fail)
        | refine s_opg ?_ (hy := by intro hk hk2; first | fail | fail)
        | refine s_skip ?_
        | ((first | refine w_alloc ?_ | refine w_box ?_) <;> intro bb)
        | ((first | refine w_emp ?_ | refine w_make ?_ | refine w_app ?_) <;> intro u hu1 hu2)
        | refine w_stv ?_ | refine w_str ?_ | refine w_cpr ?_ | refine w_cps ?_
        | refine al_last (by kernel_rfl) ?_
      | fail)
      all_goals first | (exfalso; simp at hb; done) | skip
      refine aw_lv (σ := Nat × Tm) (fun z => [(28, I z.1)]) (fun z => tmC z.2) (fun z => z.1 ≤ cs.length ∧ z.2 = runT t0 (cs.take z.1)) (fun z => cs.length - z.1) (0, w, h, l, x, y, b) ⟨Nat.zero_le _, ht0.symm⟩ rfl ?_
      rintro ⟨k, w', h', l', x', y', b'⟩ ⟨i1, i2⟩
      simp only at i1 i2 ⊢
      clear c1 c2
      have c1 : True := trivial
      have c2 : True := trivial
      by_cases hlt : k < cs.length
      · have hget : cs[k]? = some cs[k] := List.getElem?_eq_getElem hlt
        have hn := runT_snoc t0 cs k hlt
        rw [← i2] at hn
        generalize cs[k] = c at hget hn
        clear c3
        have c3 := f_termDo (T0 := T0) w' h' l' x' y' b' c
        obtain ⟨⟨⟨w2, h2, l2, x2, y2, b2⟩, er2⟩, hz⟩ : ∃ z, z = doT (w', h', l', x', y', b') c := ⟨_, rfl⟩
        rw [← hz] at c3 hn
        simp only at c3 hn
        clear hz
        repeat' (first
        | fail
        | (apply aw_regionD 8 9; (case hN => decide +kernel); (case hD => decide +kernel); (case hB => kernel_rfl); (case hm => kernel_rfl); (case hod => rfl); (case hl => rfl); (case hn => rfl); (case hsd => rfl); (case hb => rfl))
          | (apply endD_; (case h2 => exact delf_))
          | (apply aw_regionS; (case h2 => rfl); (case hD => decide +kernel); (case hB => decide +kernel); (case hg => decide +kernel); (case hm => kernel_rfl); (case hoL => rfl); (case hod => rfl))
          | refine endS_ ?_
        | (apply aw_regionN; (case hn => rfl); (case hm => kernel_rfl))
          | refine an_end ?_ (by rfl)
          | (apply an_all; (case hL => rfl); (case hne => rfl))
          | exact ai_nil
          | apply ai_cons
          | (apply at_i; (case ho => rfl))
          | (apply j_first; exact ext1_)
          | (apply j_next; (case h => exact ext_); (case hk => exact wk_); (case hc => rfl))
        | refine aw_seq ?_
          | refine aw_region0 ?_
          | refine al_nil ?_
          | refine th_n ?_
          | refine th_e ?_
          | refine th_r ?_
          | refine ib_n ?_
          | refine ib_e rfl ?_
          | refine ib_e' rfl ?_
          | refine ib_r ?_
          | refine aw_block ?_
          | refine aw_exit ?_
          | refine aw_ret ?_
          | refine aw_skip ?_
          | (apply aw_region1q (by rfl) (by kernel_rfl) (by kernel_rfl))
        | refine s_y ?_
          | refine c_ ?_
          | (refine aw_if ?_ ?_ <;> intro hb <;> try (exfalso; first | assumption | omega | (simp only [or_self, and_self, not_true_eq_false, not_false_eq_true, or_false, false_or, and_false, false_and, true_and, and_true] at hb; first | done | omega)))
          | refine s_call ?_ (c := by first | exact c1 | exact c2 | exact c3 | fail)
          | refine s_op ?_ (hy := by first | fail | fail)
          | refine s_yg ?_
          | refine s_callg ?_ (c := by intro hk hk2; first | exact c1 | exact c2 | exact c3 | fail)
          | refine s_opg ?_ (hy := by intro hk hk2; first | fail | fail)
          | refine s_skip ?_
          | ((first | refine w_alloc ?_ | refine w_box ?_) <;> intro bb)
          | ((first | refine w_emp ?_ | refine w_make ?_ | refine w_app ?_) <;> intro u hu1 hu2)
          | refine w_stv ?_ | refine w_str ?_ | refine w_cpr ?_ | refine w_cps ?_
          | refine al_last (by kernel_rfl) ?_
        | fail)
        all_goals first | (exfalso; omega) | exact ⟨(k + 1, w2, h2, l2, x2, y2, b2), ⟨by simp only; omega, hn.symm⟩, by simp only; omega, wx_, sl_⟩
      · rw [List.take_of_length_le (by omega)] at i2
        rw [← i2]
        repeat' (first
        | fail
        | refine s_y ?_
          | refine c_ ?_
          | (refine aw_if ?_ ?_ <;> intro hb <;> try (exfalso; first | assumption | omega | (simp only [or_self, and_self, not_true_eq_false, not_false_eq_true, or_false, false_or, and_false, false_and, true_and, and_true] at hb; first | done | omega)))
          | refine s_call ?_ (c := by first | exact c1 | exact c2 | exact c3 | fail)
          | refine s_op ?_ (hy := by first | fail | fail)
          | refine s_yg ?_
          | refine s_callg ?_ (c := by intro hk hk2; first | exact c1 | exact c2 | exact c3 | fail)
          | refine s_opg ?_ (hy := by intro hk hk2; first | fail | fail)
          | refine s_skip ?_
          | ((first | refine w_alloc ?_ | refine w_box ?_) <;> intro bb)
          | ((first | refine w_emp ?_ | refine w_make ?_ | refine w_app ?_) <;> intro u hu1 hu2)
          | refine w_stv ?_ | refine w_str ?_ | refine w_cpr ?_ | refine w_cps ?_
          | refine al_last (by kernel_rfl) ?_
        | fail)
        all_goals first | (exfalso; omega) | exact ⟨_, [], rl_, List.nil_sublist _, Sub.refl _, rfl⟩
    · have e : feedT (w, h, l, x, y, b) s = (noT, [], 2) := by rw [feedT, if_pos hok, he]; rfl
      rw [e]
      rw [he] at c2
      refine af_intro Tryd.func33 rfl (by decide) Tryd.ntmps33 rfl ?_
      repeat' (first
      | fail
      | refine s_y ?_
        | refine c_ ?_
        | (refine aw_if ?_ ?_ <;> intro hb <;> try (exfalso; first | assumption | omega | (simp only [or_self, and_self, not_true_eq_false, not_false_eq_true, or_false, false_or, and_false, false_and, true_and, and_true] at hb; first | done | omega)))
        | refine s_call ?_ (c := by first | exact c1 | exact c2 | exact c3 | fail)
        | refine s_op ?_ (hy := by first | fail | fail)
        | refine s_yg ?_
        | refine s_callg ?_ (c := by intro hk hk2; first | exact c1 | exact c2 | exact c3 | fail)
        | refine s_opg ?_ (hy := by intro hk hk2; first | fail | fail)
        | refine s_skip ?_
        | ((first | refine w_alloc ?_ | refine w_box ?_) <;> intro bb)
        | ((first | refine w_emp ?_ | refine w_make ?_ | refine w_app ?_) <;> intro u hu1 hu2)
        | refine w_stv ?_ | refine w_str ?_ | refine w_cpr ?_ | refine w_cps ?_
        | refine al_last (by kernel_rfl) ?_
      | fail)
      all_goals first | (exfalso; simp at hb; done) | exact ⟨_, [], rl_, List.nil_sublist _, sub_noTm3, rfl⟩
theorem f_ref07Feed (w h : Int) (l : List Cell) (x y : Int) (b : Bool) (s : List UInt8) (hs : s.length ≤ 80000) : AP Tryd.prog T0 34 [termA w h l x y b, SA s] (tupA [tmA (feedT (w, h, l, x, y, b) s).1, SA (feedT (w, h, l, x, y, b) s).2.1, I (feedT (w, h, l, x, y, b) s).2.2]) := by
  have c1 := f_ref07Is (T0 := T0) w h l x y b
  have c2 := f_ref06All (T0 := T0) s (by omega)
  cases hok : okT w h l x y b with
  | false =>
    rw [hok] at c1
    have e : feedT (w, h, l, x, y, b) s = (noT, [], 1) := if_neg (by rw [show okTm (w, h, l, x, y, b) = okT w h l x y b from rfl, hok]; decide)
    rw [e]
    have c2 : True := trivial
    have c3 : True := trivial
    refine af_intro Tryd.func34 rfl (by decide) Tryd.ntmps34 rfl ?_
    repeat' (first
    | fail
    | refine s_y ?_
      | refine c_ ?_
      | (refine aw_if ?_ ?_ <;> intro hb <;> try (exfalso; first | assumption | omega | (simp only [or_self, and_self, not_true_eq_false, not_false_eq_true, or_false, false_or, and_false, false_and, true_and, and_true] at hb; first | done | omega)))
      | refine s_call ?_ (c := by first | exact c1 | exact c2 | exact c3 | fail)
      | refine s_op ?_ (hy := by first | fail | fail)
      | refine s_yg ?_
      | refine s_callg ?_ (c := by intro hk hk2; first | exact c1 | exact c2 | exact c3 | fail)
      | refine s_opg ?_ (hy := by intro hk hk2; first | fail | fail)
      | refine s_skip ?_
      | ((first | refine w_alloc ?_ | refine w_box ?_) <;> intro bb)
      | ((first | refine w_emp ?_ | refine w_make ?_ | refine w_app ?_) <;> intro u hu1 hu2)
      | refine w_stv ?_ | refine w_str ?_ | refine w_cpr ?_ | refine w_cps ?_
      | refine al_last (by kernel_rfl) ?_
    | fail)
    all_goals first | (exfalso; simp at hb; done) | exact ⟨_, [], rl_, List.nil_sublist _, sub_noTm3, rfl⟩
  | true =>
    rw [hok] at c1
    have c3 : True := trivial
    rcases allS_err s with he | he
    · have e : feedT (w, h, l, x, y, b) s = (runT (w, h, l, x, y, b) (allS s).1, (allS s).2.1, 0) := by rw [feedT, if_pos hok, if_pos he]
      rw [e]
      have hle := allS_len s
      obtain ⟨⟨cs, rest, er⟩, hx⟩ : ∃ z, z = allS s := ⟨_, rfl⟩
      rw [← hx] at c2 he hle ⊢
      simp only at c2 he hle ⊢
      subst he
      clear e hx
      obtain ⟨t0, ht0⟩ : ∃ t0 : Tm, t0 = (w, h, l, x, y, b) := ⟨_, rfl⟩
      rw [← ht0]
      refine af_intro Tryd.func34 rfl (by decide) Tryd.ntmps34 rfl ?_
      repeat' (first
      | fail
      | refine s_y ?_
        | refine c_ ?_
        | (refine aw_if ?_ ?_ <;> intro hb <;> try (exfalso; first | assumption | omega | (simp only [or_self, and_self, not_true_eq_false, not_false_eq_true, or_false, false_or, and_false, false_and, true_and, and_true] at hb; first | done | omega)))
        | refine s_call ?_ (c := by first | exact c1 | exact c2 | exact c3 | fail)
        | refine s_op ?_ (hy := by first | fail | fail)
        | refine s_yg ?_
        | refine s_callg ?_ (c := by intro hk hk2; first | exact c1 | exact c2 | exact c3 | fail)
        | refine s_opg ?_ (hy := by intro hk hk2; first | fail | fail)
        | refine s_skip ?_
        | ((first | refine w_alloc ?_ | refine w_box ?_) <;> intro bb)
        | ((first | refine w_emp ?_ | refine w_make ?_ | refine w_app ?_) <;> intro u hu1 hu2)
        | refine w_stv ?_ | refine w_str ?_ | refine w_cpr ?_ | refine w_cps ?_
        | refine al_last (by kernel_rfl) ?_
      | fail)
      all_goals first | (exfalso; simp at hb; done) | skip
      refine aw_lv (σ := Nat × Tm) (fun z => [(10, I z.1)]) (fun z => tmC z.2) (fun z => z.1 ≤ cs.length ∧ z.2 = runT t0 (cs.take z.1)) (fun z => cs.length - z.1) (0, w, h, l, x, y, b) ⟨Nat.zero_le _, ht0.symm⟩ rfl ?_
      rintro ⟨k, w', h', l', x', y', b'⟩ ⟨i1, i2⟩
      simp only at i1 i2 ⊢
      clear c1 c2
      have c1 : True := trivial
      have c2 : True := trivial
      by_cases hlt : k < cs.length
      · have hget : cs[k]? = some cs[k] := List.getElem?_eq_getElem hlt
        have hn := runT_snoc t0 cs k hlt
        rw [← i2] at hn
        generalize cs[k] = c at hget hn
        clear c3
        have c3 := f_ref07Do (T0 := T0) w' h' l' x' y' b' c
        obtain ⟨⟨⟨w2, h2, l2, x2, y2, b2⟩, er2⟩, hz⟩ : ∃ z, z = doT (w', h', l', x', y', b') c := ⟨_, rfl⟩
        rw [← hz] at c3 hn
        simp only at c3 hn
        clear hz
        repeat' (first
        | fail
        | (apply aw_regionD 8 9; (case hN => decide +kernel); (case hD => decide +kernel); (case hB => kernel_rfl); (case hm => kernel_rfl); (case hod => rfl); (case hl => rfl); (case hn => rfl); (case hsd => rfl); (case hb => rfl))
          | (apply endD_; (case h2 => exact delf_))
          | (apply aw_regionS; (case h2 => rfl); (case hD => decide +kernel); (case hB => decide +kernel); (case hg => decide +kernel); (case hm => kernel_rfl); (case hoL => rfl); (case hod => rfl))
          | refine endS_ ?_
        | (apply aw_regionN; (case hn => rfl); (case hm => kernel_rfl))
          | refine an_end ?_ (by rfl)
          | (apply an_all; (case hL => rfl); (case hne => rfl))
          | exact ai_nil
          | apply ai_cons
          | (apply at_i; (case ho => rfl))
          | (apply j_first; exact ext1_)
          | (apply j_next; (case h => exact ext_); (case hk => exact wk_); (case hc => rfl))
        | refine aw_seq ?_
          | refine aw_region0 ?_
          | refine al_nil ?_
          | refine th_n ?_
          | refine th_e ?_
          | refine th_r ?_
          | refine ib_n ?_
          | refine ib_e rfl ?_
          | refine ib_e' rfl ?_
          | refine ib_r ?_
          | refine aw_block ?_
          | refine aw_exit ?_
          | refine aw_ret ?_
          | refine aw_skip ?_
          | (apply aw_region1q (by rfl) (by kernel_rfl) (by kernel_rfl))
        | refine s_y ?_
          | refine c_ ?_
          | (refine aw_if ?_ ?_ <;> intro hb <;> try (exfalso; first | assumption | omega | (simp only [or_self, and_self, not_true_eq_false, not_false_eq_true, or_false, false_or, and_false, false_and, true_and, and_true] at hb; first | done | omega)))
          | refine s_call ?_ (c := by first | exact c1 | exact c2 | exact c3 | fail)
          | refine s_op ?_ (hy := by first | fail | fail)
          | refine s_yg ?_
          | refine s_callg ?_ (c := by intro hk hk2; first | exact c1 | exact c2 | exact c3 | fail)
          | refine s_opg ?_ (hy := by intro hk hk2; first | fail | fail)
          | refine s_skip ?_
          | ((first | refine w_alloc ?_ | refine w_box ?_) <;> intro bb)
          | ((first | refine w_emp ?_ | refine w_make ?_ | refine w_app ?_) <;> intro u hu1 hu2)
          | refine w_stv ?_ | refine w_str ?_ | refine w_cpr ?_ | refine w_cps ?_
          | refine al_last (by kernel_rfl) ?_
        | fail)
        all_goals first | (exfalso; omega) | exact ⟨(k + 1, w2, h2, l2, x2, y2, b2), ⟨by simp only; omega, hn.symm⟩, by simp only; omega, wx_, sl_⟩
      · rw [List.take_of_length_le (by omega)] at i2
        rw [← i2]
        repeat' (first
        | fail
        | refine s_y ?_
          | refine c_ ?_
          | (refine aw_if ?_ ?_ <;> intro hb <;> try (exfalso; first | assumption | omega | (simp only [or_self, and_self, not_true_eq_false, not_false_eq_true, or_false, false_or, and_false, false_and, true_and, and_true] at hb; first | done | omega)))
          | refine s_call ?_ (c := by first | exact c1 | exact c2 | exact c3 | fail)
          | refine s_op ?_ (hy := by first | fail | fail)
          | refine s_yg ?_
          | refine s_callg ?_ (c := by intro hk hk2; first | exact c1 | exact c2 | exact c3 | fail)
          | refine s_opg ?_ (hy := by intro hk hk2; first | fail | fail)
          | refine s_skip ?_
          | ((first | refine w_alloc ?_ | refine w_box ?_) <;> intro bb)
          | ((first | refine w_emp ?_ | refine w_make ?_ | refine w_app ?_) <;> intro u hu1 hu2)
          | refine w_stv ?_ | refine w_str ?_ | refine w_cpr ?_ | refine w_cps ?_
          | refine al_last (by kernel_rfl) ?_
        | fail)
        all_goals first | (exfalso; omega) | exact ⟨_, [], rl_, List.nil_sublist _, Sub.refl _, rfl⟩
    · have e : feedT (w, h, l, x, y, b) s = (noT, [], 2) := by rw [feedT, if_pos hok, he]; rfl
      rw [e]
      rw [he] at c2
      refine af_intro Tryd.func34 rfl (by decide) Tryd.ntmps34 rfl ?_
      repeat' (first
      | fail
      | refine s_y ?_
        | refine c_ ?_
        | (refine aw_if ?_ ?_ <;> intro hb <;> try (exfalso; first | assumption | omega | (simp only [or_self, and_self, not_true_eq_false, not_false_eq_true, or_false, false_or, and_false, false_and, true_and, and_true] at hb; first | done | omega)))
        | refine s_call ?_ (c := by first | exact c1 | exact c2 | exact c3 | fail)
        | refine s_op ?_ (hy := by first | fail | fail)
        | refine s_yg ?_
        | refine s_callg ?_ (c := by intro hk hk2; first | exact c1 | exact c2 | exact c3 | fail)
        | refine s_opg ?_ (hy := by intro hk hk2; first | fail | fail)
        | refine s_skip ?_
        | ((first | refine w_alloc ?_ | refine w_box ?_) <;> intro bb)
        | ((first | refine w_emp ?_ | refine w_make ?_ | refine w_app ?_) <;> intro u hu1 hu2)
        | refine w_stv ?_ | refine w_str ?_ | refine w_cpr ?_ | refine w_cps ?_
        | refine al_last (by kernel_rfl) ?_
      | fail)
      all_goals first | (exfalso; simp at hb; done) | exact ⟨_, [], rl_, List.nil_sublist _, sub_noTm3, rfl⟩
end Go.Proofs.YtplabpjkkcillaaDoor
/- Layer 7 (term): Resize and Same; the example. No condition. -/
namespace Go.Proofs.YtplabpjkkcillaaDoor
set_option linter.unusedSimpArgs false
set_option linter.unusedVariables false
set_option linter.unusedSectionVars false
set_option maxHeartbeats 4000000
open Go Go.RowKit
set_option maxRecDepth 200000
/-! ### the same, told so that it can be reckoned -/
def putC (w h : Int) (l : List Cell) (x y r : Int) : (Int × Int × List Cell) × Int := if (okB w h l = true ∧ 0 ≤ x ∧ x < w ∧ 0 ≤ y ∧ y < h) ∧ shown r = true ∧ x + (cellsM r).length ≤ w then ((w, h, layG l (y.toNat * w.toNat + x.toNat) (cellsM r)), 0) else ((0, 0, []), 1)
theorem putR_c (w h : Int) (l : List Cell) (x y r : Int) : putR w h l x y r = putC w h l x y r := by unfold putR putC; rw [okG_eq]
def blankC (w h : Int) (l : List Cell) (a b : Int) : (Int × Int × List Cell) × Int := if okB w h l = true ∧ 0 ≤ a ∧ a ≤ b ∧ b ≤ l.length then ((w, h, layG l a.toNat (List.replicate (b - a).toNat (32, 0))), 0) else ((0, 0, []), 1)
theorem blankR_c (w h : Int) (l : List Cell) (a b : Int) : blankR w h l a b = blankC w h l a b := by unfold blankR blankC; rw [okG_eq]
def scrollC (w h : Int) (l : List Cell) : List Cell := if okB w h l = true then l.drop w.toNat ++ List.replicate w.toNat (32, 0) else l
theorem scrollR_c (w h : Int) (l : List Cell) : scrollR w h l = scrollC w h l := by unfold scrollR scrollC; rw [okG_eq]
def downC (w h : Int) (l : List Cell) (y : Int) : List Cell × Int := if y = h - 1 then (scrollC w h l, y) else (l, y + 1)
theorem downL_c (w h : Int) (l : List Cell) (y : Int) : downL w h l y = downC w h l y := by unfold downL downC; rw [scrollR_c]
def textAtC (w h : Int) (l : List Cell) (x y r : Int) : Tm := (w, h, (putC w h l x y r).1.2.2, inM (x + (cellsM r).length) (w - 1), y, decide (x + (cellsM r).length = w))
theorem textAt_c (w h : Int) (l : List Cell) (x y r : Int) : textAt w h l x y r = textAtC w h l x y r := by unfold textAt textAtC; rw [putR_c]
def textKC (w h : Int) (l : List Cell) (x y : Int) (b : Bool) (r : Int) : Tm :=
  if b = true ∨ w < x + (cellsM r).length then textAtC w h (downC w h l y).1 0 (downC w h l y).2 r else textAtC w h l x y r
theorem textK_c (w h : Int) (l : List Cell) (x y : Int) (b : Bool) (r : Int) : textK w h l x y b r = textKC w h l x y b r := by unfold textK textKC; rw [textAt_c, textAt_c, downL_c]
def doKC (w h : Int) (l : List Cell) (x y : Int) (b : Bool) (c : Cmd) : Tm :=
  if c.1 = 1 then textKC w h l x y b c.2.2.2
  else if c.1 = 12 then (w, h, l, x, y, b)
  else if c.1 = 2 then goK w h l c.2.2.1 c.2.1
  else if c.1 = 3 then goK w h l x (y - c.2.1)
  else if c.1 = 4 then goK w h l x (y + c.2.1)
  else if c.1 = 5 then goK w h l (x + c.2.1) y
  else if c.1 = 6 then goK w h l (x - c.2.1) y
  else if c.1 = 7 then (w, h, (blankC w h l (y * w + x) ((y + 1) * w)).1.2.2, x, y, false)
  else if c.1 = 8 then (w, h, (blankC w h l (y * w + x) l.length).1.2.2, x, y, false)
  else if c.1 = 9 then goK w h l 0 y
  else if c.1 = 10 then (w, h, (downC w h l y).1, x, (downC w h l y).2, false)
  else goK w h l (x - 1) y
theorem doK_c (w h : Int) (l : List Cell) (x y : Int) (b : Bool) (c : Cmd) : doK w h l x y b c = doKC w h l x y b c := by unfold doK doKC; rw [textK_c, blankR_c, blankR_c, downL_c]
def okTC (w h : Int) (l : List Cell) (x y : Int) (b : Bool) : Bool := okB w h l && decide (0 ≤ x ∧ x < w ∧ 0 ≤ y ∧ y < h) && (!b || decide (x = w - 1))
theorem okT_c (w h : Int) (l : List Cell) (x y : Int) (b : Bool) : okT w h l x y b = okTC w h l x y b := by unfold okT okTC; rw [okG_eq]
def doTC (t : Tm) (c : Cmd) : Tm × Int := if okTC t.1 t.2.1 t.2.2.1 t.2.2.2.1 t.2.2.2.2.1 t.2.2.2.2.2 = true ∧ isCmd c = true then (doKC t.1 t.2.1 t.2.2.1 t.2.2.2.1 t.2.2.2.2.1 t.2.2.2.2.2 c, 0) else (noT, 1)
theorem doT_c (t : Tm) (c : Cmd) : doT t c = doTC t c := by unfold doT doTC; rw [okT_c, doK_c]
def runTC (t : Tm) (l : List Cmd) : Tm := l.foldl (fun t c => (doTC t c).1) t
theorem runT_c (t : Tm) (l : List Cmd) : runT t l = runTC t l := by
  unfold runT runTC
  have : (fun (t : Tm) (c : Cmd) => (doT t c).1) = fun t c => (doTC t c).1 := funext fun t => funext fun c => by rw [doT_c]
  rw [this]
def feedTC (t : Tm) (s : List UInt8) : Tm × List UInt8 × Int := if okTC t.1 t.2.1 t.2.2.1 t.2.2.2.1 t.2.2.2.2.1 t.2.2.2.2.2 = true then (if (allS s).2.2 = 0 then (runTC t (allS s).1, (allS s).2.1, 0) else (noT, [], (allS s).2.2)) else (noT, [], 1)
theorem feedT_c (t : Tm) (s : List UInt8) : feedT t s = feedTC t s := by unfold feedT feedTC okTm; rw [okT_c, runT_c]
def sizeTC (t : Tm) (W H : Int) : Tm × Int := if okTC t.1 t.2.1 t.2.2.1 t.2.2.2.1 t.2.2.2.2.1 t.2.2.2.2.2 = true then (if sidesM W H = true then ((W, H, fitK t.1.toNat t.2.1.toNat t.2.2.1 W.toNat H.toNat (min H.toNat t.2.1.toNat), inM t.2.2.2.1 (W - 1), inM t.2.2.2.2.1 (H - 1), false), 0) else (noT, 4)) else (noT, 1)
theorem sizeT_c (t : Tm) (W H : Int) : sizeT t W H = sizeTC t W H := by unfold sizeT sizeTC okTm; rw [okT_c]
variable {T0 : Gh} [TabS T0]
attribute [local irreducible] thenA inBlockA AW AL AO QY varO rowO rsA Opd OpdN vA gvA tupA aggA slA slcA ipA rpA EqK LnK IxK LdK FaK FdK
theorem f_termResize (w h : Int) (l : List Cell) (x y : Int) (b : Bool) (W H : Int) : AP Tryd.prog T0 35 [termA w h l x y b, I W, I H] (tupA [tmA (sizeT (w, h, l, x, y, b) W H).1, I (sizeT (w, h, l, x, y, b) W H).2]) := by
  have c1 := f_termIs (T0 := T0) w h l x y b
  cases hok : okT w h l x y b with
  | false =>
    rw [hok] at c1
    have e : sizeT (w, h, l, x, y, b) W H = (noT, 1) := if_neg (by rw [show okTm (w, h, l, x, y, b) = okT w h l x y b from rfl, hok]; decide)
    rw [e]
    have c2 : True := trivial
    have ct : True := trivial
    refine af_intro Tryd.func35 rfl (by decide) Tryd.ntmps35 rfl ?_
    repeat' (first
    | (apply al_call1 rfl rfl rfl rfl (c := ct _)
       case ha => exact os_
       case hM => exact pick_
       rintro _ _ rfl
       simp only [List.cons_append, List.nil_append, List.append_eq])
    | refine s_y ?_
      | refine c_ ?_
      | (refine aw_if ?_ ?_ <;> intro hb <;> try (exfalso; first | assumption | omega | (simp only [or_self, and_self, not_true_eq_false, not_false_eq_true, or_false, false_or, and_false, false_and, true_and, and_true] at hb; first | done | omega)))
      | refine s_call ?_ (c := by first | exact c1 | exact c2 | exact f_within _ _ (by omega) | fail)
      | refine s_op ?_ (hy := by first | fail | fail)
      | refine s_yg ?_
      | refine s_callg ?_ (c := by intro hk hk2; first | exact c1 | exact c2 | exact f_within _ _ (by omega) | fail)
      | refine s_opg ?_ (hy := by intro hk hk2; first | fail | fail)
      | refine s_skip ?_
      | ((first | refine w_alloc ?_ | refine w_box ?_) <;> intro bb)
      | ((first | refine w_emp ?_ | refine w_make ?_ | refine w_app ?_) <;> intro u hu1 hu2)
      | refine w_stv ?_ | refine w_str ?_ | refine w_cpr ?_ | refine w_cps ?_
      | refine al_last (by kernel_rfl) ?_
    | fail)
    all_goals first | (exfalso; simp at hb; done) | exact ⟨_, [], rl_, List.nil_sublist _, sub_noTm, rfl⟩
  | true =>
    rw [hok] at c1
    obtain ⟨h1, ⟨h2, h3, h4, h5⟩, h6⟩ := okT_iff.1 hok
    have hg := okG_len h1
    cases hs : sidesM W H with
    | true =>
      have e : sizeT (w, h, l, x, y, b) W H = ((W, H, fitK w.toNat h.toNat l W.toNat H.toNat (min H.toNat h.toNat), inM x (W - 1), inM y (H - 1), false), 0) := by rw [sizeT, if_pos hok, if_pos hs]
      rw [e]
      obtain ⟨l2, hl2⟩ : ∃ z, z = fitK w.toNat h.toNat l W.toNat H.toNat (min H.toNat h.toNat) := ⟨_, rfl⟩
      have e2 : fitR w h l W H = ((W, H, l2), 0) := by rw [fitR, if_pos h1, if_pos hs, ← hl2]
      have c2 : AP Tryd.prog T0 68 [gridA w h l, I W, I H] (tupA [gridA W H l2, I 0]) := (f_Fit w h W H l (by omega)).to (by rw [e2]; rfl)
      rw [← hl2]
      have hr : 2 ≤ W ∧ W ≤ 80 ∧ 1 ≤ H ∧ H ≤ 24 := by simpa [sidesM, and_assoc] using hs
      have ct := fun p => f_to (T0 := T0) p W H l2 0 0 false x y hr
      clear e e2 hl2
      refine af_intro Tryd.func35 rfl (by decide) Tryd.ntmps35 rfl ?_
      repeat' (first
      | (apply al_call1 rfl rfl rfl rfl (c := ct _)
         case ha => exact os_
         case hM => exact pick_
         rintro _ _ rfl
         simp only [List.cons_append, List.nil_append, List.append_eq])
      | refine s_y ?_
        | refine c_ ?_
        | (refine aw_if ?_ ?_ <;> intro hb <;> try (exfalso; first | assumption | omega | (simp only [or_self, and_self, not_true_eq_false, not_false_eq_true, or_false, false_or, and_false, false_and, true_and, and_true] at hb; first | done | omega)))
        | refine s_call ?_ (c := by first | exact c1 | exact c2 | exact f_within _ _ (by omega) | fail)
        | refine s_op ?_ (hy := by first | fail | fail)
        | refine s_yg ?_
        | refine s_callg ?_ (c := by intro hk hk2; first | exact c1 | exact c2 | exact f_within _ _ (by omega) | fail)
        | refine s_opg ?_ (hy := by intro hk hk2; first | fail | fail)
        | refine s_skip ?_
        | ((first | refine w_alloc ?_ | refine w_box ?_) <;> intro bb)
        | ((first | refine w_emp ?_ | refine w_make ?_ | refine w_app ?_) <;> intro u hu1 hu2)
        | refine w_stv ?_ | refine w_str ?_ | refine w_cpr ?_ | refine w_cps ?_
        | refine al_last (by kernel_rfl) ?_
      | fail)
      all_goals first | (exfalso; simp at hb; done) | exact ⟨_, [], rl_, List.nil_sublist _, Sub.refl _, rfl⟩
    | false =>
      have e : sizeT (w, h, l, x, y, b) W H = (noT, 4) := by rw [sizeT, if_pos hok, if_neg (by rw [hs]; decide)]
      rw [e]
      have c2 : AP Tryd.prog T0 68 [gridA w h l, I W, I H] (tupA [gridA 0 0 [], I 4]) := (f_Fit w h W H l (by omega)).to (by rw [fitR, if_pos h1, if_neg (by rw [hs]; decide)]; rfl)
      have ct : True := trivial
      refine af_intro Tryd.func35 rfl (by decide) Tryd.ntmps35 rfl ?_
      repeat' (first
      | (apply al_call1 rfl rfl rfl rfl (c := ct _)
         case ha => exact os_
         case hM => exact pick_
         rintro _ _ rfl
         simp only [List.cons_append, List.nil_append, List.append_eq])
      | refine s_y ?_
        | refine c_ ?_
        | (refine aw_if ?_ ?_ <;> intro hb <;> try (exfalso; first | assumption | omega | (simp only [or_self, and_self, not_true_eq_false, not_false_eq_true, or_false, false_or, and_false, false_and, true_and, and_true] at hb; first | done | omega)))
        | refine s_call ?_ (c := by first | exact c1 | exact c2 | exact f_within _ _ (by omega) | fail)
        | refine s_op ?_ (hy := by first | fail | fail)
        | refine s_yg ?_
        | refine s_callg ?_ (c := by intro hk hk2; first | exact c1 | exact c2 | exact f_within _ _ (by omega) | fail)
        | refine s_opg ?_ (hy := by intro hk hk2; first | fail | fail)
        | refine s_skip ?_
        | ((first | refine w_alloc ?_ | refine w_box ?_) <;> intro bb)
        | ((first | refine w_emp ?_ | refine w_make ?_ | refine w_app ?_) <;> intro u hu1 hu2)
        | refine w_stv ?_ | refine w_str ?_ | refine w_cpr ?_ | refine w_cps ?_
        | refine al_last (by kernel_rfl) ?_
      | fail)
      all_goals first | (exfalso; simp at hb; done) | exact ⟨_, [], rl_, List.nil_sublist _, sub_noTm, rfl⟩
theorem f_ref07Same (w h : Int) (l : List Cell) (x y : Int) (b : Bool) (w' h' : Int) (l' : List Cell) (x' y' : Int) (b' : Bool) : AP Tryd.prog T0 28 [termA w h l x y b, termA w' h' l' x' y' b'] (B (decide ((w, h, l, x, y, b) = (w', h', l', x', y', b')))) := by
  refine af_intro Tryd.func28 rfl (by decide) Tryd.ntmps28 rfl ?_
  repeat' (first
  | fail
  | refine s_y ?_
    | refine c_ ?_
    | (refine aw_if ?_ ?_ <;> intro hb <;> try (exfalso; first | assumption | omega | (simp only [or_self, and_self, not_true_eq_false, not_false_eq_true, or_false, false_or, and_false, false_and, true_and, and_true] at hb; first | done | omega)))
    | refine s_call ?_ (c := by first | exact f_ref03Same _ _ _ _ _ _ | fail)
    | refine s_op ?_ (hy := by first | fail | fail)
    | refine s_yg ?_
    | refine s_callg ?_ (c := by intro hk hk2; first | exact f_ref03Same _ _ _ _ _ _ | fail)
    | refine s_opg ?_ (hy := by intro hk hk2; first | fail | fail)
    | refine s_skip ?_
    | ((first | refine w_alloc ?_ | refine w_box ?_) <;> intro bb)
    | ((first | refine w_emp ?_ | refine w_make ?_ | refine w_app ?_) <;> intro u hu1 hu2)
    | refine w_stv ?_ | refine w_str ?_ | refine w_cpr ?_ | refine w_cps ?_
    | refine al_last (by kernel_rfl) ?_
  | fail)
  refine ⟨_, [], rl_, List.nil_sublist _, Sub.eq (congrArg B ?_), rfl⟩
  rw [Bool.eq_iff_iff]; simp only [Bool.and_eq_true, decide_eq_true_eq, Prod.mk.injEq, beq_iff_eq]
  constructor
  · rintro ⟨⟨⟨⟨a, c, d⟩, e⟩, f⟩, g⟩; exact ⟨a, c, d, e, f, g⟩
  · rintro ⟨a, c, d, e, f, g⟩; exact ⟨⟨⟨⟨a, c, d⟩, e⟩, f⟩, g⟩
theorem f_big07 (w h : Int) (l : List Cell) (x y : Int) (b : Bool) : AP Tryd.prog T0 24 [termA w h l x y b] (B (decide ((3000 : Int) < l.length))) := by
  refine af_intro Tryd.func24 rfl (by decide) Tryd.ntmps24 rfl ?_
  repeat' (first
  | fail
  | refine s_y ?_
    | refine c_ ?_
    | (refine aw_if ?_ ?_ <;> intro hb <;> try (exfalso; first | assumption | omega | (simp only [or_self, and_self, not_true_eq_false, not_false_eq_true, or_false, false_or, and_false, false_and, true_and, and_true] at hb; first | done | omega)))
    | refine s_call ?_ (c := by first | exact f_ref03Same _ _ _ _ _ _ | fail)
    | refine s_op ?_ (hy := by first | fail | fail)
    | refine s_yg ?_
    | refine s_callg ?_ (c := by intro hk hk2; first | exact f_ref03Same _ _ _ _ _ _ | fail)
    | refine s_opg ?_ (hy := by intro hk hk2; first | fail | fail)
    | refine s_skip ?_
    | ((first | refine w_alloc ?_ | refine w_box ?_) <;> intro bb)
    | ((first | refine w_emp ?_ | refine w_make ?_ | refine w_app ?_) <;> intro u hu1 hu2)
    | refine w_stv ?_ | refine w_str ?_ | refine w_cpr ?_ | refine w_cps ?_
    | refine al_last (by kernel_rfl) ?_
  | fail)
  exact ⟨_, [], rl_, List.nil_sublist _, Sub.refl _, rfl⟩
end Go.Proofs.YtplabpjkkcillaaDoor
/- Layer 7 (term): the reference's Resize. No condition. -/
namespace Go.Proofs.YtplabpjkkcillaaDoor
set_option linter.unusedSimpArgs false
set_option linter.unusedVariables false
set_option linter.unusedSectionVars false
set_option maxHeartbeats 4000000
open Go Go.RowKit
set_option maxRecDepth 200000
variable {T0 : Gh} [TabS T0]
attribute [local irreducible] thenA inBlockA AW AL AO QY varO rowO rsA Opd OpdN vA gvA tupA aggA slA slcA ipA rpA EqK LnK IxK LdK FaK FdK
theorem f_ref07Resize (w h : Int) (l : List Cell) (x y : Int) (b : Bool) (W H : Int) : AP Tryd.prog T0 36 [termA w h l x y b, I W, I H] (tupA [tmA (sizeT (w, h, l, x, y, b) W H).1, I (sizeT (w, h, l, x, y, b) W H).2]) := by
  have c1 := f_ref07Is (T0 := T0) w h l x y b
  cases hok : okT w h l x y b with
  | false =>
    rw [hok] at c1
    have e : sizeT (w, h, l, x, y, b) W H = (noT, 1) := if_neg (by rw [show okTm (w, h, l, x, y, b) = okT w h l x y b from rfl, hok]; decide)
    rw [e]
    have c2 : True := trivial
    have ct : True := trivial
    refine af_intro Tryd.func36 rfl (by decide) Tryd.ntmps36 rfl ?_
    repeat' (first
    | (apply al_call1 rfl rfl rfl rfl (c := ct _)
       case ha => exact os_
       case hM => exact pick_
       rintro _ _ rfl
       simp only [List.cons_append, List.nil_append, List.append_eq])
    | refine s_y ?_
      | refine c_ ?_
      | (refine aw_if ?_ ?_ <;> intro hb <;> try (exfalso; first | assumption | omega | (simp only [or_self, and_self, not_true_eq_false, not_false_eq_true, or_false, false_or, and_false, false_and, true_and, and_true] at hb; first | done | omega)))
      | refine s_call ?_ (c := by first | exact c1 | exact c2 | exact f_within _ _ (by omega) | fail)
      | refine s_op ?_ (hy := by first | fail | fail)
      | refine s_yg ?_
      | refine s_callg ?_ (c := by intro hk hk2; first | exact c1 | exact c2 | exact f_within _ _ (by omega) | fail)
      | refine s_opg ?_ (hy := by intro hk hk2; first | fail | fail)
      | refine s_skip ?_
      | ((first | refine w_alloc ?_ | refine w_box ?_) <;> intro bb)
      | ((first | refine w_emp ?_ | refine w_make ?_ | refine w_app ?_) <;> intro u hu1 hu2)
      | refine w_stv ?_ | refine w_str ?_ | refine w_cpr ?_ | refine w_cps ?_
      | refine al_last (by kernel_rfl) ?_
    | fail)
    all_goals first | (exfalso; simp at hb; done) | exact ⟨_, [], rl_, List.nil_sublist _, sub_noTm, rfl⟩
  | true =>
    rw [hok] at c1
    obtain ⟨h1, ⟨h2, h3, h4, h5⟩, h6⟩ := okT_iff.1 hok
    have hg := okG_len h1
    cases hs : sidesM W H with
    | true =>
      have e : sizeT (w, h, l, x, y, b) W H = ((W, H, fitK w.toNat h.toNat l W.toNat H.toNat (min H.toNat h.toNat), inM x (W - 1), inM y (H - 1), false), 0) := by rw [sizeT, if_pos hok, if_pos hs]
      rw [e]
      obtain ⟨l2, hl2⟩ : ∃ z, z = fitK w.toNat h.toNat l W.toNat H.toNat (min H.toNat h.toNat) := ⟨_, rfl⟩
      have e2 : fitR w h l W H = ((W, H, l2), 0) := by rw [fitR, if_pos h1, if_pos hs, ← hl2]
      have c2 : AP Tryd.prog T0 70 [gridA w h l, I W, I H] (tupA [gridA W H l2, I 0]) := (f_ref03Fit w h W H l (by omega)).to (by rw [e2]; rfl)
      rw [← hl2]
      have hr : 2 ≤ W ∧ W ≤ 80 ∧ 1 ≤ H ∧ H ≤ 24 := by simpa [sidesM, and_assoc] using hs
      have ct := fun p => f_to (T0 := T0) p W H l2 0 0 false x y hr
      clear e e2 hl2
      refine af_intro Tryd.func36 rfl (by decide) Tryd.ntmps36 rfl ?_
      repeat' (first
      | (apply al_call1 rfl rfl rfl rfl (c := ct _)
         case ha => exact os_
         case hM => exact pick_
         rintro _ _ rfl
         simp only [List.cons_append, List.nil_append, List.append_eq])
      | (apply aw_regionD 13 12; (case hN => decide +kernel); (case hD => decide +kernel); (case hB => kernel_rfl); (case hm => kernel_rfl); (case hod => rfl); (case hl => rfl); (case hn => rfl); (case hsd => rfl); (case hb => rfl))
        | (apply endD_; (case h2 => exact delf_))
        | (apply aw_regionS; (case h2 => rfl); (case hD => decide +kernel); (case hB => decide +kernel); (case hg => decide +kernel); (case hm => kernel_rfl); (case hoL => rfl); (case hod => rfl))
        | refine endS_ ?_
      | (apply aw_regionN; (case hn => rfl); (case hm => kernel_rfl))
        | refine an_end ?_ (by rfl)
        | (apply an_all; (case hL => rfl); (case hne => rfl))
        | exact ai_nil
        | apply ai_cons
        | (apply at_i; (case ho => rfl))
        | (apply j_first; exact ext1_)
        | (apply j_next; (case h => exact ext_); (case hk => exact wk_); (case hc => rfl))
      | refine aw_seq ?_
        | refine aw_region0 ?_
        | refine al_nil ?_
        | refine th_n ?_
        | refine th_e ?_
        | refine th_r ?_
        | refine ib_n ?_
        | refine ib_e rfl ?_
        | refine ib_e' rfl ?_
        | refine ib_r ?_
        | refine aw_block ?_
        | refine aw_exit ?_
        | refine aw_ret ?_
        | refine aw_skip ?_
        | (apply aw_region1q (by rfl) (by kernel_rfl) (by kernel_rfl))
      | refine s_y ?_
        | refine c_ ?_
        | (refine aw_if ?_ ?_ <;> intro hb <;> try (exfalso; first | assumption | omega | (simp only [or_self, and_self, not_true_eq_false, not_false_eq_true, or_false, false_or, and_false, false_and, true_and, and_true] at hb; first | done | omega)))
        | refine s_call ?_ (c := by first | exact c1 | exact c2 | exact f_within _ _ (by omega) | fail)
        | refine s_op ?_ (hy := by first | fail | fail)
        | refine s_yg ?_
        | refine s_callg ?_ (c := by intro hk hk2; first | exact c1 | exact c2 | exact f_within _ _ (by omega) | fail)
        | refine s_opg ?_ (hy := by intro hk hk2; first | fail | fail)
        | refine s_skip ?_
        | ((first | refine w_alloc ?_ | refine w_box ?_) <;> intro bb)
        | ((first | refine w_emp ?_ | refine w_make ?_ | refine w_app ?_) <;> intro u hu1 hu2)
        | refine w_stv ?_ | refine w_str ?_ | refine w_cpr ?_ | refine w_cps ?_
        | refine al_last (by kernel_rfl) ?_
      | fail)
      all_goals first | (exfalso; simp at hb; done) | exact ⟨_, [], rl_, List.nil_sublist _, Sub.refl _, rfl⟩
    | false =>
      have e : sizeT (w, h, l, x, y, b) W H = (noT, 4) := by rw [sizeT, if_pos hok, if_neg (by rw [hs]; decide)]
      rw [e]
      have c2 : AP Tryd.prog T0 70 [gridA w h l, I W, I H] (tupA [gridA 0 0 [], I 4]) := (f_ref03Fit w h W H l (by omega)).to (by rw [fitR, if_pos h1, if_neg (by rw [hs]; decide)]; rfl)
      have ct : True := trivial
      refine af_intro Tryd.func36 rfl (by decide) Tryd.ntmps36 rfl ?_
      repeat' (first
      | (apply al_call1 rfl rfl rfl rfl (c := ct _)
         case ha => exact os_
         case hM => exact pick_
         rintro _ _ rfl
         simp only [List.cons_append, List.nil_append, List.append_eq])
      | refine s_y ?_
        | refine c_ ?_
        | (refine aw_if ?_ ?_ <;> intro hb <;> try (exfalso; first | assumption | omega | (simp only [or_self, and_self, not_true_eq_false, not_false_eq_true, or_false, false_or, and_false, false_and, true_and, and_true] at hb; first | done | omega)))
        | refine s_call ?_ (c := by first | exact c1 | exact c2 | exact f_within _ _ (by omega) | fail)
        | refine s_op ?_ (hy := by first | fail | fail)
        | refine s_yg ?_
        | refine s_callg ?_ (c := by intro hk hk2; first | exact c1 | exact c2 | exact f_within _ _ (by omega) | fail)
        | refine s_opg ?_ (hy := by intro hk hk2; first | fail | fail)
        | refine s_skip ?_
        | ((first | refine w_alloc ?_ | refine w_box ?_) <;> intro bb)
        | ((first | refine w_emp ?_ | refine w_make ?_ | refine w_app ?_) <;> intro u hu1 hu2)
        | refine w_stv ?_ | refine w_str ?_ | refine w_cpr ?_ | refine w_cps ?_
        | refine al_last (by kernel_rfl) ?_
      | fail)
      all_goals first | (exfalso; simp at hb; done) | exact ⟨_, [], rl_, List.nil_sublist _, sub_noTm, rfl⟩
end Go.Proofs.YtplabpjkkcillaaDoor
/- Layer 7 (term): the example, and the laws of New, Do, Feed and Resize. No condition. -/
namespace Go.Proofs.YtplabpjkkcillaaDoor
set_option linter.unusedSimpArgs false
set_option linter.unusedVariables false
set_option linter.unusedSectionVars false
set_option maxHeartbeats 4000000
open Go Go.RowKit
variable {T0 : Gh} [TabS T0] [TabU T0]
set_option maxRecDepth 200000
attribute [local irreducible] thenA inBlockA AW AL AO QY varO rowO rsA Opd OpdN vA gvA tupA aggA slA slcA ipA rpA EqK LnK IxK LdK FaK FdK
theorem f_fed : AP Tryd.prog T0 27 [] (B true) := by
  have c1 : AP Tryd.prog T0 25 [I 2, I 2] (tupA [termA 2 2 [(32, 0), (32, 0), (32, 0), (32, 0)] 0 0 false, I 0]) := (f_termNew 2 2).to (by rw [show newR 2 2 = ((2, 2, [(32, 0), (32, 0), (32, 0), (32, 0)]), 0) by decide])
  have c2 : AP Tryd.prog T0 33 [termA 2 2 [(32, 0), (32, 0), (32, 0), (32, 0)] 0 0 false, SA [97, 98, 99, 195]] (tupA [termA 2 2 [(97, 0), (98, 0), (99, 0), (32, 0)] 1 1 false, SA [195], I 0]) := (f_termFeed 2 2 [(32, 0), (32, 0), (32, 0), (32, 0)] 0 0 false [97, 98, 99, 195] (by decide)).to (by rw [feedT_c, show feedTC (2, 2, [(32, 0), (32, 0), (32, 0), (32, 0)], 0, 0, false) [97, 98, 99, 195] = ((2, 2, [(97, 0), (98, 0), (99, 0), (32, 0)], 1, 1, false), [195], 0) by kernel_rfl])
  have c3 : AP Tryd.prog T0 31 [termA 2 2 [(97, 0), (98, 0), (99, 0), (32, 0)] 1 1 false, cmdA (1, 0, 0, 100)] (tupA [termA 2 2 [(97, 0), (98, 0), (99, 0), (100, 0)] 1 1 true, I 0]) := (f_termDo 2 2 [(97, 0), (98, 0), (99, 0), (32, 0)] 1 1 false (1, 0, 0, 100)).to (by rw [doT_c, show doTC (2, 2, [(97, 0), (98, 0), (99, 0), (32, 0)], 1, 1, false) (1, 0, 0, 100) = ((2, 2, [(97, 0), (98, 0), (99, 0), (100, 0)], 1, 1, true), 0) by kernel_rfl])
  have c4 : AP Tryd.prog T0 31 [termA 2 2 [(97, 0), (98, 0), (99, 0), (100, 0)] 1 1 true, cmdA (1, 0, 0, 101)] (tupA [termA 2 2 [(99, 0), (100, 0), (101, 0), (32, 0)] 1 1 false, I 0]) := (f_termDo 2 2 [(97, 0), (98, 0), (99, 0), (100, 0)] 1 1 true (1, 0, 0, 101)).to (by rw [doT_c, show doTC (2, 2, [(97, 0), (98, 0), (99, 0), (100, 0)], 1, 1, true) (1, 0, 0, 101) = ((2, 2, [(99, 0), (100, 0), (101, 0), (32, 0)], 1, 1, false), 0) by kernel_rfl])
  have c5 : AP Tryd.prog T0 31 [termA 2 2 [(99, 0), (100, 0), (101, 0), (32, 0)] 1 1 false, cmdA (3, 80, 0, 0)] (tupA [termA 2 2 [(99, 0), (100, 0), (101, 0), (32, 0)] 1 0 false, I 0]) := (f_termDo 2 2 [(99, 0), (100, 0), (101, 0), (32, 0)] 1 1 false (3, 80, 0, 0)).to (by rw [doT_c, show doTC (2, 2, [(99, 0), (100, 0), (101, 0), (32, 0)], 1, 1, false) (3, 80, 0, 0) = ((2, 2, [(99, 0), (100, 0), (101, 0), (32, 0)], 1, 0, false), 0) by kernel_rfl])
  have c6 : AP Tryd.prog T0 31 [termA 2 2 [(99, 0), (100, 0), (101, 0), (32, 0)] 1 0 false, cmdA (7, 0, 0, 0)] (tupA [termA 2 2 [(99, 0), (32, 0), (101, 0), (32, 0)] 1 0 false, I 0]) := (f_termDo 2 2 [(99, 0), (100, 0), (101, 0), (32, 0)] 1 0 false (7, 0, 0, 0)).to (by rw [doT_c, show doTC (2, 2, [(99, 0), (100, 0), (101, 0), (32, 0)], 1, 0, false) (7, 0, 0, 0) = ((2, 2, [(99, 0), (32, 0), (101, 0), (32, 0)], 1, 0, false), 0) by kernel_rfl])
  have c7 : AP Tryd.prog T0 31 [termA 2 2 [(32, 0), (32, 0), (32, 0), (32, 0)] 0 0 false, cmdA (0, 0, 0, 0)] (tupA [termA 0 0 [] 0 0 false, I 1]) := (f_termDo 2 2 [(32, 0), (32, 0), (32, 0), (32, 0)] 0 0 false (0, 0, 0, 0)).to (by rw [doT_c, show doTC (2, 2, [(32, 0), (32, 0), (32, 0), (32, 0)], 0, 0, false) (0, 0, 0, 0) = ((0, 0, [], 0, 0, false), 1) by kernel_rfl])
  have c8 : AP Tryd.prog T0 33 [termA 2 2 [(32, 0), (32, 0), (32, 0), (32, 0)] 0 0 false, SA [1]] (tupA [termA 0 0 [] 0 0 false, SA [], I 2]) := (f_termFeed 2 2 [(32, 0), (32, 0), (32, 0), (32, 0)] 0 0 false [1] (by decide)).to (by rw [feedT_c, show feedTC (2, 2, [(32, 0), (32, 0), (32, 0), (32, 0)], 0, 0, false) [1] = ((0, 0, [], 0, 0, false), [], 2) by kernel_rfl])
  have c9 : AP Tryd.prog T0 35 [termA 2 2 [(99, 0), (100, 0), (101, 0), (32, 0)] 1 1 false, I 3, I 1] (tupA [termA 3 1 [(99, 0), (100, 0), (32, 0)] 1 0 false, I 0]) := (f_termResize 2 2 [(99, 0), (100, 0), (101, 0), (32, 0)] 1 1 false 3 1).to (by rw [sizeT_c, show sizeTC (2, 2, [(99, 0), (100, 0), (101, 0), (32, 0)], 1, 1, false) 3 1 = ((3, 1, [(99, 0), (100, 0), (32, 0)], 1, 0, false), 0) by kernel_rfl])
  have d1 := (f_ref02Same (T0 := T0) [(99, 0), (100, 0), (101, 0), (32, 0)] [(99, 0), (100, 0), (101, 0), (32, 0)]).to (A' := B true) (congrArg B (by decide))
  have d2 := (f_ref02Same (T0 := T0) [(99, 0), (32, 0), (101, 0), (32, 0)] [(99, 0), (32, 0), (101, 0), (32, 0)]).to (A' := B true) (congrArg B (by decide))
  have d3 := (f_ref02Same (T0 := T0) [(99, 0), (100, 0), (32, 0)] [(99, 0), (100, 0), (32, 0)]).to (A' := B true) (congrArg B (by decide))
  have d4 : AP Tryd.prog T0 29 [termA 2 2 [(99, 0), (100, 0), (101, 0), (32, 0)] 1 1 false] (B true) := (f_termIs 2 2 [(99, 0), (100, 0), (101, 0), (32, 0)] 1 1 false).to (congrArg B (by rw [okT_c]; decide +kernel))
  have d6 : AP Tryd.prog T0 29 [termA 0 0 [] 0 0 false] (B false) := (f_termIs 0 0 [] 0 0 false).to (congrArg B (by rw [okT_c]; decide +kernel))
  have d5 : AP Tryd.prog T0 29 [aggA [I 0, I 0, vA (.slice none 0 0), I 0, I 0, B false]] (B false) := d6.pre (subl1 (sub_agg (subl1 (Sub.refl _) (subl1 (Sub.refl _) (subl1 sub_nilG (subl1 (Sub.refl _) (subl1 (Sub.refl _) (subl1 (Sub.refl _) subl0))))))) subl0)
  refine af_intro Tryd.func27 rfl (by decide) Tryd.ntmps27 rfl ?_
  repeat' (first
  | fail
  | refine s_y ?_
    | refine c_ ?_
    | (refine aw_if ?_ ?_ <;> intro hb <;> try (exfalso; first | assumption | omega | (simp only [or_self, and_self, not_true_eq_false, not_false_eq_true, or_false, false_or, and_false, false_and, true_and, and_true] at hb; first | done | omega)))
    | refine s_call ?_ (c := by first | exact c1 | exact c2 | exact c3 | exact c4 | exact c5 | exact c6 | exact c7 | exact c8 | exact c9 | exact d1 | exact d2 | exact d3 | exact d4 | exact d5 | fail)
    | refine s_op ?_ (hy := by first | exact AY.sub (ay_buildSlice (T := cellT) [(99, 0), (100, 0), (101, 0), (32, 0)] rfl un_cells el_cell rfl (by decide) ⟨_, pxg_, rfl⟩) sub_slc
                                       | exact AY.sub (ay_buildSlice (T := cellT) [(99, 0), (32, 0), (101, 0), (32, 0)] rfl un_cells el_cell rfl (by decide) ⟨_, pxg_, rfl⟩) sub_slc
                                       | exact AY.sub (ay_buildSlice (T := cellT) [(99, 0), (100, 0), (32, 0)] rfl un_cells el_cell rfl (by decide) ⟨_, pxg_, rfl⟩) sub_slc | fail)
    | refine s_yg ?_
    | refine s_callg ?_ (c := by intro hk hk2; first | exact c1 | exact c2 | exact c3 | exact c4 | exact c5 | exact c6 | exact c7 | exact c8 | exact c9 | exact d1 | exact d2 | exact d3 | exact d4 | exact d5 | fail)
    | refine s_opg ?_ (hy := by intro hk hk2; first | exact AY.sub (ay_buildSlice (T := cellT) [(99, 0), (100, 0), (101, 0), (32, 0)] rfl un_cells el_cell rfl (by decide) ⟨_, pxg_, rfl⟩) sub_slc
                                                      | exact AY.sub (ay_buildSlice (T := cellT) [(99, 0), (32, 0), (101, 0), (32, 0)] rfl un_cells el_cell rfl (by decide) ⟨_, pxg_, rfl⟩) sub_slc
                                                      | exact AY.sub (ay_buildSlice (T := cellT) [(99, 0), (100, 0), (32, 0)] rfl un_cells el_cell rfl (by decide) ⟨_, pxg_, rfl⟩) sub_slc | fail)
    | refine s_skip ?_
    | ((first | refine w_alloc ?_ | refine w_box ?_) <;> intro bb)
    | ((first | refine w_emp ?_ | refine w_make ?_ | refine w_app ?_) <;> intro u hu1 hu2)
    | refine w_stv ?_ | refine w_str ?_ | refine w_cpr ?_ | refine w_cps ?_
    | refine al_last (by kernel_rfl) ?_
  | fail)
  exact ⟨_, [], rl_, List.nil_sublist _, Sub.eq (congrArg B (by decide)), rfl⟩
theorem l_TermNews (X Y : Int) (w h : Int) (l : List Cell) (x y : Int) (b : Bool) : AP Tryd.prog T0 8 [I X, I Y, termA w h l x y b] (B true) := by
  have c1 := f_termNew (T0 := T0) X Y
  have c2 := f_ref07New (T0 := T0) X Y
  generalize newR X Y = z at c1 c2
  refine af_intro Tryd.func8 rfl (by decide) Tryd.ntmps8 rfl ?_
  repeat' (first
  | fail
  | refine s_y ?_
    | refine c_ ?_
    | (refine aw_if ?_ ?_ <;> intro hb <;> try (exfalso; first | assumption | omega | (simp only [or_self, and_self, not_true_eq_false, not_false_eq_true, or_false, false_or, and_false, false_and, true_and, and_true] at hb; first | done | omega)))
    | refine s_call ?_ (c := by first | exact f_fed | exact f_big07 _ _ _ _ _ _ | exact c1 | exact c2 | exact f_termIs _ _ _ _ _ _ | exact f_ref07Is _ _ _ _ _ _ | exact f_ref07Same _ _ _ _ _ _ _ _ _ _ _ _ | fail)
    | refine s_op ?_ (hy := by first | fail | fail)
    | refine s_yg ?_
    | refine s_callg ?_ (c := by intro hk hk2; first | exact f_fed | exact f_big07 _ _ _ _ _ _ | exact c1 | exact c2 | exact f_termIs _ _ _ _ _ _ | exact f_ref07Is _ _ _ _ _ _ | exact f_ref07Same _ _ _ _ _ _ _ _ _ _ _ _ | fail)
    | refine s_opg ?_ (hy := by intro hk hk2; first | fail | fail)
    | refine s_skip ?_
    | ((first | refine w_alloc ?_ | refine w_box ?_) <;> intro bb)
    | ((first | refine w_emp ?_ | refine w_make ?_ | refine w_app ?_) <;> intro u hu1 hu2)
    | refine w_stv ?_ | refine w_str ?_ | refine w_cpr ?_ | refine w_cps ?_
    | refine al_last (by kernel_rfl) ?_
  | fail)
  all_goals first | (exfalso; omega) | exact ⟨_, [], rl_, List.nil_sublist _, Sub.refl _, rfl⟩ | exact ⟨_, [], rl_, List.nil_sublist _, Sub.eq (congrArg B (by simp)), rfl⟩
theorem l_TermDoes (w h : Int) (l : List Cell) (x y : Int) (b : Bool) (c : Cmd) : AP Tryd.prog T0 9 [termA w h l x y b, cmdA c] (B true) := by
  have c1 := f_termDo (T0 := T0) w h l x y b c
  have c2 := f_ref07Do (T0 := T0) w h l x y b c
  generalize doT (w, h, l, x, y, b) c = z at c1 c2
  refine af_intro Tryd.func9 rfl (by decide) Tryd.ntmps9 rfl ?_
  repeat' (first
  | fail
  | refine s_y ?_
    | refine c_ ?_
    | (refine aw_if ?_ ?_ <;> intro hb <;> try (exfalso; first | assumption | omega | (simp only [or_self, and_self, not_true_eq_false, not_false_eq_true, or_false, false_or, and_false, false_and, true_and, and_true] at hb; first | done | omega)))
    | refine s_call ?_ (c := by first | exact f_fed | exact f_big07 _ _ _ _ _ _ | exact c1 | exact c2 | exact f_termIs _ _ _ _ _ _ | exact f_ref07Is _ _ _ _ _ _ | exact f_ref07Same _ _ _ _ _ _ _ _ _ _ _ _ | fail)
    | refine s_op ?_ (hy := by first | fail | fail)
    | refine s_yg ?_
    | refine s_callg ?_ (c := by intro hk hk2; first | exact f_fed | exact f_big07 _ _ _ _ _ _ | exact c1 | exact c2 | exact f_termIs _ _ _ _ _ _ | exact f_ref07Is _ _ _ _ _ _ | exact f_ref07Same _ _ _ _ _ _ _ _ _ _ _ _ | fail)
    | refine s_opg ?_ (hy := by intro hk hk2; first | fail | fail)
    | refine s_skip ?_
    | ((first | refine w_alloc ?_ | refine w_box ?_) <;> intro bb)
    | ((first | refine w_emp ?_ | refine w_make ?_ | refine w_app ?_) <;> intro u hu1 hu2)
    | refine w_stv ?_ | refine w_str ?_ | refine w_cpr ?_ | refine w_cps ?_
    | refine al_last (by kernel_rfl) ?_
  | fail)
  all_goals first | (exfalso; omega) | exact ⟨_, [], rl_, List.nil_sublist _, Sub.refl _, rfl⟩ | exact ⟨_, [], rl_, List.nil_sublist _, Sub.eq (congrArg B (by simp)), rfl⟩
theorem l_TermFeeds (w h : Int) (l : List Cell) (x y : Int) (b : Bool) (s : List UInt8) : AP Tryd.prog T0 10 [termA w h l x y b, SA s] (B true) := by
  by_cases hs : s.length ≤ 300
  · have c1 := f_termFeed (T0 := T0) w h l x y b s (by omega)
    have c2 := f_ref07Feed (T0 := T0) w h l x y b s (by omega)
    generalize feedT (w, h, l, x, y, b) s = z at c1 c2
    refine af_intro Tryd.func10 rfl (by decide) Tryd.ntmps10 rfl ?_
    repeat' (first
    | fail
    | refine s_y ?_
      | refine c_ ?_
      | (refine aw_if ?_ ?_ <;> intro hb <;> try (exfalso; first | assumption | omega | (simp only [or_self, and_self, not_true_eq_false, not_false_eq_true, or_false, false_or, and_false, false_and, true_and, and_true] at hb; first | done | omega)))
      | refine s_call ?_ (c := by first | exact f_fed | exact f_big07 _ _ _ _ _ _ | exact c1 | exact c2 | exact f_termIs _ _ _ _ _ _ | exact f_ref07Is _ _ _ _ _ _ | exact f_ref07Same _ _ _ _ _ _ _ _ _ _ _ _ | fail)
      | refine s_op ?_ (hy := by first | fail | fail)
      | refine s_yg ?_
      | refine s_callg ?_ (c := by intro hk hk2; first | exact f_fed | exact f_big07 _ _ _ _ _ _ | exact c1 | exact c2 | exact f_termIs _ _ _ _ _ _ | exact f_ref07Is _ _ _ _ _ _ | exact f_ref07Same _ _ _ _ _ _ _ _ _ _ _ _ | fail)
      | refine s_opg ?_ (hy := by intro hk hk2; first | fail | fail)
      | refine s_skip ?_
      | ((first | refine w_alloc ?_ | refine w_box ?_) <;> intro bb)
      | ((first | refine w_emp ?_ | refine w_make ?_ | refine w_app ?_) <;> intro u hu1 hu2)
      | refine w_stv ?_ | refine w_str ?_ | refine w_cpr ?_ | refine w_cps ?_
      | refine al_last (by kernel_rfl) ?_
    | fail)
    all_goals first | (exfalso; omega) | exact ⟨_, [], rl_, List.nil_sublist _, Sub.refl _, rfl⟩ | exact ⟨_, [], rl_, List.nil_sublist _, Sub.eq (congrArg B (by simp)), rfl⟩
  · have c1 : True := trivial
    have c2 : True := trivial
    refine af_intro Tryd.func10 rfl (by decide) Tryd.ntmps10 rfl ?_
    repeat' (first
    | fail
    | refine s_y ?_
      | refine c_ ?_
      | (refine aw_if ?_ ?_ <;> intro hb <;> try (exfalso; first | assumption | omega | (simp only [or_self, and_self, not_true_eq_false, not_false_eq_true, or_false, false_or, and_false, false_and, true_and, and_true] at hb; first | done | omega)))
      | refine s_call ?_ (c := by first | exact f_fed | exact f_big07 _ _ _ _ _ _ | exact c1 | exact c2 | exact f_termIs _ _ _ _ _ _ | exact f_ref07Is _ _ _ _ _ _ | exact f_ref07Same _ _ _ _ _ _ _ _ _ _ _ _ | fail)
      | refine s_op ?_ (hy := by first | fail | fail)
      | refine s_yg ?_
      | refine s_callg ?_ (c := by intro hk hk2; first | exact f_fed | exact f_big07 _ _ _ _ _ _ | exact c1 | exact c2 | exact f_termIs _ _ _ _ _ _ | exact f_ref07Is _ _ _ _ _ _ | exact f_ref07Same _ _ _ _ _ _ _ _ _ _ _ _ | fail)
      | refine s_opg ?_ (hy := by intro hk hk2; first | fail | fail)
      | refine s_skip ?_
      | ((first | refine w_alloc ?_ | refine w_box ?_) <;> intro bb)
      | ((first | refine w_emp ?_ | refine w_make ?_ | refine w_app ?_) <;> intro u hu1 hu2)
      | refine w_stv ?_ | refine w_str ?_ | refine w_cpr ?_ | refine w_cps ?_
      | refine al_last (by kernel_rfl) ?_
    | fail)
    all_goals first | (exfalso; omega) | exact ⟨_, [], rl_, List.nil_sublist _, Sub.refl _, rfl⟩ | exact ⟨_, [], rl_, List.nil_sublist _, Sub.eq (congrArg B (by simp)), rfl⟩
theorem l_TermSizes (w h : Int) (l : List Cell) (x y : Int) (b : Bool) (W H : Int) : AP Tryd.prog T0 11 [termA w h l x y b, I W, I H] (B true) := by
  have c1 := f_termResize (T0 := T0) w h l x y b W H
  have c2 := f_ref07Resize (T0 := T0) w h l x y b W H
  generalize sizeT (w, h, l, x, y, b) W H = z at c1 c2
  refine af_intro Tryd.func11 rfl (by decide) Tryd.ntmps11 rfl ?_
  repeat' (first
  | fail
  | refine s_y ?_
    | refine c_ ?_
    | (refine aw_if ?_ ?_ <;> intro hb <;> try (exfalso; first | assumption | omega | (simp only [or_self, and_self, not_true_eq_false, not_false_eq_true, or_false, false_or, and_false, false_and, true_and, and_true] at hb; first | done | omega)))
    | refine s_call ?_ (c := by first | exact f_fed | exact f_big07 _ _ _ _ _ _ | exact c1 | exact c2 | exact f_termIs _ _ _ _ _ _ | exact f_ref07Is _ _ _ _ _ _ | exact f_ref07Same _ _ _ _ _ _ _ _ _ _ _ _ | fail)
    | refine s_op ?_ (hy := by first | fail | fail)
    | refine s_yg ?_
    | refine s_callg ?_ (c := by intro hk hk2; first | exact f_fed | exact f_big07 _ _ _ _ _ _ | exact c1 | exact c2 | exact f_termIs _ _ _ _ _ _ | exact f_ref07Is _ _ _ _ _ _ | exact f_ref07Same _ _ _ _ _ _ _ _ _ _ _ _ | fail)
    | refine s_opg ?_ (hy := by intro hk hk2; first | fail | fail)
    | refine s_skip ?_
    | ((first | refine w_alloc ?_ | refine w_box ?_) <;> intro bb)
    | ((first | refine w_emp ?_ | refine w_make ?_ | refine w_app ?_) <;> intro u hu1 hu2)
    | refine w_stv ?_ | refine w_str ?_ | refine w_cpr ?_ | refine w_cps ?_
    | refine al_last (by kernel_rfl) ?_
  | fail)
  all_goals first | (exfalso; omega) | exact ⟨_, [], rl_, List.nil_sublist _, Sub.refl _, rfl⟩ | exact ⟨_, [], rl_, List.nil_sublist _, Sub.eq (congrArg B (by simp)), rfl⟩
end Go.Proofs.YtplabpjkkcillaaDoor
