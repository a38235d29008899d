/- Layer 27 (belief): the reference: new beliefs, are they right, what is laid, what is scrolled, where the cursor goes. No condition. -/
import Derived.Test.YtgfmjmfphmjdkaaGreatDoorQ3BA
import Derived.Test.YtgfmjmfphmjdkaaGreatDoorQ3H1
import Derived.Test.YtgfmjmfphmjdkaaGreatDoorQ3B1
import Derived.Test.YtgfmjmfphmjdkaaGreatDoorQ3BC
namespace Go.Proofs.YtgfmjmfphmjdkaaGreatDoor
set_option linter.unusedSimpArgs false
set_option linter.unusedVariables false
set_option linter.unusedSectionVars false
set_option maxHeartbeats 4000000
open Go Go.RowKit
variable {T0 : Gh} [TabS T0]
attribute [local irreducible] thenA inBlockA AW AL AO QY varO rowO rsA Opd OpdN vA gvA tupA aggA slA slcA ipA rpA EqK LnK IxK LdK FaK FdK
set_option maxRecDepth 100000
theorem sidesM_t {w h : Nat} (h1 : 2 ≤ w) (h2 : w ≤ 80) (h3 : 1 ≤ h) (h4 : h ≤ 24) : sidesM w h = true := by simp [sidesM]; omega
theorem f_ref27NewO (w h : Nat) (h1 : 2 ≤ w) (h2 : w ≤ 80) (h3 : 1 ≤ h) (h4 : h ≤ 24) : AF Tryz.prog T0 84 [I w, I h] [] (fun A M' => ∃ u, A = tupA [aggA [I w, I h, vA u, I 0, I 0, B false, B false], I 0] ∧ M' = [rowO guT 96 u (List.replicate (w * h) gZero)]) := by
  have hb := side_le h2 h4
  have hnn : (0 : Int) ≤ ((w * h : Nat) : Int) := Int.natCast_nonneg _
  have c1 : AP Tryz.prog T0 127 [I w, I h] (B true) := (f_ref03Sides w h).to (by rw [sidesM_t h1 h2 h3 h4])
  refine af_intro Tryz.func84 rfl (by decide) Tryz.ntmps84 rfl ?_
  repeat' (first
  | refine g60_ ?_ | (refine aw_if ?_ ?_ <;> intro hb <;> try exact no_) | (refine sx_ ?_ <;> intro bb) | (refine su_ ?_ <;> intro u hu1 hu2) | fail)
  all_goals first | exact e2_ | skip
  rename_i b4
  refine aw_nil guT 96 ?_
  refine aw_fl2 (fun (k : Nat) (u : Value) => [(0, I w), (1, I h), (4, vA (.pointer (some ⟨b4, 0, none⟩))), (6, vA (.pointer (some ⟨bb, 0, none⟩))), (7, I k)]) (fun k u => [rowO guT 96 u (List.replicate k gZero), varO bb 24 [I w, I h, vA u, I 0, I 0, B false, B false], varO b4 24 [I 0, I 0, vA (.slice none 0 0), I 0, I 0, B false, B false]]) (fun k _ => k ≤ w * h) (fun k _ => w * h - k) 0 _ (Nat.zero_le _) wk_ (List.Sublist.refl _) ?_
  rintro k u i1
  refine aw_rowc (List.Mem.head _) fun hu1 hu2 => ?_
  by_cases hlt : k < w * h
  · repeat' (first
    | refine g60_ ?_ | (refine aw_if ?_ ?_ <;> intro hb <;> try exact no_) | (refine sx_ ?_ <;> intro bb) | (refine su_ ?_ <;> intro u hu1 hu2) | fail)
    exact ⟨k + 1, _, by omega, by omega, wk_, by rw [List.replicate_succ']; exact List.Sublist.refl _⟩
  · repeat' (first
    | refine g60_ ?_ | (refine aw_if ?_ ?_ <;> intro hb <;> try exact no_) | (refine sx_ ?_ <;> intro bb) | (refine su_ ?_ <;> intro u hu1 hu2) | fail)
    exact ⟨_, [rowO guT 96 u (List.replicate k gZero)], rl_, sl_, u, rfl, by rw [show k = w * h by omega]⟩
theorem f_ref27New (w h : Int) : AP Tryz.prog T0 84 [I w, I h] (tupA [blA (newB w h).1, I (newB w h).2]) := by
  by_cases hs : sidesM w h = true
  · obtain ⟨w, h, rfl, rfl, h1, h2, h3, h4⟩ := sides_nat hs
    have := (f_ref27NewO (T0 := T0) w h h1 h2 h3 h4).frz1 fza_
    rw [newB, if_pos hs]
    simpa only [Int.toNat_natCast] using this
  · have c1 : AP Tryz.prog T0 127 [I w, I h] (B false) := (f_ref03Sides w h).to (by simp [hs])
    rw [newB, if_neg hs]
    refine af_intro Tryz.func84 rfl (by decide) Tryz.ntmps84 rfl ?_
    repeat' (first
    | refine g60_ ?_ | (refine aw_if ?_ ?_ <;> intro hb <;> try exact no_) | (refine sx_ ?_ <;> intro bb) | (refine su_ ?_ <;> intro u hu1 hu2) | fail)
    all_goals first | (exfalso; simp at hb; done) | exact ⟨_, [], rl_, List.nil_sublist _, sub_tup (subl1 (sub_agg (subl1 (Sub.refl _) (subl1 (Sub.refl _) (subl1 sub_nilB (subl1 (Sub.refl _) (subl1 (Sub.refl _) (subl1 (Sub.refl _) (subl1 (Sub.refl _) subl0)))))))) (subl1 (Sub.refl _) subl0)), rfl⟩ | skip
theorem f_guess (w h : Nat) (l : List Guess) (x y : Int) (b s : Bool) (i : Nat) (hl : l.length = w * h) (hb : w * h ≤ 1920) (h1 : 2 ≤ w) (h2 : w ≤ 80) (h3 : 1 ≤ h) (hi : i < l.length) : AP Tryz.prog T0 129 [belA w h l x y b s, I i] (B (gsOk w l i)) := by
  have hat := g_in hi
  have hnx : i % w < w - 1 → i + 1 < l.length := fun k => by
    rcases Nat.lt_or_ge (i + 1) l.length with z | z
    · exact z
    · have := last_mod (w := w) (h := h) (j := i) (by omega) h3 (by omega); omega
  have hpv : 0 < i % w → 1 ≤ i := fun k => by
    rcases Nat.eq_zero_or_pos i with h | h
    · subst h; simp at k
    · exact h
  have hm := Nat.mod_lt i (show 0 < w by omega)
  have gn : i + 1 < l.length → l[i + 1]? = some (gAt l (i + 1)) := fun h => g_in h
  have gp : 1 ≤ i → l[i - 1]? = some (gAt l (i - 1)) := fun h => g_in (by omega)
  have hr : gsOk w l i = gsOk w l i := rfl
  conv at hr => rhs; unfold gsOk
  generalize gAt l (i + 1) = gx at *
  generalize gAt l (i - 1) = gy at *
  generalize gsOk w l i = rk at *
  generalize gAt l i = g at *
  obtain ⟨⟨x1, x2⟩, x3⟩ := gx
  obtain ⟨⟨y1, y2⟩, y3⟩ := gy
  obtain ⟨⟨c1, c2⟩, sg⟩ := g
  refine af_intro Tryz.func129 rfl (by decide) Tryz.ntmps129 rfl ?_
  repeat' (first
  | refine s_op ?_ (hy := by first | (apply k_ix rfl; exact oo_; exact on_; apply ik_sl un_ el_; first | exact hat | exact gn gb_ | exact gp gb_) | fail) | refine s_opg ?_ (hy := by intro hk hk2; first | (apply k_ix rfl; exact oog_; exact ong_; apply ik_sl un_ el_; first | exact gn gb_ | exact gp gb_) | fail) | refine sa_ ?_ | refine s_call ?_ (c := by first | exact f_ref02Is (_, _) | fail) | refine s_op ?_ (hy := by first | exact ay_loadn rfl agg_ sz_ oo_ (Nat.le_of_ble_eq_true rfl) | exact ay_loadn rfl agg_ sz_ oog_ (Nat.le_of_ble_eq_true rfl) | fail) | refine s_yg ?_ | refine s_callg ?_ (c := by intro hk hk2; first | exact f_ref02Is (_, _) | fail) | refine s_opg ?_ (hy := by intro hk hk2; first | exact ay_loadn rfl agg_ sz_ oo_ (Nat.le_of_ble_eq_true rfl) | exact ay_loadn rfl agg_ sz_ oog_ (Nat.le_of_ble_eq_true rfl) | fail) | refine sw_ ?_ | (refine aw_if ?_ ?_ <;> intro hb <;> try exact no_) | (refine sx_ ?_ <;> intro bb) | (refine su_ ?_ <;> intro u hu1 hu2) | fail)
  all_goals first | refine ⟨_, [], rl_, List.nil_sublist _, Sub.eq (congrArg B ?_), rfl⟩ | skip
  all_goals first | rw [hr] | skip
  all_goals first | (simp_all; done) | (cases sg <;> simp_all; done) | skip
  · rw [show decide (((i % w : Nat) : Int) < ((w - 1 : Nat) : Int)) = decide (i % w < w - 1) by rw [decide_eq_decide]; omega]
    generalize decide (i % w < w - 1) = q at *
    cases x3 <;> simp_all
  · rw [show decide ((0 : Int) < ((i % w : Nat) : Int)) = decide (0 < i % w) by rw [decide_eq_decide]; omega]
    generalize decide (0 < i % w) = q at *
    cases y3 <;> simp_all
noncomputable instance (w : Nat) (l : List Guess) : Decidable (GOk w l) := Classical.propDecidable _
theorem f_ref27Is (w h : Int) (l : List Guess) (x y : Int) (b s : Bool) : AP Tryz.prog T0 89 [belA w h l x y b s] (B (okBe w h l x y b s)) := by
  by_cases hs : sidesM w h = true
  · have c1 : AP Tryz.prog T0 127 [I w, I h] (B true) := (f_ref03Sides w h).to (by rw [hs])
    obtain ⟨w, h, rfl, rfl, h1, h2, h3, h4⟩ := sides_nat hs
    have hb := side_leB h2 h4
    have hnn : (0 : Int) ≤ ((w * h : Nat) : Int) := Int.natCast_nonneg _
    by_cases hlen : l.length = w * h
    · have hok : okBe w h l x y b s = ((decide (GOk w l)) && curB w h x y b s) := by
        unfold okBe; congr 1
        rw [decide_eq_decide]
        exact ⟨fun k => by have := k.2.2; simpa [GOk] using this, fun k => ⟨⟨by omega, by omega, by omega, by omega⟩, by rw [hlen]; exact Int.natCast_mul w h, by simpa [GOk] using k⟩⟩
      have cg : ∀ i, i < l.length → AP Tryz.prog T0 129 [belA w h l x y b s, I i] (B (gsOk w l i)) := fun i hi => f_guess w h l x y b s i hlen hb h1 h2 h3 hi
      generalize okBe w h l x y b s = ok at *
      refine af_intro Tryz.func89 rfl (by decide) Tryz.ntmps89 rfl ?_
      repeat' (first
      | refine g59_ ?_ | (refine aw_if ?_ ?_ <;> intro hb <;> try exact no_) | (refine sx_ ?_ <;> intro bb) | (refine su_ ?_ <;> intro u hu1 hu2) | fail)
      all_goals first | (exfalso; simp at hb; omega) | (exfalso; omega) | skip
      refine aw_lf (fun k : Nat => [(3, I k)]) (fun k => k ≤ l.length ∧ ∀ j, j < k → gsOk w l j = true) (fun k => l.length - k) 0 ⟨Nat.zero_le _, fun _ k => absurd k (Nat.not_lt_zero _)⟩ ?_
      rintro k ⟨k1, k2⟩
      by_cases hlt : k < l.length
      · repeat' (first
        | refine g59_ ?_ | (refine aw_if ?_ ?_ <;> intro hb <;> try exact no_) | (refine sx_ ?_ <;> intro bb) | (refine su_ ?_ <;> intro u hu1 hu2) | fail)
        all_goals first | exact e1_ | skip
        · refine ⟨_, [], rl_, List.nil_sublist _, Sub.eq (congrArg B ?_), rfl⟩
          rw [hok, show decide (GOk w l) = false from decide_eq_false fun z => by rw [z k hlt] at hb; cases hb]; rfl
        · refine ⟨k + 1, ⟨by omega, fun j hj => ?_⟩, by omega, wx_, sl_⟩
          by_cases e : j = k
          · subst e; exact hb
          · exact k2 j (by omega)
      · have hall : decide (GOk w l) = true := decide_eq_true fun j hj => k2 j (by omega)
        rw [hall, Bool.true_and] at hok
        repeat' (first
        | refine g59_ ?_ | (refine aw_if ?_ ?_ <;> intro hb <;> try exact no_) | (refine sx_ ?_ <;> intro bb) | (refine su_ ?_ <;> intro u hu1 hu2) | fail)
        all_goals first | exact e1_ | skip
        · refine ⟨_, [], rl_, List.nil_sublist _, Sub.eq (congrArg B ?_), rfl⟩
          have hs : s = false := by simpa using hb
          rw [hok, hs]; rfl
        · refine ⟨_, [], rl_, List.nil_sublist _, Sub.eq (congrArg B ?_), rfl⟩
          have hs : s = true := by simpa using hb
          rw [hok, hs, show (((w - 1 : Nat) : Int)) = (w : Int) - 1 by omega]; rfl
    · rw [okBe_no (fun z => hlen (by have := z.2; rw [← Int.natCast_mul] at this; omega))]
      have cg : True := trivial
      refine af_intro Tryz.func89 rfl (by decide) Tryz.ntmps89 rfl ?_
      repeat' (first
      | refine g59_ ?_ | (refine aw_if ?_ ?_ <;> intro hb <;> try exact no_) | (refine sx_ ?_ <;> intro bb) | (refine su_ ?_ <;> intro u hu1 hu2) | fail)
      all_goals first | exact ⟨_, [], rl_, List.nil_sublist _, Sub.refl _, rfl⟩ | (exfalso; omega) | (exfalso; simp at hb; omega)
  · rw [okBe_no (fun z => hs z.1)]
    have c1 : AP Tryz.prog T0 127 [I w, I h] (B false) := (f_ref03Sides w h).to (by simp [hs])
    have cg : True := trivial
    refine af_intro Tryz.func89 rfl (by decide) Tryz.ntmps89 rfl ?_
    repeat' (first
    | refine sa_ ?_ | refine s_call ?_ (c := by first | exact c1 | exact cg _ (by omega) | fail) | refine s_op ?_ (hy := by first | exact ay_mulw rfl oog_ oog_ | fail) | refine s_yg ?_ | refine s_callg ?_ (c := by intro hk hk2; first | exact c1 | exact cg _ (by omega) | fail) | refine s_opg ?_ (hy := by intro hk hk2; first | exact ay_mulw rfl oog_ oog_ | fail) | refine sw_ ?_ | (refine aw_if ?_ ?_ <;> intro hb <;> try exact no_) | (refine sx_ ?_ <;> intro bb) | (refine su_ ?_ <;> intro u hu1 hu2) | fail)
    all_goals first | exact ⟨_, [], rl_, List.nil_sublist _, Sub.refl _, rfl⟩ | (exfalso; simp at hb; done)
end Go.Proofs.YtgfmjmfphmjdkaaGreatDoor
namespace Go.Proofs.YtgfmjmfphmjdkaaGreatDoor
set_option linter.unusedSimpArgs false
set_option linter.unusedVariables false
set_option linter.unusedSectionVars false
set_option maxHeartbeats 4000000
open Go Go.RowKit
set_option maxRecDepth 100000
theorem set_mix {α : Type} {U l : List α} {k : Nat} {z : α} (hU : U.length = l.length) (hk : U[k]? = some z) : (U.take k ++ l.drop k).set k z = U.take (k + 1) ++ l.drop (k + 1) := by
  obtain ⟨h1, h2⟩ := List.getElem?_eq_some_iff.1 hk
  have e1 : (U.take k).length = k := by rw [List.length_take]; omega
  rw [List.set_append_right _ _ (by omega), e1, Nat.sub_self, List.drop_eq_getElem_cons (show k < l.length by omega), List.set_cons_zero, List.take_succ_eq_append_getElem h1, h2]
  simp
variable {T0 : Gh} [TabS T0]
attribute [local irreducible] thenA inBlockA AW AL AO QY varO rowO rsA Opd OpdN vA gvA tupA aggA slA slcA ipA rpA EqK LnK IxK LdK FaK FdK
theorem f_ref27blank : AP Tryz.prog T0 183 [] (guA gBlank) := by
  refine af_intro Tryz.func183 rfl (by decide) Tryz.ntmps183 rfl ?_
  repeat' (first
  | refine g6_ ?_ | (refine aw_if ?_ ?_ <;> intro hb <;> try exact no_) | (refine sx_ ?_ <;> intro bb) | (refine su_ ?_ <;> intro u hu1 hu2) | fail)
  exact ⟨_, [], rl_, List.nil_sublist _, Sub.refl _, rfl⟩
theorem f_ref27changes (k : Int) : AP Tryz.prog T0 147 [I k] (B (chg k)) := by
  refine af_intro Tryz.func147 rfl (by decide) Tryz.ntmps147 rfl ?_
  repeat' (first
  | refine g6_ ?_ | (refine aw_if ?_ ?_ <;> intro hb <;> try exact no_) | (refine sx_ ?_ <;> intro bb) | (refine su_ ?_ <;> intro u hu1 hu2) | fail)
  refine ⟨_, [], rl_, List.nil_sublist _, Sub.eq (congrArg B ?_), rfl⟩
  simp [chg]
theorem f_ref27own (w h : Int) (l : List Guess) (x y : Int) (b s : Bool) (hl : l.length ≤ 100000) : AF Tryz.prog T0 141 [belA w h l x y b s] [] (fun A M' => ∃ u, A = aggA [I w, I h, vA u, I x, I y, B b, B s] ∧ M' = [gsO u l]) := by
  refine af_intro Tryz.func141 rfl (by decide) Tryz.ntmps141 rfl ?_
  repeat' (first
  | refine g6_ ?_ | (refine aw_if ?_ ?_ <;> intro hb <;> try exact no_) | (refine sx_ ?_ <;> intro bb) | (refine su_ ?_ <;> intro u hu1 hu2) | fail)
  exact ⟨_, [rowO guT 96 u ([] ++ l)], rl_, sl_, u, rfl, rfl⟩
theorem f_ref27ownF (w h : Int) (l : List Guess) (x y : Int) (b s : Bool) (hl : l.length ≤ 100000) : AP Tryz.prog T0 141 [belA w h l x y b s] (belA w h l x y b s) := (f_ref27own w h l x y b s hl).frz1 fza_
theorem f_blanksO (n : Nat) (hn : n ≤ 100000) : AF Tryz.prog T0 154 [I n] [] (fun A M' => ∃ u, A = vA u ∧ M' = [rowO cellT 87 u (List.replicate n (32, 0))]) := by
  refine af_intro Tryz.func154 rfl (by decide) Tryz.ntmps154 rfl ?_
  repeat' (first
  | refine g6_ ?_ | (refine aw_if ?_ ?_ <;> intro hb <;> try exact no_) | (refine sx_ ?_ <;> intro bb) | (refine su_ ?_ <;> intro u hu1 hu2) | fail)
  refine aw_la 3 (fun k : Nat => [(4, I k)]) (fun k => List.replicate k ((32, 0) : Cell)) (fun k => k ≤ n) (fun k => n - k) 0 (Nat.zero_le _) rfl ?_
  rintro k u k1 hu1 hu2
  by_cases hlt : k < n
  · repeat' (first
    | refine g6_ ?_ | (refine aw_if ?_ ?_ <;> intro hb <;> try exact no_) | (refine sx_ ?_ <;> intro bb) | (refine su_ ?_ <;> intro u hu1 hu2) | fail)
    all_goals first | exact e1_ | skip
    exact ⟨k + 1, _, by omega, by omega, wx_, by rw [List.replicate_succ']; exact List.Sublist.refl _⟩
  · obtain rfl : k = n := by omega
    repeat' (first
    | refine g6_ ?_ | (refine aw_if ?_ ?_ <;> intro hb <;> try exact no_) | (refine sx_ ?_ <;> intro bb) | (refine su_ ?_ <;> intro u hu1 hu2) | fail)
    all_goals first | exact e1_ | skip
    exact ⟨_, _, rl_, List.Sublist.refl _, u, rfl, rfl⟩
theorem f_blanksI (n : Int) (h0 : 0 ≤ n) (hn : n ≤ 100000) : AP Tryz.prog T0 154 [I n] (slA cellT (List.replicate n.toNat (32, 0))) := by
  obtain ⟨n, rfl⟩ := Int.eq_ofNat_of_zero_le h0
  exact (f_blanksO n (by omega)).frz1 fza_
theorem f_scrollsO (w : Nat) (h : Int) (l : List Guess) (x y : Int) (b s : Bool) (hw : w ≤ l.length) (hl : l.length ≤ 100000) : AF Tryz.prog T0 151 [belA w h l x y b s] [] (fun A M' => ∃ u, A = aggA [I w, I h, vA u, I x, I y, B b, B s] ∧ M' = [gsO u (upB w l)]) := by
  have co := f_ref27own (T0 := T0) w h l x y b s hl
  refine af_intro Tryz.func151 rfl (by decide) Tryz.ntmps151 rfl ?_
  repeat' (first
  | (apply al_call0 rfl rfl rfl rfl (c := co)
     case ha => exact os_
     rintro _ _ ⟨u, rfl, rfl⟩; refine al_rowc (List.Mem.head _) fun hu1 hu2 => ?_)
  | refine g58_ ?_ | (refine aw_if ?_ ?_ <;> intro hb <;> try exact no_) | (refine sx_ ?_ <;> intro bb) | (refine su_ ?_ <;> intro u hu1 hu2) | fail)
  obtain ⟨U, hU⟩ : ∃ U, U = upB w l := ⟨_, rfl⟩
  have hUl : U.length = l.length := by rw [hU, upB_len hw]
  refine aw_lr (d := fun k : Nat => [(4, I k)]) (g := fun k => U.take k ++ l.drop k) (fun k => k ≤ l.length) (fun k => l.length - k) 0 (Nat.zero_le _) ?_ ?_
  · simp
  rintro k k1
  by_cases hlt : k < l.length
  · have hat : gAt U k = if k + w < l.length then gAt l (k + w) else gBlank := by rw [hU]; exact upB_at hw hlt
    have hst := set_mix (k := k) hUl (g_in (l := U) (by omega))
    have hl4 : (U.take k ++ l.drop k).length = l.length := by simp; omega
    generalize U.take k ++ l.drop k = l4 at *
    by_cases hq : k + w < l.length
    · rw [if_pos hq] at hat
      rw [hat] at hst
      repeat' (first
      | (apply al_call0 rfl rfl rfl rfl (c := co)
         case ha => exact os_
         rintro _ _ ⟨u, rfl, rfl⟩; refine al_rowc (List.Mem.head _) fun hu1 hu2 => ?_)
      | refine g58_ ?_ | (refine aw_if ?_ ?_ <;> intro hb <;> try exact no_) | (refine sx_ ?_ <;> intro bb) | (refine su_ ?_ <;> intro u hu1 hu2) | fail)
      all_goals first | exact e1_ | skip
      refine ⟨k + 1, by omega, by omega, wx_, ?_⟩
      rw [← hst]; exact sl_
    · rw [if_neg hq] at hat
      rw [hat] at hst
      repeat' (first
      | (apply al_call0 rfl rfl rfl rfl (c := co)
         case ha => exact os_
         rintro _ _ ⟨u, rfl, rfl⟩; refine al_rowc (List.Mem.head _) fun hu1 hu2 => ?_)
      | refine g58_ ?_ | (refine aw_if ?_ ?_ <;> intro hb <;> try exact no_) | (refine sx_ ?_ <;> intro bb) | (refine su_ ?_ <;> intro u hu1 hu2) | fail)
      all_goals first | exact e1_ | skip
      refine ⟨k + 1, by omega, by omega, wx_, ?_⟩
      rw [← hst]; exact sl_
  · obtain rfl : k = l.length := by omega
    have hend : U.take l.length ++ l.drop l.length = upB w l := by rw [List.take_of_length_le (by omega), List.drop_of_length_le (Nat.le_refl _), List.append_nil, hU]
    rw [hend]
    repeat' (first
    | (apply al_call0 rfl rfl rfl rfl (c := co)
       case ha => exact os_
       rintro _ _ ⟨u, rfl, rfl⟩; refine al_rowc (List.Mem.head _) fun hu1 hu2 => ?_)
    | refine g58_ ?_ | (refine aw_if ?_ ?_ <;> intro hb <;> try exact no_) | (refine sx_ ?_ <;> intro bb) | (refine su_ ?_ <;> intro u hu1 hu2) | fail)
    all_goals first | exact e1_ | skip
    exact ⟨_, [gsO u (upB w l)], rl_, sl_, u, rfl, rfl⟩
theorem f_scrolls (w h : Int) (l : List Guess) (x y : Int) (b s : Bool) (hw0 : 0 ≤ w) (hw : w.toNat ≤ l.length) (hl : l.length ≤ 100000) : AP Tryz.prog T0 151 [belA w h l x y b s] (belA w h (upB w.toNat l) x y b s) := by
  obtain ⟨w, rfl⟩ := Int.eq_ofNat_of_zero_le hw0
  exact (f_scrollsO w h l x y b s (by simpa using hw) hl).frz1 fza_
theorem f_ref27layO (w : Nat) (h : Int) (l : List Guess) (x y : Int) (b s : Bool) (p : Nat) (cs : List Cell) (hw : 1 ≤ w) (hw2 : w ≤ 1000) (hl : l.length ≤ 100000) (hk : GOk w l) (hp : p + cs.length ≤ l.length) (h2 : 0 < (p + cs.length) % w → p + cs.length < l.length) :
    AF Tryz.prog T0 152 [belA w h l x y b s, I p, slA cellT cs] [] (fun A M' => ∃ u, A = aggA [I w, I h, vA u, I x, I y, B b, B s] ∧ M' = [gsO u (layB w l p cs)]) := by
  have hp1 : 0 < p % w → 1 ≤ p := fun k => by
    rcases Nat.eq_zero_or_pos p with h | h
    · subst h; simp at k
    · exact h
  have co := f_ref27own (T0 := T0) w h l x y b s hl
  rw [← layR_eq hk hp h2]
  refine af_intro Tryz.func152 rfl (by decide) Tryz.ntmps152 rfl ?_
  repeat' (first
  | (apply al_call0 rfl rfl rfl rfl (c := co)
     case ha => exact os_
     rintro _ _ ⟨u, rfl, rfl⟩; refine al_rowc (List.Mem.head _) fun hu1 hu2 => ?_)
  | refine g58_ ?_ | (refine aw_if ?_ ?_ <;> intro hb <;> try exact no_) | (refine sx_ ?_ <;> intro bb) | (refine su_ ?_ <;> intro u hu1 hu2) | fail)
  refine aw_lr (d := fun k : Nat => [(9, I k)]) (g := fun k => ovr l p ((cs.map fun c => ((c, true) : Guess)).take k)) (fun k => k ≤ cs.length) (fun k => cs.length - k) 0 (Nat.zero_le _) ?_ ?_
  · simp [ovr]
  rintro k k1
  have hl3 : (ovr l p ((cs.map fun c => ((c, true) : Guess)).take k)).length = l.length := by rw [ovr_len (by simp; omega)]
  by_cases hlt : k < cs.length
  · obtain ⟨⟨c1, c2⟩, hat⟩ : ∃ z, cs[k]? = some z := ⟨_, List.getElem?_eq_getElem hlt⟩
    have hst := ovr_stepG l p (cs.map fun c => ((c, true) : Guess)) k ((c1, c2), true) (by simp [hat]) (by simp; omega)
    obtain ⟨l4, hl4⟩ : ∃ l4, l4 = ovr l p ((cs.map fun c => ((c, true) : Guess)).take k) := ⟨_, rfl⟩
    rw [← hl4] at hl3 hst ⊢
    repeat' (first
    | (apply al_call0 rfl rfl rfl rfl (c := co)
       case ha => exact os_
       rintro _ _ ⟨u, rfl, rfl⟩; refine al_rowc (List.Mem.head _) fun hu1 hu2 => ?_)
    | refine g58_ ?_ | (refine aw_if ?_ ?_ <;> intro hb <;> try exact no_) | (refine sx_ ?_ <;> intro bb) | (refine su_ ?_ <;> intro u hu1 hu2) | fail)
    all_goals first | exact e1_ | skip
    refine ⟨k + 1, by omega, by omega, wx_, ?_⟩
    rw [← hst]; exact sl_
  · obtain rfl : k = cs.length := by omega
    rw [List.take_of_length_le (by simp)]
    obtain ⟨l5, hl5⟩ : ∃ l5 : List Guess, l5 = ovr l p (cs.map fun c => ((c, true) : Guess)) := ⟨_, rfl⟩
    rw [← hl5]
    have hl6 : l5.length = l.length := by rw [hl5]; exact ovr_len (by simpa using hp)
    repeat' (first
    | (apply al_call0 rfl rfl rfl rfl (c := co)
       case ha => exact os_
       rintro _ _ ⟨u, rfl, rfl⟩; refine al_rowc (List.Mem.head _) fun hu1 hu2 => ?_)
    | refine g58_ ?_ | (refine aw_if ?_ ?_ <;> intro hb <;> try exact no_) | (refine sx_ ?_ <;> intro bb) | (refine su_ ?_ <;> intro u hu1 hu2) | fail)
    all_goals first | exact e1_ | skip
    · rename_i hb1
      have hz : layR w l p cs = (l5.set (p - 1) gBlank).set (p + cs.length) gBlank := by
        unfold layR; simp only
        rw [if_pos ⟨by omega, hb.1.2, hb.2⟩, if_pos ⟨by omega, hb1.1.2, hb1.2⟩, ← hl5]
      rw [hz]
      exact ⟨_, [gsO u _], rl_, sl_, u, rfl, rfl⟩
    · rename_i hb1
      have hz : layR w l p cs = l5.set (p - 1) gBlank := by
        unfold layR; simp only
        rw [if_neg (fun z => by rcases hb with (q | q) | q; omega; rw [z.2.1] at q; cases q; exact q z.2.2), if_pos ⟨by omega, hb1.1.2, hb1.2⟩, ← hl5]
      rw [hz]
      exact ⟨_, [gsO u _], rl_, sl_, u, rfl, rfl⟩
    · rename_i hb1
      have hz : layR w l p cs = l5.set (p + cs.length) gBlank := by
        unfold layR; simp only
        rw [if_pos ⟨by omega, hb.1.2, hb.2⟩, if_neg (fun z => by rcases hb1 with (q | q) | q; omega; rw [z.2.1] at q; cases q; exact q z.2.2), ← hl5]
      rw [hz]
      exact ⟨_, [gsO u _], rl_, sl_, u, rfl, rfl⟩
    · rename_i hb1
      have hz : layR w l p cs = l5 := by
        unfold layR; simp only
        rw [if_neg (fun z => by rcases hb with (q | q) | q; omega; rw [z.2.1] at q; cases q; exact q z.2.2), if_neg (fun z => by rcases hb1 with (q | q) | q; omega; rw [z.2.1] at q; cases q; exact q z.2.2), ← hl5]
      rw [hz]
      exact ⟨_, [gsO u _], rl_, sl_, u, rfl, rfl⟩
theorem f_ref27lay (w h : Int) (l : List Guess) (x y : Int) (b s : Bool) (p : Int) (cs : List Cell) (hw : 1 ≤ w) (hw2 : w ≤ 1000) (hl : l.length ≤ 100000) (hk : GOk w.toNat l) (hp0 : 0 ≤ p) (hp : p + cs.length ≤ l.length) (h2 : 0 < (p.toNat + cs.length) % w.toNat → p.toNat + cs.length < l.length) :
    AP Tryz.prog T0 152 [belA w h l x y b s, I p, slA cellT cs] (belA w h (layB w.toNat l p.toNat cs) x y b s) := by
  obtain ⟨w, rfl⟩ := Int.eq_ofNat_of_zero_le (show 0 ≤ w by omega)
  obtain ⟨p, rfl⟩ := Int.eq_ofNat_of_zero_le hp0
  exact (f_ref27layO w h l x y b s p cs (by omega) (by omega) hl (by simpa using hk) (by omega) h2).frz1 fza_
theorem f_ref27down (w h : Int) (l : List Guess) (x y : Int) (b s : Bool) (c : Cmd) (hx : -1000 ≤ x ∧ x ≤ 1000) (hh : -1000 ≤ h ∧ h ≤ 1000) : AP Tryz.prog T0 150 [belA w h l x y b s, cmdA c] (tupA [B (goesDown w x b c), B (goesDown w x b c && decide (y = h - 1))]) := by
  obtain ⟨k, a, d, r⟩ := c
  have hr : (cellsM r).length ≤ 2 := (cellsM_len r).2
  have c1 := f_ref02Width (T0 := T0) r
  have c2 : True := trivial
  have e : goesDown w x b (k, a, d, r) = (decide (k = 10) || (decide (k = 1) && (b || decide (w < x + (cellsM r).length)))) := rfl
  rw [e]
  clear e
  generalize (cellsM r).length = n at *
  refine af_intro Tryz.func150 rfl (by decide) Tryz.ntmps150 rfl ?_
  repeat' (first
  | refine g20_ ?_ | (refine aw_if ?_ ?_ <;> intro hb <;> try exact no_) | (refine sx_ ?_ <;> intro bb) | (refine su_ ?_ <;> intro u hu1 hu2) | fail)
  exact ⟨_, [], rl_, List.nil_sublist _, Sub.refl _, rfl⟩
theorem f_unsure (w h : Int) (l : List Guess) (x y : Int) (b s : Bool) : AP Tryz.prog T0 148 [belA w h l x y b s] (blA (newB w h).1) := by
  have c1 := f_ref27New (T0 := T0) w h
  have c2 : True := trivial
  generalize newB w h = z at *
  refine af_intro Tryz.func148 rfl (by decide) Tryz.ntmps148 rfl ?_
  repeat' (first
  | refine g20_ ?_ | (refine aw_if ?_ ?_ <;> intro hb <;> try exact no_) | (refine sx_ ?_ <;> intro bb) | (refine su_ ?_ <;> intro u hu1 hu2) | fail)
  exact ⟨_, [], rl_, List.nil_sublist _, Sub.refl _, rfl⟩
theorem blank_okG {w h : Int} (hs : 2 ≤ w ∧ w ≤ 80 ∧ 1 ≤ h ∧ h ≤ 24) : okG w h (List.replicate (w.toNat * h.toNat) (32, 0)) = true := by
  obtain ⟨w, rfl⟩ := Int.eq_ofNat_of_zero_le (show 0 ≤ w by omega)
  obtain ⟨h, rfl⟩ := Int.eq_ofNat_of_zero_le (show 0 ≤ h by omega)
  have hat : ∀ i, i < w * h → cAt (List.replicate (w * h) (32, 0)) i = (32, 0) := fun i hi => by simp [cAt, List.getElem?_replicate, hi]
  simp only [okG, OkG, decide_eq_true_eq, Int.toNat_natCast, List.length_replicate]
  refine ⟨hs, Int.natCast_mul w h, fun i hi => ?_⟩
  rw [hat i hi]
  exact ⟨isCell_blank, lost_false.2 (by rw [hat i hi]; exact ⟨fun z => (by simp at z), fun z => (by simp at z)⟩)⟩
theorem f_cursor (w h : Int) (l : List Guess) (x y : Int) (b s : Bool) (c : Cmd) (hs : 2 ≤ w ∧ w ≤ 80 ∧ 1 ≤ h ∧ h ≤ 24) (hx : 0 ≤ x ∧ x < w) (hy : 0 ≤ y ∧ y < h) (hb : b = true → x = w - 1) (hc : isCmd c = true) : ∃ L, AP Tryz.prog T0 149 [belA w h l x y b s, cmdA c] (termA w h L (curK w h x y b c).1 (curK w h x y b c).2.1 (curK w h x y b c).2.2) := by
  obtain ⟨G, hG⟩ : ∃ G, G = List.replicate (w.toNat * h.toNat) ((32, 0) : Cell) := ⟨_, rfl⟩
  have hok : okT w h G x y b = true := okT_iff.2 ⟨by rw [hG]; exact blank_okG hs, ⟨hx.1, hx.2, hy.1, hy.2⟩, hb⟩
  have c1 : AP Tryz.prog T0 181 [I w, I h] (tupA [termA w h G 0 0 false, I 0]) := (f_ref07New w h).to (by rw [newR, if_pos (by simp [sidesM]; omega), hG])
  have c2 : AP Tryz.prog T0 182 [termA w h G x y b, cmdA c] (tupA [tmA (doK w h G x y b c), I 0]) := (f_ref07Do w h G x y b c).to (by rw [doT_ok (t := (w, h, G, x, y, b)) hok hc])
  refine ⟨(doK w h G x y b c).2.2.1, ?_⟩
  rw [← doK_cur w h G x y b c]
  have hsd := doK_sides w h G x y b c
  clear hG hok
  generalize doK w h G x y b c = z at *
  obtain ⟨z1, z2, z3, z4, z5, z6⟩ := z
  obtain ⟨rfl, rfl⟩ := hsd
  refine af_intro Tryz.func149 rfl (by decide) Tryz.ntmps149 rfl ?_
  repeat' (first
  | refine g20_ ?_ | (refine aw_if ?_ ?_ <;> intro hb <;> try exact no_) | (refine sx_ ?_ <;> intro bb) | (refine su_ ?_ <;> intro u hu1 hu2) | fail)
  exact ⟨_, [], rl_, List.nil_sublist _, Sub.refl _, rfl⟩
end Go.Proofs.YtgfmjmfphmjdkaaGreatDoor
namespace Go.Proofs.YtgfmjmfphmjdkaaGreatDoor
set_option linter.unusedSimpArgs false
set_option linter.unusedVariables false
set_option linter.unusedSectionVars false
set_option maxHeartbeats 4000000
open Go Go.RowKit
set_option maxRecDepth 100000
variable {T0 : Gh} [TabS T0]
theorem sub_noB2 {n : Int} : Sub (tupA [aggA [I 0, I 0, vA (.slice none 0 0), I 0, I 0, B false, B false], I n]) (tupA [blA noB, I n]) := sub_tup (subl1 (sub_agg (subl1 (Sub.refl _) (subl1 (Sub.refl _) (subl1 sub_nilB (subl1 (Sub.refl _) (subl1 (Sub.refl _) (subl1 (Sub.refl _) (subl1 (Sub.refl _) subl0)))))))) (subl1 (Sub.refl _) subl0))
/-- the cursor of a belief that is right -/
theorem be_cur {w h : Int} {l : List Guess} {x y : Int} {b s : Bool} (h1 : okBe w h l x y b s = true) : (2 ≤ w ∧ w ≤ 80 ∧ 1 ≤ h ∧ h ≤ 24) ∧ (0 ≤ x ∧ x < w) ∧ (0 ≤ y ∧ y < h) ∧ (b = true → x = w - 1) ∧ (l.length : Int) = w * h ∧ l.length ≤ 1920 ∧ (0 ≤ y * w ∧ y * w ≤ 1920) ∧ GOk w.toNat l ∧ l.length = w.toNat * h.toNat := by
  obtain ⟨w', h', rfl, rfl, w2, w3, w4, w5, hl, hk, p1, p2⟩ := okBe_iff.1 h1
  have hcur : (0 ≤ x ∧ x < (w' : Int)) ∧ (0 ≤ y ∧ y < (h' : Int)) ∧ (b = true → x = (w' : Int) - 1) := by
    cases s with
    | true => obtain ⟨q1, q2, q3, q4, q5⟩ := p1 rfl; exact ⟨⟨q1, q2⟩, ⟨q3, q4⟩, q5⟩
    | false => obtain ⟨rfl, rfl, rfl⟩ := p2 rfl; exact ⟨by omega, by omega, fun z => by cases z⟩
  have hm := mul_rng (w := w') (h := h') (y := y) (by omega) (by omega) hcur.2.1
  have := side_leB w3 w5
  exact ⟨by omega, hcur.1, hcur.2.1, hcur.2.2, by rw [hl]; exact Int.natCast_mul w' h', by omega, by omega, by simpa using hk, by simpa using hl⟩
attribute [local irreducible] thenA inBlockA AW AL AO QY varO rowO rsA Opd OpdN vA gvA tupA aggA slA slcA ipA rpA EqK LnK IxK LdK FaK FdK
/-- cursor and list are what they are: the rest is one walk -/
theorem f_ref27DoK (w h : Int) (l : List Guess) (x y : Int) (b s : Bool) (k a d r : Int) (h1 : okBe w h l x y b s = true) (hc : isCmd (k, a, d, r) = true) (hgo : s = true ∨ k = 2) : AP Tryz.prog T0 112 [belA w h l x y b s, aggA [I k, I a, I d, R r]] (tupA [blA (doBK w h l x y b (k, a, d, r)), I 0]) := by
  obtain ⟨hw, hx, hy, hb0, hl, hl2, hm, hg, hl3⟩ := be_cur h1
  have c1 : AP Tryz.prog T0 89 [belA w h l x y b s] (B true) := (f_ref27Is w h l x y b s).to (by rw [h1])
  have c2 : AP Tryz.prog T0 130 [aggA [I k, I a, I d, R r]] (B true) := (f_ref05Is (k, a, d, r)).to (by rw [hc])
  obtain ⟨T, c3⟩ := f_cursor (T0 := T0) w h l x y b s (k, a, d, r) hw hx hy hb0 hc
  replace c3 : AP Tryz.prog T0 149 [belA w h l x y b s, aggA [I k, I a, I d, R r]] _ := c3
  have c4 := f_ref27ownF (T0 := T0) w h l x y b s (by omega)
  have c5 : AP Tryz.prog T0 147 [I k] (B (chg k)) := f_ref27changes k
  have hlen := Int.toNat_of_nonneg (show 0 ≤ w by omega)
  have hlen2 := Int.toNat_of_nonneg (show 0 ≤ h by omega)
  have hlx := Int.toNat_of_nonneg hx.1
  have hly := Int.toNat_of_nonneg hy.1
  have hat := toNat_at (w := w) (x := x) (y := y) (by omega) (by omega) (by omega)
  have hri := row_in (h := h.toNat) (w := w.toNat) (y := y.toNat) (x := x.toNat) (n := w.toNat - x.toNat) (by omega) (by omega)
  have hsk : k ≠ 2 → s = true := fun z => by rcases hgo with q | q; exact q; exact absurd q z
  unfold doBK
  obtain ⟨⟨X, Y, Z⟩, hcu⟩ : ∃ z, z = curK w h x y b (k, a, d, r) := ⟨_, rfl⟩
  rw [← hcu] at c3 ⊢
  dsimp only at c3 ⊢
  have cd : ∀ v, goesDown w x b (k, a, d, r) = v → AP Tryz.prog T0 150 [belA w h l x y b s, aggA [I k, I a, I d, R r]] (tupA [B v, B (v && decide (y = h - 1))]) := fun v hv => by
    have := f_ref27down (T0 := T0) w h l x y b s (k, a, d, r) (by omega) (by omega)
    rw [hv] at this; exact this
  rcases cmd_ways hc with ⟨r', e, hs⟩ | ⟨a', d', e, ha, ha2, hd1, hd2⟩ | ⟨k', a', e, hk, ha⟩ | ⟨k', e, hk⟩
  · obtain ⟨rfl, rfl, rfl, rfl⟩ : k = 1 ∧ a = 0 ∧ d = 0 ∧ r = r' := by simpa using e
    have hs' := hsk (by decide)
    subst hs'
    have hn := cellsM_rng hs
    rw [show chg 1 = true from rfl] at c5
    have gd : goesDown w x b (1, 0, 0, r) = true ↔ (b = true ∨ w < x + (cellsM r).length) := by simp [goesDown]
    have c9 := f_ref02Cells (T0 := T0) r
    have lay : ∀ (L1 : List Guess) (P : Int) (PX PY : Nat), L1.length = l.length → GOk w.toNat L1 → P.toNat = PY * w.toNat + PX → 0 ≤ P → PY < h.toNat → PX + (cellsM r).length ≤ w.toNat → AP Tryz.prog T0 152 [belA w h L1 x y b true, I P, slA cellT (cellsM r)] (belA w h (layB w.toNat L1 (PY * w.toNat + PX) (cellsM r)) x y b true) := fun L1 P PX PY a1 a2 a3 a4 a5 a6 => by
      have hri := row_in (h := h.toNat) (w := w.toNat) (y := PY) (x := PX) (n := (cellsM r).length) a5 a6
      have := f_ref27lay (T0 := T0) w h L1 x y b true P (cellsM r) (by omega) (by omega) (by omega) a2 a4 (by omega) (by rw [a3, a1]; exact lay_end (h := h.toNat) hl3 hri)
      rwa [a3] at this
    show AP _ _ _ _ (tupA [belA w h (textL w.toNat h.toNat l x.toNat y.toNat b (cellsM r)) X Y Z true, I 0])
    unfold textL
    by_cases hq : b = true ∨ w < x + (cellsM r).length
    · have c6 := cd true (gd.2 hq)
      rw [if_pos (show b = true ∨ w.toNat < x.toNat + (cellsM r).length by rcases hq with q | q; exact .inl q; exact .inr (by omega))]
      by_cases e2 : y = h - 1
      · rw [if_neg (by omega)]
        rw [show decide (y = h - 1) = true from decide_eq_true e2, Bool.and_true] at c6
        have hU : (upB w.toNat l).length = l.length := by rw [upB_len]; rw [hl3]; exact Nat.le_mul_of_pos_right _ (by omega)
        have c7 := f_scrolls (T0 := T0) w h l x y b true (by omega) (by rw [hl3]; exact Nat.le_mul_of_pos_right _ (by omega)) (by omega)
        have c8 := lay (upB w.toNat l) (y * w) 0 y.toNat hU (upB_ok (h := h.toNat) (by omega) (by omega) hl3 hg) (by have := toNat_at (w := w) (x := 0) (y := y) (by omega) (by omega) (by omega); simpa using this) (by omega) (by omega) (by omega)
        rw [Nat.add_zero] at c8
        generalize layB w.toNat (upB w.toNat l) (y.toNat * w.toNat) (cellsM r) = L at *
        generalize upB w.toNat l = L1 at *
        clear lay cd gd
        refine af_intro Tryz.func112 rfl (by decide) Tryz.ntmps112 rfl ?_
        repeat' (first
        | refine g57_ ?_ | (refine aw_if ?_ ?_ <;> intro hb <;> try exact no_) | (refine sx_ ?_ <;> intro bb) | (refine su_ ?_ <;> intro u hu1 hu2) | fail)
        all_goals first | exact e7_ | skip
      · rw [if_pos (by omega)]
        have hm2 := mul_rng (w := w) (h := h) (y := y + 1) (by omega) (by omega) (by omega)
        rw [show decide (y = h - 1) = false from decide_eq_false e2, Bool.and_false] at c6
        have c7 : True := trivial
        have c8 := lay l ((y + 1) * w) 0 (y.toNat + 1) rfl hg (by have := toNat_at (w := w) (x := 0) (y := y + 1) (by omega) (by omega) (by omega); rw [show (y + 1).toNat = y.toNat + 1 by omega] at this; simpa using this) (by omega) (by omega) (by omega)
        rw [Nat.add_zero] at c8
        generalize layB w.toNat l ((y.toNat + 1) * w.toNat) (cellsM r) = L at *
        clear lay cd gd
        refine af_intro Tryz.func112 rfl (by decide) Tryz.ntmps112 rfl ?_
        repeat' (first
        | refine g57_ ?_ | (refine aw_if ?_ ?_ <;> intro hb <;> try exact no_) | (refine sx_ ?_ <;> intro bb) | (refine su_ ?_ <;> intro u hu1 hu2) | fail)
        all_goals first | exact e7_ | skip
    · have c6 := cd false (by cases h : goesDown w x b (1, 0, 0, r) with | true => exact absurd (gd.1 h) hq | false => rfl)
      rw [Bool.false_and] at c6
      rw [if_neg (show ¬ (b = true ∨ w.toNat < x.toNat + (cellsM r).length) by rintro (q | q); exact hq (.inl q); exact hq (.inr (by omega)))]
      have c7 : True := trivial
      have c8 := lay l (y * w + x) x.toNat y.toNat rfl hg hat (by omega) (by omega) (by omega)
      generalize layB w.toNat l (y.toNat * w.toNat + x.toNat) (cellsM r) = L at *
      clear lay cd gd
      refine af_intro Tryz.func112 rfl (by decide) Tryz.ntmps112 rfl ?_
      repeat' (first
      | refine g57_ ?_ | (refine aw_if ?_ ?_ <;> intro hb <;> try exact no_) | (refine sx_ ?_ <;> intro bb) | (refine su_ ?_ <;> intro u hu1 hu2) | fail)
      all_goals first | exact e7_ | skip
  · obtain ⟨rfl, rfl, rfl, rfl⟩ : k = 2 ∧ a = a' ∧ d = d' ∧ r = 0 := by simpa using e
    have c6 := cd false (by simp [goesDown])
    have c7 : True := trivial
    have c8 : True := trivial
    have c9 : True := trivial
    show AP _ _ _ _ (tupA [belA w h l X Y Z true, I 0])
    rw [show chg 2 = false from rfl] at c5
    cases s with
    | true =>
      refine af_intro Tryz.func112 rfl (by decide) Tryz.ntmps112 rfl ?_
      repeat' (first
      | refine g57_ ?_ | (refine aw_if ?_ ?_ <;> intro hb <;> try exact no_) | (refine sx_ ?_ <;> intro bb) | (refine su_ ?_ <;> intro u hu1 hu2) | fail)
      all_goals first | exact e7_ | skip
    | false =>
      refine af_intro Tryz.func112 rfl (by decide) Tryz.ntmps112 rfl ?_
      repeat' (first
      | refine g57_ ?_ | (refine aw_if ?_ ?_ <;> intro hb <;> try exact no_) | (refine sx_ ?_ <;> intro bb) | (refine su_ ?_ <;> intro u hu1 hu2) | fail)
      all_goals first | exact e7_ | skip
  · obtain ⟨rfl, rfl, rfl, rfl⟩ : k = k' ∧ a = a' ∧ d = 0 ∧ r = 0 := by simpa using e
    have hs := hsk (by omega)
    subst hs
    have c6 := cd false (by simp [goesDown]; omega)
    have c7 : True := trivial
    have c8 : True := trivial
    have c9 : True := trivial
    have eL : listK w.toNat h.toNat l x.toNat y.toNat b (k, a, 0, 0) = l := by
      unfold listK
      rw [if_neg (show k ≠ 1 by omega), if_neg (show k ≠ 7 by omega), if_neg (show k ≠ 8 by omega), if_neg (show k ≠ 10 by omega)]
    rw [eL]
    show AP _ _ _ _ (tupA [belA w h l X Y Z true, I 0])
    rw [show chg k = false by simp [chg]; omega] at c5
    rcases hk with rfl | rfl | rfl | rfl
    · refine af_intro Tryz.func112 rfl (by decide) Tryz.ntmps112 rfl ?_
      repeat' (first
      | refine g57_ ?_ | (refine aw_if ?_ ?_ <;> intro hb <;> try exact no_) | (refine sx_ ?_ <;> intro bb) | (refine su_ ?_ <;> intro u hu1 hu2) | fail)
      all_goals first | exact e7_ | skip
    · refine af_intro Tryz.func112 rfl (by decide) Tryz.ntmps112 rfl ?_
      repeat' (first
      | refine g57_ ?_ | (refine aw_if ?_ ?_ <;> intro hb <;> try exact no_) | (refine sx_ ?_ <;> intro bb) | (refine su_ ?_ <;> intro u hu1 hu2) | fail)
      all_goals first | exact e7_ | skip
    · refine af_intro Tryz.func112 rfl (by decide) Tryz.ntmps112 rfl ?_
      repeat' (first
      | refine g57_ ?_ | (refine aw_if ?_ ?_ <;> intro hb <;> try exact no_) | (refine sx_ ?_ <;> intro bb) | (refine su_ ?_ <;> intro u hu1 hu2) | fail)
      all_goals first | exact e7_ | skip
    · refine af_intro Tryz.func112 rfl (by decide) Tryz.ntmps112 rfl ?_
      repeat' (first
      | refine g57_ ?_ | (refine aw_if ?_ ?_ <;> intro hb <;> try exact no_) | (refine sx_ ?_ <;> intro bb) | (refine su_ ?_ <;> intro u hu1 hu2) | fail)
      all_goals first | exact e7_ | skip
  · obtain ⟨rfl, rfl, rfl, rfl⟩ : k = k' ∧ a = 0 ∧ d = 0 ∧ r = 0 := by simpa using e
    have hs := hsk (by omega)
    subst hs
    have nd : k ≠ 10 → goesDown w x b (k, 0, 0, 0) = false := fun z => by simp [goesDown, z]; omega
    have lay : ∀ (P : Nat), P ≤ w.toNat * h.toNat - (y.toNat * w.toNat + x.toNat) → AP Tryz.prog T0 152 [belA w h l x y b true, I (y * w + x), slA cellT (List.replicate P (32, 0))] (belA w h (layB w.toNat l (y.toNat * w.toNat + x.toNat) (List.replicate P (32, 0))) x y b true) := fun P hP => by
      have := f_ref27lay (T0 := T0) w h l x y b true (y * w + x) (List.replicate P (32, 0)) (by omega) (by omega) (by omega) hg (by omega) (by simp; omega) (by rw [hat]; exact lay_end (h := h.toNat) hl3 (by simp; omega))
      rwa [hat] at this
    rcases hk with rfl | rfl | rfl | rfl | rfl | rfl
    · have c6 := cd false (nd (by decide))
      have c7 := f_blanksI (T0 := T0) (w - x) (by omega) (by omega)
      have c8 := lay (w - x).toNat (by omega)
      have c9 : True := trivial
      rw [show chg 7 = true from rfl] at c5
      show AP _ _ _ _ (tupA [belA w h (layB w.toNat l (y.toNat * w.toNat + x.toNat) (List.replicate (w.toNat - x.toNat) (32, 0))) X Y Z true, I 0])
      rw [show w.toNat - x.toNat = (w - x).toNat by omega]
      generalize layB w.toNat l (y.toNat * w.toNat + x.toNat) (List.replicate (w - x).toNat (32, 0)) = L at *
      clear lay cd hri hat
      refine af_intro Tryz.func112 rfl (by decide) Tryz.ntmps112 rfl ?_
      repeat' (first
      | refine g57_ ?_ | (refine aw_if ?_ ?_ <;> intro hb <;> try exact no_) | (refine sx_ ?_ <;> intro bb) | (refine su_ ?_ <;> intro u hu1 hu2) | fail)
      all_goals first | exact e7_ | skip
    · have c6 := cd false (nd (by decide))
      have hwh : 0 ≤ w * h ∧ w * h ≤ 1920 := by omega
      have hge : y * w + x ≤ w * h := by
        have := hl3; have := hat; omega
      have c7 := f_blanksI (T0 := T0) (w * h - (y * w + x)) (by omega) (by omega)
      have c8 := lay (w * h - (y * w + x)).toNat (by omega)
      have c9 : True := trivial
      rw [show chg 8 = true from rfl] at c5
      show AP _ _ _ _ (tupA [belA w h (layB w.toNat l (y.toNat * w.toNat + x.toNat) (List.replicate (l.length - (y.toNat * w.toNat + x.toNat)) (32, 0))) X Y Z true, I 0])
      rw [show l.length - (y.toNat * w.toNat + x.toNat) = (w * h - (y * w + x)).toNat by omega]
      generalize layB w.toNat l (y.toNat * w.toNat + x.toNat) (List.replicate (w * h - (y * w + x)).toNat (32, 0)) = L at *
      clear lay cd hri hat
      refine af_intro Tryz.func112 rfl (by decide) Tryz.ntmps112 rfl ?_
      repeat' (first
      | refine g57_ ?_ | (refine aw_if ?_ ?_ <;> intro hb <;> try exact no_) | (refine sx_ ?_ <;> intro bb) | (refine su_ ?_ <;> intro u hu1 hu2) | fail)
      all_goals first | exact e7_ | skip
    · have c6 := cd false (nd (by decide))
      have c7 : True := trivial
      have c8 : True := trivial
      have c9 : True := trivial
      rw [show chg 9 = false from rfl] at c5
      show AP _ _ _ _ (tupA [belA w h l X Y Z true, I 0])
      refine af_intro Tryz.func112 rfl (by decide) Tryz.ntmps112 rfl ?_
      repeat' (first
      | refine g57_ ?_ | (refine aw_if ?_ ?_ <;> intro hb <;> try exact no_) | (refine sx_ ?_ <;> intro bb) | (refine su_ ?_ <;> intro u hu1 hu2) | fail)
      all_goals first | exact e7_ | skip
    · have c8 : True := trivial
      have c9 : True := trivial
      have c6 := cd true (by simp [goesDown])
      rw [show chg 10 = true from rfl] at c5
      show AP _ _ _ _ (tupA [belA w h (if y.toNat + 1 < h.toNat then l else upB w.toNat l) X Y Z true, I 0])
      by_cases e2 : y = h - 1
      · rw [if_neg (by omega)]
        rw [show decide (y = h - 1) = true from decide_eq_true e2, Bool.and_true] at c6
        have c7 := f_scrolls (T0 := T0) w h l x y b true (by omega) (by rw [hl3]; exact Nat.le_mul_of_pos_right _ (by omega)) (by omega)
        generalize upB w.toNat l = L1 at *
        refine af_intro Tryz.func112 rfl (by decide) Tryz.ntmps112 rfl ?_
        repeat' (first
        | refine g57_ ?_ | (refine aw_if ?_ ?_ <;> intro hb <;> try exact no_) | (refine sx_ ?_ <;> intro bb) | (refine su_ ?_ <;> intro u hu1 hu2) | fail)
        all_goals first | exact e7_ | skip
      · rw [if_pos (by omega)]
        rw [show decide (y = h - 1) = false from decide_eq_false e2, Bool.and_false] at c6
        have c7 : True := trivial
        refine af_intro Tryz.func112 rfl (by decide) Tryz.ntmps112 rfl ?_
        repeat' (first
        | refine g57_ ?_ | (refine aw_if ?_ ?_ <;> intro hb <;> try exact no_) | (refine sx_ ?_ <;> intro bb) | (refine su_ ?_ <;> intro u hu1 hu2) | fail)
        all_goals first | exact e7_ | skip
    · have c6 := cd false (nd (by decide))
      have c7 : True := trivial
      have c8 : True := trivial
      have c9 : True := trivial
      rw [show chg 11 = false from rfl] at c5
      show AP _ _ _ _ (tupA [belA w h l X Y Z true, I 0])
      refine af_intro Tryz.func112 rfl (by decide) Tryz.ntmps112 rfl ?_
      repeat' (first
      | refine g57_ ?_ | (refine aw_if ?_ ?_ <;> intro hb <;> try exact no_) | (refine sx_ ?_ <;> intro bb) | (refine su_ ?_ <;> intro u hu1 hu2) | fail)
      all_goals first | exact e7_ | skip
    · have c6 := cd false (nd (by decide))
      have c7 : True := trivial
      have c8 : True := trivial
      have c9 : True := trivial
      rw [show chg 12 = false from rfl] at c5
      show AP _ _ _ _ (tupA [belA w h l X Y Z true, I 0])
      refine af_intro Tryz.func112 rfl (by decide) Tryz.ntmps112 rfl ?_
      repeat' (first
      | refine g57_ ?_ | (refine aw_if ?_ ?_ <;> intro hb <;> try exact no_) | (refine sx_ ?_ <;> intro bb) | (refine su_ ?_ <;> intro u hu1 hu2) | fail)
      all_goals first | exact e7_ | skip
theorem f_ref27Do (w h : Int) (l : List Guess) (x y : Int) (b s : Bool) (c : Cmd) : AP Tryz.prog T0 112 [belA w h l x y b s, cmdA c] (tupA [blA (doB (w, h, l, x, y, b, s) c).1, I (doB (w, h, l, x, y, b, s) c).2]) := by
  have c6 : True := trivial
  have c7 : True := trivial
  have c8 : True := trivial
  have c9 : True := trivial
  by_cases hh : okBe w h l x y b s = true ∧ isCmd c = true
  · obtain ⟨hok, hc⟩ := hh
    have c1 : AP Tryz.prog T0 89 [belA w h l x y b s] (B true) := (f_ref27Is w h l x y b s).to (by rw [hok])
    have c2 : AP Tryz.prog T0 130 [cmdA c] (B true) := (f_ref05Is c).to (by rw [hc])
    by_cases q1 : s = false ∧ chg c.1 = true
    · have e : doB (w, h, l, x, y, b, s) c = newB w h := by unfold doB; rw [if_pos ⟨hok, hc⟩, if_pos q1]
      have hsd : sidesM w h = true := by
        obtain ⟨w, h, rfl, rfl, w2, w3, w4, w5, _⟩ := okBe_iff.1 hok
        simp [sidesM]; omega
      rw [e]
      obtain ⟨rfl, q1⟩ := q1
      have c3 := f_unsure (T0 := T0) w h l x y b false
      have c4 : True := trivial
      have c5 : AP Tryz.prog T0 147 [I c.1] (B true) := (f_ref27changes c.1).to (by rw [q1])
      have e2 : (newB w h).2 = 0 := by rw [newB, if_pos hsd]
      rw [e2]
      generalize (newB w h).1 = z at *
      obtain ⟨z1, z2, z3, z4, z5, z6, z7⟩ := z
      obtain ⟨k, a, d, r⟩ := c
      refine af_intro Tryz.func112 rfl (by decide) Tryz.ntmps112 rfl ?_
      repeat' (first
      | refine g57_ ?_ | (refine aw_if ?_ ?_ <;> intro hb <;> try exact no_) | (refine sx_ ?_ <;> intro bb) | (refine su_ ?_ <;> intro u hu1 hu2) | fail)
      all_goals first | exact e7_ | skip
    · have c3 : True := trivial
      have c4 : True := trivial
      by_cases q2 : s = false ∧ c.1 ≠ 2
      · have e : doB (w, h, l, x, y, b, s) c = ((w, h, l, x, y, b, s), 0) := by unfold doB; rw [if_pos ⟨hok, hc⟩, if_neg q1, if_pos (.inl q2)]
        rw [e]
        obtain ⟨rfl, q2⟩ := q2
        have c5 : AP Tryz.prog T0 147 [I c.1] (B false) := (f_ref27changes c.1).to (by rw [show chg c.1 = false by simpa using q1])
        obtain ⟨k, a, d, r⟩ := c
        refine af_intro Tryz.func112 rfl (by decide) Tryz.ntmps112 rfl ?_
        repeat' (first
        | refine g57_ ?_ | (refine aw_if ?_ ?_ <;> intro hb <;> try exact no_) | (refine sx_ ?_ <;> intro bb) | (refine su_ ?_ <;> intro u hu1 hu2) | fail)
        all_goals first | exact e7_ | skip
      · have key := f_ref27DoK (T0 := T0) w h l x y b s c.1 c.2.1 c.2.2.1 c.2.2.2 hok hc (by
          cases s with
          | true => exact .inl rfl
          | false => exact .inr (Classical.byContradiction fun z => q2 ⟨rfl, z⟩))
        have e : doB (w, h, l, x, y, b, s) c = (doBK w h l x y b c, 0) := by
          unfold doB; rw [if_pos ⟨hok, hc⟩, if_neg q1]
          by_cases q3 : (s = false ∧ c.1 ≠ 2) ∨ c.1 = 12
          · rw [if_pos q3]
            have q4 : c.1 = 12 := by rcases q3 with q | q; exact absurd q q2; exact q
            have hs : s = true := by
              cases s with
              | true => rfl
              | false => exact absurd ⟨rfl, by rw [q4]; decide⟩ q2
            subst hs
            rcases cmd_ways hc with ⟨r, rfl, hr⟩ | ⟨a, d, rfl, ha⟩ | ⟨k, a, rfl, hk, ha⟩ | ⟨k, rfl, hk⟩
            · simp at q4
            · simp at q4
            · simp only at q4; omega
            · simp only at q4; subst q4; rfl
          · rw [if_neg q3]
        rw [e]; exact key
  · rw [doB_no hh]
    have c3 : True := trivial
    have c4 : True := trivial
    have c5 : True := trivial
    show AP _ _ _ _ (tupA [blA noB, I 1])
    cases e1 : okBe w h l x y b s with
    | false =>
      have c1 : AP Tryz.prog T0 89 [belA w h l x y b s] (B false) := (f_ref27Is w h l x y b s).to (by rw [e1])
      have c2 := f_ref05Is (T0 := T0) c
      refine af_intro Tryz.func112 rfl (by decide) Tryz.ntmps112 rfl ?_
      repeat' (first
      | refine g57_ ?_ | (refine aw_if ?_ ?_ <;> intro hb <;> try exact no_) | (refine sx_ ?_ <;> intro bb) | (refine su_ ?_ <;> intro u hu1 hu2) | fail)
      all_goals first | exact e7_ | skip
    | true =>
      have e2 : isCmd c = false := by
        cases e : isCmd c with
        | false => rfl
        | true => exact absurd ⟨e1, e⟩ hh
      have c1 : AP Tryz.prog T0 89 [belA w h l x y b s] (B true) := (f_ref27Is w h l x y b s).to (by rw [e1])
      have c2 : AP Tryz.prog T0 130 [cmdA c] (B false) := (f_ref05Is c).to (by rw [e2])
      refine af_intro Tryz.func112 rfl (by decide) Tryz.ntmps112 rfl ?_
      repeat' (first
      | refine g57_ ?_ | (refine aw_if ?_ ?_ <;> intro hb <;> try exact no_) | (refine sx_ ?_ <;> intro bb) | (refine su_ ?_ <;> intro u hu1 hu2) | fail)
      all_goals first | exact e7_ | skip
end Go.Proofs.YtgfmjmfphmjdkaaGreatDoor
