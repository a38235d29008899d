/- Layer 27 (belief): what is forgotten, the belief of a terminal, does it agree, by the program. No condition. -/
import Derived.Test.YtgfmjmfphmjdkaaGreatDoorQ3BD
import Derived.Test.YtgfmjmfphmjdkaaGreatDoorQ3B1
import Derived.Test.YtgfmjmfphmjdkaaGreatDoorQ3AQ
namespace Go.Proofs.YtgfmjmfphmjdkaaGreatDoor
set_option linter.unusedSimpArgs false
set_option linter.unusedVariables false
set_option linter.unusedSectionVars false
set_option maxHeartbeats 4000000
open Go Go.RowKit
set_option maxRecDepth 100000
theorem ofL_take {l : List Cell} {k : Nat} {c : Cell} (h : l[k]? = some c) : ofL (l.take (k + 1)) = ofL (l.take k) ++ [(c, true)] := by
  unfold ofL; rw [List.take_add_one, h, List.map_append]; rfl
theorem agrB_of {w h : Int} {l : List Guess} {x y : Int} {b s : Bool} {tl : List Cell} {tx ty : Int} {tb : Bool} (h1 : okBe w h l x y b s = true) (h2 : okT w h tl tx ty tb = true) : agrB (w, h, l, x, y, b, s) (w, h, tl, tx, ty, tb) = true ↔ Agr l tl ∧ (s = true → x = tx ∧ y = ty ∧ b = tb) := by
  unfold agrB
  rw [decide_eq_true_iff]
  exact ⟨fun z => z.2.2.2.2, fun z => ⟨h1, h2, rfl, rfl, z⟩⟩
theorem agrB_no {b : Bel} {t : Tm} (h : ¬ (okBl b = true ∧ okTm t = true ∧ b.1 = t.1 ∧ b.2.1 = t.2.1)) : agrB b t = false := by
  unfold agrB
  exact decide_eq_false fun z => h ⟨z.1, z.2.1, z.2.2.1, z.2.2.2.1⟩
theorem okBe_len2 {w h : Int} {l : List Guess} {x y : Int} {b s : Bool} (h1 : okBe w h l x y b s = true) : (l.length : Int) = w * h ∧ l.length ≤ 1920 ∧ (2 ≤ w ∧ w ≤ 80 ∧ 1 ≤ h ∧ h ≤ 24) := by
  obtain ⟨w', h', rfl, rfl, w2, w3, w4, w5, hl, hk, p1, p2⟩ := okBe_iff.1 h1
  have := side_leB w3 w5
  exact ⟨by rw [hl]; exact Int.natCast_mul w' h', by omega, by omega⟩
variable {T0 : Gh} [TabS T0]
attribute [local irreducible] thenA inBlockA AW AL AO QY varO rowO rsA Opd OpdN vA gvA tupA aggA slA slcA ipA rpA EqK LnK IxK LdK FaK FdK
theorem f_beOfO (w h : Int) (l : List Cell) (x y : Int) (b : Bool) (h1 : okT w h l x y b = true) : AF Tryz.prog T0 62 [termA w h l x y b] [] (fun A M' => ∃ u, A = tupA [aggA [I w, I h, vA u, I x, I y, B b, B true], I 0] ∧ M' = [gsO u (ofL l)]) := by
  have hl := (okG_len (okT_iff.1 h1).1).2.1
  have c1 : AP Tryz.prog T0 46 [termA w h l x y b] (B true) := (f_termIs w h l x y b).to (by rw [h1])
  have c2 : True := trivial
  refine af_intro Tryz.func62 rfl (by decide) Tryz.ntmps62 rfl ?_
  repeat' (first
  | (apply aw_regionT 5; (case hD => decide +kernel); (case hB => decide +kernel); (case hg => decide +kernel); (case hm => kernel_rfl); (case hs => rfl)) | refine g56_ ?_ | (apply aw_region1q (by rfl) (by kernel_rfl) (by kernel_rfl)) | refine g55_ ?_ | (refine aw_if ?_ ?_ <;> intro hb <;> try exact no_) | (refine sx_ ?_ <;> intro bb) | (refine su_ ?_ <;> intro u hu1 hu2) | fail)
  all_goals first | exact e2_ | skip
  rename_i b1 b2
  refine aw_nil guT 96 ?_
  refine aw_fl2 (fun (k : Nat) (u : Value) => [(1, vA (.pointer (some ⟨b1, 0, none⟩))), (2, vA (.pointer (some ⟨b2, 0, none⟩))), (4, vA (.pointer (some ⟨bb, 0, none⟩))), (26, slA cellT l), (27, I l.length), (28, I k)]) (fun k u => [gsO u (ofL (l.take k)), varO bb 24 [I w, I h, vA u, I x, I y, B b, B true], varO b2 24 [I 0, I 0, vA (.slice none 0 0), I 0, I 0, B false, B false], varO b1 29 [I w, I h, slA cellT l, I x, I y, B b]]) (fun k _ => k ≤ l.length) (fun k _ => l.length - k) 0 _ (Nat.zero_le _) wk_ (List.Sublist.refl _) ?_
  rintro k u k1
  refine aw_rowc (List.Mem.head _) fun hu1 hu2 => ?_
  have hlen : (ofL (l.take k)).length = k := by rw [ofL_len, List.length_take]; omega
  by_cases hlt : k < l.length
  · obtain ⟨⟨p1, p2⟩, hat⟩ : ∃ z, l[k]? = some z := ⟨_, List.getElem?_eq_getElem hlt⟩
    have hst := ofL_take hat
    generalize ofL (l.take k) = L0 at *
    repeat' (first
    | (apply aw_regionT 5; (case hD => decide +kernel); (case hB => decide +kernel); (case hg => decide +kernel); (case hm => kernel_rfl); (case hs => rfl)) | refine g56_ ?_ | (apply aw_region1q (by rfl) (by kernel_rfl) (by kernel_rfl)) | refine g55_ ?_ | (refine aw_if ?_ ?_ <;> intro hb <;> try exact no_) | (refine sx_ ?_ <;> intro bb) | (refine su_ ?_ <;> intro u hu1 hu2) | fail)
    all_goals first | exact e1_ | skip
    exact ⟨k + 1, _, by omega, by omega, wk_, by rw [hst]; exact List.Sublist.cons _ (List.Sublist.refl _)⟩
  · obtain rfl : k = l.length := by omega
    rw [List.take_length]
    generalize ofL l = L0 at *
    repeat' (first
    | refine g55_ ?_ | (refine aw_if ?_ ?_ <;> intro hb <;> try exact no_) | (refine sx_ ?_ <;> intro bb) | (refine su_ ?_ <;> intro u hu1 hu2) | fail)
    all_goals first | exact e1_ | skip
    exact ⟨_, [gsO u L0], rl_, sl_, u, rfl, rfl⟩
theorem f_beOf (w h : Int) (l : List Cell) (x y : Int) (b : Bool) : AP Tryz.prog T0 62 [termA w h l x y b] (tupA [blA (ofB (w, h, l, x, y, b)).1, I (ofB (w, h, l, x, y, b)).2]) := by
  unfold ofB
  cases h1 : okTm (w, h, l, x, y, b) with
  | true =>
    rw [if_pos rfl]
    exact (f_beOfO w h l x y b h1).frz1 fza_
  | false =>
    rw [if_neg (by decide)]
    have c1 : AP Tryz.prog T0 46 [termA w h l x y b] (B false) := (f_termIs w h l x y b).to (by rw [show okT w h l x y b = false from h1])
    have c2 : True := trivial
    refine af_intro Tryz.func62 rfl (by decide) Tryz.ntmps62 rfl ?_
    repeat' (first
    | refine g55_ ?_ | (refine aw_if ?_ ?_ <;> intro hb <;> try exact no_) | (refine sx_ ?_ <;> intro bb) | (refine su_ ?_ <;> intro u hu1 hu2) | fail)
    all_goals first | (exfalso; simp at hb; done) | exact ⟨_, [], rl_, List.nil_sublist _, sub_noB, rfl⟩ | skip
theorem f_beAgrees (w h : Int) (l : List Guess) (x y : Int) (b s : Bool) (tw th : Int) (tl : List Cell) (tx ty : Int) (tb : Bool) : AP Tryz.prog T0 17 [belA w h l x y b s, termA tw th tl tx ty tb] (B (agrB (w, h, l, x, y, b, s) (tw, th, tl, tx, ty, tb))) := by
  have c1 := f_beIs (T0 := T0) w h l x y b s
  have c2 := f_termIs (T0 := T0) tw th tl tx ty tb
  by_cases h0 : okBe w h l x y b s = true ∧ okT tw th tl tx ty tb = true ∧ w = tw ∧ h = th
  · obtain ⟨h1, h2, rfl, rfl⟩ := h0
    have iff_ := agrB_of h1 h2
    rw [h1] at c1
    rw [h2] at c2
    obtain ⟨hl, hl2, hw⟩ := okBe_len2 h1
    have htl := (okG_len (okT_iff.1 h2).1).1
    generalize agrB (w, h, l, x, y, b, s) (w, h, tl, tx, ty, tb) = ag at *
    refine af_intro Tryz.func17 rfl (by decide) Tryz.ntmps17 rfl ?_
    repeat' (first
    | refine g54_ ?_ | (refine aw_if ?_ ?_ <;> intro hb <;> try exact no_) | (refine sx_ ?_ <;> intro bb) | (refine su_ ?_ <;> intro u hu1 hu2) | fail)
    all_goals first | exact e2_ | skip
    refine aw_lf (fun k : Nat => [(34, I k)]) (fun k => k ≤ l.length ∧ ∀ j, j < k → (gAt l j).2 = true → (gAt l j).1 = cAt tl j) (fun k => l.length - k) 0 ⟨Nat.zero_le _, fun _ k => absurd k (Nat.not_lt_zero _)⟩ ?_
    rintro k ⟨k1, k2⟩
    by_cases hlt : k < l.length
    · have hat := g_in hlt
      have hat2 := c_in (l := tl) (i := k) (by omega)
      have nxt : ((gAt l k).2 = true → (gAt l k).1 = cAt tl k) → ∀ j, j < k + 1 → (gAt l j).2 = true → (gAt l j).1 = cAt tl j := fun z j hj => by
        by_cases e : j = k
        · subst e; exact z
        · exact k2 j (by omega)
      have bad : (gAt l k).2 = true → (gAt l k).1 ≠ cAt tl k → ag = false := fun z1 z2 => by
        cases e : ag with
        | false => rfl
        | true => exact absurd ((iff_.1 e).1 k hlt z1) z2
      generalize gAt l k = g at *
      change tl[k]? = some (cAt tl k) at hat2
      generalize cAt tl k = tc at *
      obtain ⟨⟨g1, g2⟩, gs⟩ := g
      obtain ⟨t1, t2⟩ := tc
      cases gs with
      | true =>
        repeat' (first
        | refine g54_ ?_ | (refine aw_if ?_ ?_ <;> intro hb <;> try exact no_) | (refine sx_ ?_ <;> intro bb) | (refine su_ ?_ <;> intro u hu1 hu2) | fail)
        all_goals first | exact e1_ | skip
        · exact ⟨_, [], rl_, List.nil_sublist _, Sub.eq (congrArg B (bad rfl (by simpa using hb)).symm), rfl⟩
        · exact ⟨k + 1, ⟨by omega, nxt fun _ => (by simpa using hb)⟩, by omega, wx_, sl_⟩
      | false =>
        repeat' (first
        | refine g54_ ?_ | (refine aw_if ?_ ?_ <;> intro hb <;> try exact no_) | (refine sx_ ?_ <;> intro bb) | (refine su_ ?_ <;> intro u hu1 hu2) | fail)
        all_goals first | (exfalso; omega) | (exfalso; simp at hb; done) | skip
        · exact ⟨k + 1, ⟨by omega, nxt fun z => by cases z⟩, by omega, wx_, sl_⟩
    · have hall : Agr l tl := fun j hj => k2 j (by omega)
      repeat' (first
      | refine g54_ ?_ | (refine aw_if ?_ ?_ <;> intro hb <;> try exact no_) | (refine sx_ ?_ <;> intro bb) | (refine su_ ?_ <;> intro u hu1 hu2) | fail)
      all_goals first | exact e1_ | skip
      refine ⟨_, [], rl_, List.nil_sublist _, Sub.eq (congrArg B ?_), rfl⟩
      rw [Bool.eq_iff_iff, iff_]
      cases s <;> simp [hall, and_assoc]
  · rw [agrB_no (fun z => h0 z)]
    generalize okBe w h l x y b s = v1 at *
    generalize okT tw th tl tx ty tb = v2 at *
    refine af_intro Tryz.func17 rfl (by decide) Tryz.ntmps17 rfl ?_
    repeat' (first
    | refine g54_ ?_ | (refine aw_if ?_ ?_ <;> intro hb <;> try exact no_) | (refine sx_ ?_ <;> intro bb) | (refine su_ ?_ <;> intro u hu1 hu2) | fail)
    all_goals first | exact ⟨_, [], rl_, List.nil_sublist _, Sub.refl _, rfl⟩ | (exfalso; exact h0 ⟨hb.1.1.1, hb.1.1.2, hb.1.2, hb.2⟩) | skip
end Go.Proofs.YtgfmjmfphmjdkaaGreatDoor
