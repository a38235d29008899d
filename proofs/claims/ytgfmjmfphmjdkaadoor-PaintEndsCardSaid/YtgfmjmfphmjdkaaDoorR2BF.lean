/- Layer 27 (belief): what is forgotten, the belief of a terminal, does it agree, by the program. No condition. -/
import Derived.Test.YtgfmjmfphmjdkaaDoorR2BD
import Derived.Test.YtgfmjmfphmjdkaaDoorR2B1
import Derived.Test.YtgfmjmfphmjdkaaDoorR2AQ
namespace Go.Proofs.YtgfmjmfphmjdkaaDoor
set_option linter.unusedSimpArgs false
set_option linter.unusedVariables false
set_option linter.unusedSectionVars false
set_option maxHeartbeats 4000000
open Go Go.RowKit
set_option maxRecDepth 100000
theorem ofL_take {l : List Cell} {k : Nat} {c : Cell} (h : l[k]? = some c) : ofL (l.take (k + 1)) = ofL (l.take k) ++ [(c, true)] := by
  unfold ofL; rw [List.take_add_one, h, List.map_append]; rfl
variable {T0 : Gh} [TabS T0]
attribute [local irreducible] thenA inBlockA AW AL AO QY varO rowO rsA Opd OpdN vA gvA tupA aggA slA slcA ipA rpA EqK LnK IxK LdK FaK FdK
theorem f_beOfO (w h : Int) (l : List Cell) (x y : Int) (b : Bool) (h1 : okT w h l x y b = true) : AF Tryd.prog T0 20 [termA w h l x y b] [] (fun A M' => ∃ u, A = tupA [aggA [I w, I h, vA u, I x, I y, B b, B true], I 0] ∧ M' = [gsO u (ofL l)]) := by
  have hl := (okG_len (okT_iff.1 h1).1).2.1
  have c1 : AP Tryd.prog T0 30 [termA w h l x y b] (B true) := (f_termIs w h l x y b).to (by rw [h1])
  have c2 : True := trivial
  refine af_intro Tryd.func20 rfl (by decide) Tryd.ntmps20 rfl ?_
  repeat' (first
  | (apply aw_regionT 5; (case hD => decide +kernel); (case hB => decide +kernel); (case hg => decide +kernel); (case hm => kernel_rfl); (case hs => rfl)) | refine g39_ ?_ | (apply aw_region1q (by rfl) (by kernel_rfl) (by kernel_rfl)) | refine g38_ ?_ | (refine aw_if ?_ ?_ <;> intro hb <;> try exact no_) | (refine sx_ ?_ <;> intro bb) | (refine su_ ?_ <;> intro u hu1 hu2) | fail)
  all_goals first | (exfalso; simp at hb; done) | skip
  rename_i b1 b2
  refine aw_nil guT 44 ?_
  refine aw_fl2 (fun (k : Nat) (u : Value) => [(1, vA (.pointer (some ⟨b1, 0, none⟩))), (2, vA (.pointer (some ⟨b2, 0, none⟩))), (4, vA (.pointer (some ⟨bb, 0, none⟩))), (26, slA cellT l), (27, I l.length), (28, I k)]) (fun k u => [gsO u (ofL (l.take k)), varO bb 24 [I w, I h, vA u, I x, I y, B b, B true], varO b2 24 [I 0, I 0, vA (.slice none 0 0), I 0, I 0, B false, B false], varO b1 29 [I w, I h, slA cellT l, I x, I y, B b]]) (fun k _ => k ≤ l.length) (fun k _ => l.length - k) 0 _ (Nat.zero_le _) wk_ (List.Sublist.refl _) ?_
  rintro k u k1
  refine aw_rowc (List.Mem.head _) fun hu1 hu2 => ?_
  have hlen : (ofL (l.take k)).length = k := by rw [ofL_len, List.length_take]; omega
  by_cases hlt : k < l.length
  · obtain ⟨⟨p1, p2⟩, hat⟩ : ∃ z, l[k]? = some z := ⟨_, List.getElem?_eq_getElem hlt⟩
    have hst := ofL_take hat
    generalize ofL (l.take k) = L0 at *
    repeat' (first
    | (apply aw_regionT 5; (case hD => decide +kernel); (case hB => decide +kernel); (case hg => decide +kernel); (case hm => kernel_rfl); (case hs => rfl)) | refine g39_ ?_ | (apply aw_region1q (by rfl) (by kernel_rfl) (by kernel_rfl)) | refine g38_ ?_ | (refine aw_if ?_ ?_ <;> intro hb <;> try exact no_) | (refine sx_ ?_ <;> intro bb) | (refine su_ ?_ <;> intro u hu1 hu2) | fail)
    all_goals first | exact e1_ | skip
    exact ⟨k + 1, _, by omega, by omega, wk_, by rw [hst]; exact List.Sublist.cons _ (List.Sublist.refl _)⟩
  · obtain rfl : k = l.length := by omega
    rw [List.take_length]
    generalize ofL l = L0 at *
    repeat' (first
    | refine g38_ ?_ | (refine aw_if ?_ ?_ <;> intro hb <;> try exact no_) | (refine sx_ ?_ <;> intro bb) | (refine su_ ?_ <;> intro u hu1 hu2) | fail)
    all_goals first | exact e1_ | skip
    exact ⟨_, [gsO u L0], rl_, sl_, u, rfl, rfl⟩
theorem f_beOf (w h : Int) (l : List Cell) (x y : Int) (b : Bool) : AP Tryd.prog T0 20 [termA w h l x y b] (tupA [blA (ofB (w, h, l, x, y, b)).1, I (ofB (w, h, l, x, y, b)).2]) := by
  unfold ofB
  cases h1 : okTm (w, h, l, x, y, b) with
  | true =>
    rw [if_pos rfl]
    exact (f_beOfO w h l x y b h1).frz1 fza_
  | false =>
    rw [if_neg (by decide)]
    have c1 : AP Tryd.prog T0 30 [termA w h l x y b] (B false) := (f_termIs w h l x y b).to (by rw [show okT w h l x y b = false from h1])
    have c2 : True := trivial
    refine af_intro Tryd.func20 rfl (by decide) Tryd.ntmps20 rfl ?_
    repeat' (first
    | refine g38_ ?_ | (refine aw_if ?_ ?_ <;> intro hb <;> try exact no_) | (refine sx_ ?_ <;> intro bb) | (refine su_ ?_ <;> intro u hu1 hu2) | fail)
    all_goals first | (exfalso; simp at hb; done) | exact ⟨_, [], rl_, List.nil_sublist _, sub_noB, rfl⟩ | skip
end Go.Proofs.YtgfmjmfphmjdkaaDoor
