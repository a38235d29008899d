/- Layer 3 (grid): cells are laid into a grid: put, blank, scroll. No condition. -/
import Derived.Test.YthlikicgikoilaaDoorG3
namespace Go.Proofs.YthlikicgikoilaaDoor
set_option linter.unusedSimpArgs false
set_option linter.unusedVariables false
set_option maxHeartbeats 4000000
open Go Go.RowKit
attribute [local irreducible] AW AL AO QY varO rowO rsA Opd OpdN vA gvA tupA aggA slA slcA ipA rpA EqK LnK IxK LdK FaK FdK
set_option maxRecDepth 100000
/-- what 'lay' makes of a list -/
def layG (l : List Cell) (at_ : Nat) (cs : List Cell) : List Cell :=
  if cs = [] then l else
    let l1 := if (cAt l at_).2 = 2 then l.set (at_ - 1) (32, 0) else l
    let l2 := if (cAt l1 (at_ + cs.length - 1)).2 = 1 then l1.set (at_ + cs.length) (32, 0) else l1
    ovr l2 at_ cs
theorem layG_len {l : List Cell} {a : Nat} {cs : List Cell} (h : a + cs.length ≤ l.length) : (layG l a cs).length = l.length := by
  unfold layG
  split
  · rfl
  · simp only
    have e : ∀ (c : Prop) [Decidable c] (m : List Cell) (j : Nat), (if c then m.set j (32, 0) else m).length = m.length := fun c _ m j => by split <;> simp
    rw [ovr_len (by rw [e, e]; exact h), e, e]
theorem f_lay (u : Value) (l : List Cell) (a : Nat) (cs : List Cell) (hl : l.length ≤ 100000) (h : a + cs.length ≤ l.length)
    (hA : cs ≠ [] → (cAt l a).2 = 2 → 1 ≤ a) (hB : cs ≠ [] → (cAt l (a + cs.length - 1)).2 = 1 → a + cs.length < l.length) :
    AF Tryd.prog tab0 38 [vA u, I a, slA cellT cs] [rowO cellT 30 u l] (fun _ M' => M' = [rowO cellT 30 u (layG l a cs)]) := by
  by_cases hcs : cs = []
  · have h0 : cs.length = 0 := by rw [hcs]; rfl
    refine af_intro Tryd.func38 rfl (by decide) Tryd.ntmps38 rfl ?_
    repeat' (first
    | fail
    | refine s_y ?_
      | refine c_ ?_
      | (refine aw_if ?_ ?_ <;> intro hb <;> try (exfalso; first | assumption | omega))
      | refine s_call ?_ (c := by first | exact f_blank | fail)
      | refine s_op ?_ (hy := by first | fail | fail)
      | refine s_yg ?_
      | refine s_callg ?_ (c := by intro hk hk2; first | exact f_blank | fail)
      | refine s_opg ?_ (hy := by intro hk hk2; first | fail | fail)
      | refine s_skip ?_
      | ((first | refine w_alloc ?_ | refine w_box ?_) <;> intro bb)
      | ((first | refine w_emp ?_ | refine w_make ?_ | refine w_app ?_) <;> intro u hu1 hu2)
      | refine w_stv ?_ | refine w_str ?_ | refine w_cpr ?_ | refine w_cps ?_
      | refine al_last (by kernel_rfl) ?_
    | fail)
    exact ⟨_, _, rs_, List.Sublist.refl _, by rw [layG, if_pos hcs]⟩
  · have hpos : 0 < cs.length := List.length_pos_iff.2 hcs
    have hat := c_in (l := l) (i := a) (by omega)
    have hA1 := hA hcs
    have hB1 := hB hcs
    have hB2 : 1 ≤ a → (cAt (l.set (a - 1) (32, 0)) (a + cs.length - 1)).2 = 1 → a + cs.length < l.length := fun h1 => by
      rw [cAt_set _ _ _ _ (by omega), if_neg (by omega)]; exact hB1
    have htk : cs.take (a + cs.length - a) = cs := List.take_of_length_le (by omega)
    refine af_intro Tryd.func38 rfl (by decide) Tryd.ntmps38 rfl ?_
    repeat' (first
    | fail
    | refine s_y ?_
      | refine c_ ?_
      | (refine aw_if ?_ ?_ <;> intro hb <;> try (exfalso; first | assumption | omega))
      | refine s_call ?_ (c := by first | exact f_blank | fail)
      | refine s_op ?_ (hy := by first | fail | fail)
      | refine s_yg ?_
      | refine s_callg ?_ (c := by intro hk hk2; first | exact f_blank | fail)
      | refine s_opg ?_ (hy := by intro hk hk2; first | fail | fail)
      | refine s_skip ?_
      | ((first | refine w_alloc ?_ | refine w_box ?_) <;> intro bb)
      | ((first | refine w_emp ?_ | refine w_make ?_ | refine w_app ?_) <;> intro u hu1 hu2)
      | refine w_stv ?_ | refine w_str ?_ | refine w_cpr ?_ | refine w_cps ?_
      | refine al_last (by kernel_rfl) ?_
    | fail)
    all_goals refine ⟨_, _, rs_, List.Sublist.refl _, ?_⟩
    all_goals rw [htk, layG, if_neg hcs]
    · rename_i e1; simp only [if_pos e1, if_pos hb]
    · rename_i e1; simp only [if_pos e1, if_neg hb]
    · rename_i e1; simp only [if_neg e1, if_pos hb]
    · rename_i e1; simp only [if_neg e1, if_neg hb]
theorem f_fillF (w h : Nat) (hb : w * h ≤ 100000) : AP Tryd.prog tab0 29 [I w, I h] (gridA w h (List.replicate (w * h) (32, 0))) := (f_fill w h hb).frz1 fza_
theorem last_mod {w h j : Nat} (hw : 1 ≤ w) (h1 : 1 ≤ h) (e : j + 1 = w * h) : j % w = w - 1 := by
  obtain ⟨k, rfl⟩ : ∃ k, h = k + 1 := ⟨h - 1, by omega⟩
  have : j = (w - 1) + w * k := by rw [Nat.mul_add, Nat.mul_one] at e; omega
  rw [this, Nat.add_mul_mod_self_left, Nat.mod_eq_of_lt (by omega)]
theorem ok_left {w : Nat} {l : List Cell} {i : Nat} (hk : lostM w l i = false) (h2 : (cAt l i).2 = 2) : 1 ≤ i := by
  have := ((lost_false.1 hk).2 h2).1
  rcases Nat.eq_zero_or_pos i with h | h
  · subst h; simp at this
  · exact h
theorem ok_right {w h : Nat} {l : List Cell} {i : Nat} (hw : 1 ≤ w) (h1 : 1 ≤ h) (hl : l.length = w * h) (hi : i < l.length) (hk : lostM w l i = false) (h2 : (cAt l i).2 = 1) : i + 1 < l.length := by
  have h3 := ((lost_false.1 hk).1 h2).1
  rcases Nat.lt_or_ge (i + 1) l.length with h | h
  · exact h
  · exact absurd (last_mod hw h1 (by omega)) h3
theorem f_layOk (w h : Nat) (u : Value) (l : List Cell) (a : Nat) (cs : List Cell) (hl : l.length = w * h) (hb : w * h ≤ 1920) (h1 : 1 ≤ w) (h2 : 1 ≤ h) (hok : ∀ i, i < l.length → isCell (cAt l i) = true ∧ lostM w l i = false) (hac : a + cs.length ≤ l.length) :
    AF Tryd.prog tab0 38 [vA u, I a, slA cellT cs] [rowO cellT 30 u l] (fun _ M' => M' = [rowO cellT 30 u (layG l a cs)]) :=
  f_lay u l a cs (by omega) hac (fun hc => by have := List.length_pos_iff.2 hc; exact ok_left (hok a (by omega)).2) (fun hc hk => by
    have hp := List.length_pos_iff.2 hc
    have := ok_right h1 h2 hl (by omega) (hok (a + cs.length - 1) (by omega)).2 hk
    omega)
end Go.Proofs.YthlikicgikoilaaDoor
