/- Loops, told by what they change alone. No condition. -/
import Derived.Test.YtplabpjkkcillaaDoorAZ
namespace Go.Proofs.YtplabpjkkcillaaDoor
set_option linter.unusedSimpArgs false
set_option linter.unusedVariables false
set_option linter.unusedSectionVars false
set_option maxHeartbeats 4000000
open Go Go.RowKit
def memB (s : Nat) : List Nat → Bool
  | [] => false
  | x :: l => Nat.beq s x || memB s l
def slots : Fr → List Nat
  | [] => []
  | (s, _) :: r => s :: slots r
def apartB (d fr0 : List Nat) : List Nat → Bool
  | [] => true
  | s :: l => (memB s d || !memB s fr0) && apartB d fr0 l
theorem get_slots : ∀ (fr : Fr) (s : Nat), memB s (slots fr) = false → fr.get s = none
  | [], _, _ => rfl
  | (x, A) :: r, s, h => by
    simp only [slots, memB, Bool.or_eq_false_iff] at h
    simp only [Fr.get, h.1, cond_false]; exact get_slots r s h.2
theorem get_app_l : ∀ (d fr : Fr) (s : Nat), memB s (slots d) = true → Fr.get (d ++ fr) s = d.get s
  | [], _, _, h => by simp [slots, memB] at h
  | (x, A) :: r, fr, s, h => by
    simp only [slots, memB, Bool.or_eq_true] at h
    simp only [List.cons_append, Fr.get]
    cases hb : Nat.beq s x with
    | true => rfl
    | false => rw [hb] at h; simp only [cond_false]; exact get_app_l r fr s (by simpa using h)
theorem get_app_r : ∀ (d fr : Fr) (s : Nat), memB s (slots d) = false → Fr.get (d ++ fr) s = fr.get s
  | [], _, _, _ => rfl
  | (x, A) :: r, fr, s, h => by
    simp only [slots, memB, Bool.or_eq_false_iff] at h
    simp only [List.cons_append, Fr.get, h.1, cond_false]; exact get_app_r r fr s h.2
theorem apart_of : ∀ (d fr0 l : List Nat) (s : Nat), apartB d fr0 l = true → memB s l = true → memB s d = false → memB s fr0 = false
  | _, _, [], _, _, h, _ => by simp [memB] at h
  | d, fr0, x :: l, s, h, hm, hd => by
    simp only [apartB, Bool.and_eq_true] at h
    simp only [memB, Bool.or_eq_true] at hm
    rcases hm with hm | hm
    · have : s = x := Nat.eq_of_beq_eq_true hm
      subst this
      have := h.1
      rw [hd] at this; simpa using this
    · exact apart_of d fr0 l s h.2 hm hd
/-- a frame that grew from another one by these slots -/
inductive ExtF (base : Fr) : Fr → List Nat → Prop
  | nil : ExtF base base []
  | cons {s : Nat} {A : AV} {fr : Fr} {l : List Nat} (h : ExtF base fr l) : ExtF base ((s, A) :: fr) (s :: l)
theorem ExtF.get {base fr : Fr} {l : List Nat} (h : ExtF base fr l) {s : Nat} (hs : memB s l = false) : fr.get s = base.get s := by
  induction h with
  | nil => rfl
  | cons h ih =>
    simp only [memB, Bool.or_eq_false_iff] at hs
    simp only [Fr.get, hs.1, cond_false]; exact ih hs.2
theorem ext_ {base fr : Fr} {l : List Nat} (h : ExtF base fr l := by
  first
  | (repeat (first | exact ExtF.nil | apply ExtF.cons)
     done)
  | fail) : ExtF base fr l := h
theorem weak_ext {fr0 d d' fr' : Fr} {l : List Nat} (h : ExtF (d ++ fr0) fr' l) (hk : Weak fr' d') (hc : (apartB (slots d') (slots fr0) l && apartB (slots d') (slots fr0) (slots d)) = true) : Weak fr' (d' ++ fr0) := fun G t hr x B _ e => by
  simp only [Bool.and_eq_true] at hc
  cases hm : memB x (slots d') with
  | true => rw [get_app_l d' fr0 x hm] at e; exact hk G t hr x B trivial e
  | false =>
    rw [get_app_r d' fr0 x hm] at e
    have h0 : ¬ memB x (slots fr0) = false := fun k => by rw [get_slots fr0 x k] at e; cases e
    have h1 : memB x l = false := by
      cases k : memB x l with
      | false => rfl
      | true => exact absurd (apart_of _ _ _ x hc.1 k hm) h0
    have h2 : memB x (slots d) = false := by
      cases k : memB x (slots d) with
      | false => rfl
      | true => exact absurd (apart_of _ _ _ x hc.2 k hm) h0
    exact hr x B trivial (by rw [h.get h1, get_app_r d fr0 x h2]; exact e)
/-- the frame at a round's end -/
theorem wx_ {fr0 d d' fr' : Fr} {l : List Nat} (h : ExtF (d ++ fr0) fr' l := by first | exact ext_ | fail) (hk : Weak fr' d' := by first | exact wk_ | fail) (hc : (apartB (slots d') (slots fr0) l && apartB (slots d') (slots fr0) (slots d)) = true := by rfl) : Weak fr' (d' ++ fr0) := weak_ext h hk hc
theorem weak_in {fr d : Fr} (h : Weak fr d) : Weak fr (d ++ fr) := fun G t hr x B _ e => by
  cases hm : memB x (slots d) with
  | true => rw [get_app_l d fr x hm] at e; exact h G t hr x B trivial e
  | false => rw [get_app_r d fr x hm] at e; exact hr x B trivial e
theorem set_same {M : List Own} {i : Nat} {m : Own} (h1 : M[i]? = some m) : M.set i m = M := by
  refine List.ext_getElem? fun j => ?_
  rw [List.getElem?_set]
  split
  · rename_i hij; subst hij
    split
    · exact h1.symm
    · rename_i hnl; exact absurd (List.getElem?_eq_some_iff.1 h1).1 hnl
  · rfl
section
variable {P : Program} {T0 : Gh} {N : Fz} {Q : Post} {fr : Fr} {M : List Own} {c : Code} {σ : Type}
/-- what is owned does not turn -/
theorem aw_lf (d : σ → Fr) (inv : σ → Prop) (μ : σ → Nat) (s0 : σ) (h0 : inv s0)
    (round : ∀ s, inv s → AW P T0 N c (thenA (fun fr' M' => ∃ s', inv s' ∧ μ s' < μ s ∧ Weak fr' (d s' ++ fr) ∧ List.Sublist M M') Q) (d s ++ fr) M) (hf0 : Weak fr (d s0) := by first | exact wk_ | fail) : AW P T0 N (.loop c) Q fr M :=
  aw_fl (fun s => d s ++ fr) (fun _ => M) inv μ s0 h0 (weak_in hf0) (List.Sublist.refl _) round
/-- a row that is owned turns -/
theorem aw_lr {α : Type} {T : Ty α} {e : TypeId} {u : Value} {l0 : List α} {f : Own → List Own} (d : σ → Fr) (g : σ → List α) (inv : σ → Prop) (μ : σ → Nat) (s0 : σ) (h0 : inv s0) (hl : l0 = g s0)
    (round : ∀ s, inv s → AW P T0 N c (thenA (fun fr' M' => ∃ s', inv s' ∧ μ s' < μ s ∧ Weak fr' (d s' ++ fr) ∧ List.Sublist (f (rowO T e u (g s'))) M') Q) (d s ++ fr) (f (rowO T e u (g s)))) (hU : UpdF (rowO T e u l0) M f := by first | exact upf_ | fail) (hf0 : Weak fr (d s0) := by first | exact wk_ | fail) : AW P T0 N (.loop c) Q fr M := by
  obtain ⟨i, h1, h2⟩ := hU.spec
  subst hl
  refine aw_fl (fun s => d s ++ fr) (fun s => f (rowO T e u (g s))) inv μ s0 h0 (weak_in hf0) ?_ round
  rw [h2, set_same h1]; exact List.Sublist.refl _
/-- a row that is appended to -/
theorem aw_la {α : Type} {T : Ty α} {e : TypeId} {u0 : Value} {l0 : List α} {f : Own → List Own} (x : Nat) (d : σ → Fr) (g : σ → List α) (inv : σ → Prop) (μ : σ → Nat) (s0 : σ) (h0 : inv s0) (hl : l0 = g s0)
    (round : ∀ s u, inv s → u.cells = #[u] → u.oneCell' = true → AW P T0 N c (thenA (fun fr' M' => ∃ s' u', inv s' ∧ μ s' < μ s ∧ Weak fr' (((x, vA u') :: d s') ++ fr) ∧ List.Sublist (f (rowO T e u' (g s'))) M') Q) (((x, vA u) :: d s) ++ fr) (f (rowO T e u (g s)))) (hU : UpdF (rowO T e u0 l0) M f := by first | exact upf_ | fail) (hf0 : Weak fr ((x, vA u0) :: d s0) := by first | exact wk_ | fail) : AW P T0 N (.loop c) Q fr M := by
  obtain ⟨i, h1, h2⟩ := hU.spec
  subst hl
  have hlt := (List.getElem?_eq_some_iff.1 h1).1
  refine aw_fl2 (fun s u => ((x, vA u) :: d s) ++ fr) (fun s u => f (rowO T e u (g s))) (fun s _ => inv s) (fun s _ => μ s) s0 u0 h0 (weak_in hf0) ?_ ?_
  · rw [h2, set_same h1]; exact List.Sublist.refl _
  · intro s u hi
    refine aw_rowc (T := T) (e := e) (u := u) (l := g s) ?_ fun a b => round s u hi a b
    rw [h2]
    exact List.mem_of_getElem? (i := i) (by rw [List.getElem?_set]; simp [hlt])
end
end Go.Proofs.YtplabpjkkcillaaDoor
