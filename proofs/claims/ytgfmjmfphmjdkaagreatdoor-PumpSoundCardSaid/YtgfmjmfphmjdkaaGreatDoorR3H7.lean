/- Layer 27 (belief): the reference: are two beliefs the same. No condition. -/
import Derived.Test.YtgfmjmfphmjdkaaGreatDoorR3B9
set_option linter.unusedSimpArgs false
set_option linter.unusedVariables false
set_option linter.unusedSectionVars false
namespace Go.Proofs.YtgfmjmfphmjdkaaGreatDoor
set_option maxHeartbeats 4000000
open Go Go.RowKit
set_option maxRecDepth 100000
noncomputable def zm6 (a b : Bel) : Bool:=@decide (a = b) (Classical.propDecidable _)
theorem zga {a b : Bel} : zm6 a b = true ↔ a = b:=@decide_eq_true_iff _ (Classical.propDecidable _)
theorem zqo (a : Bel) : zm6 a a = true:=zga.2 rfl
theorem zyp {a b : Bel} (h : a ≠ b) : zm6 a b = false:=by
 cases e : zm6 a b with
 |true=>exact absurd (zga.1 e) h
 |false=>rfl
variable {T0 : Gh} [TabS T0]
attribute [local irreducible] zz zg AW AL AO QY qh z_ rsA Opd xh vA gvA zy qb slA jl ipA rpA EqK LnK IxK LdK FaK FdK
theorem znq (w h : Int) (l : List zj) (x y : Int) (b s : Bool) (w' h' : Int) (l' : List zj) (x' y' : Int) (b' s' : Bool) (hn : l.length ≤ 100000) : AP Tryz.prog T0 86 [zad w h l x y b s,zad w' h' l' x' y' b' s'] (B (zm6 (w,h,l,x,y,b,s) (w',h',l',x',y',b',s'))):=by
 by_cases h0 : w = w' ∧ h = h' ∧ l.length = l'.length ∧ x = x' ∧ y = y' ∧ b = b' ∧ s = s'
 ·obtain ⟨rfl,rfl,hl,rfl,rfl,rfl,rfl⟩:=h0
  have e : zm6 (w,h,l,x,y,b,s) (w,h,l',x,y,b,s) = decide (l = l'):=by
   rw [Bool.eq_iff_iff,zga,decide_eq_true_eq]; simp
  rw [e]
  refine za Tryz.func86 rfl (by decide) Tryz.ntmps86 rfl ?_
  repeat' (first
  |refine z9e ?_ | (refine zd ?_ ?_ <;> intro hb <;> try exact no_) | (refine sx_ ?_ <;> intro bb) | (refine su_ ?_ <;> intro u hu1 hu2) | fail)
  all_goals first | (exfalso; simp at hb; omega) | skip
  refine zdc (fun k : Nat=>[(5,I k)]) (fun k=>k ≤ l.length ∧ ∀ j,j < k → gAt l j = gAt l' j) (fun k=>l.length - k) 0 ⟨Nat.zero_le _,fun _ k=>absurd k (Nat.not_lt_zero _)⟩ ?_
  rintro k ⟨k1,k2⟩
  by_cases hlt : k < l.length
  ·repeat' (first
   |refine z9e ?_ | (refine zd ?_ ?_ <;> intro hb <;> try exact no_) | (refine sx_ ?_ <;> intro bb) | (refine su_ ?_ <;> intro u hu1 hu2) | fail)
   all_goals first | exact e1_ | skip
   ·refine ⟨_,[],rl_,List.nil_sublist _,Sub.eq (congrArg B ?_),rfl⟩
    rw [eq_comm,decide_eq_false_iff_not]
    rintro rfl
    exact hb rfl
   ·refine ⟨k + 1,⟨by omega,fun j hj => ?_⟩,by omega,wx_,sl_⟩
    by_cases e : j = k
    ·subst e
     first | exact hb | exact Classical.byContradiction fun z=>hb z | exact Classical.not_not.1 hb
    ·exact k2 j (by omega)
  ·have hall : decide (l = l') = true:=decide_eq_true (z3z hl fun j hj=>k2 j (by omega))
   rw [hall]
   repeat' (first
   |refine z9e ?_ | (refine zd ?_ ?_ <;> intro hb <;> try exact no_) | (refine sx_ ?_ <;> intro bb) | (refine su_ ?_ <;> intro u hu1 hu2) | fail)
   all_goals first | exact e1_ | skip
   exact ⟨_,[],rl_,List.nil_sublist _,Sub.refl _,rfl⟩
 ·have e : zm6 (w,h,l,x,y,b,s) (w',h',l',x',y',b',s') = false:=by
   refine zyp fun z => ?_
   simp only [Prod.mk.injEq] at z
   obtain ⟨rfl,rfl,rfl,rfl,rfl,rfl,rfl⟩:=z
   exact h0 ⟨rfl,rfl,rfl,rfl,rfl,rfl,rfl⟩
  rw [e]
  refine za Tryz.func86 rfl (by decide) Tryz.ntmps86 rfl ?_
  repeat' (first
  |refine z9e ?_ | (refine zd ?_ ?_ <;> intro hb <;> try exact no_) | (refine sx_ ?_ <;> intro bb) | (refine su_ ?_ <;> intro u hu1 hu2) | fail)
  all_goals first | exact ⟨_,[],rl_,List.nil_sublist _,Sub.refl _,rfl⟩ | skip
  exfalso
  obtain ⟨⟨⟨⟨⟨⟨q1,q2⟩,q3⟩,q4⟩,q5⟩,q6⟩,q7⟩:=hb
  exact h0 ⟨q1,q2,by omega,q4,q5,by simpa using q6,by simpa using q7⟩
end Go.Proofs.YtgfmjmfphmjdkaaGreatDoor
