/- Layer 27 (belief): what is forgotten, the belief of a terminal, does it agree, by the program. No condition. -/
import Derived.Test.YtgfmjmfphmjdkaaGreatDoorR1BD
import Derived.Test.YtgfmjmfphmjdkaaGreatDoorR1B1
import Derived.Test.YtgfmjmfphmjdkaaGreatDoorR1AJ
set_option linter.unusedSimpArgs false
set_option linter.unusedVariables false
set_option linter.unusedSectionVars false
namespace Go.Proofs.YtgfmjmfphmjdkaaGreatDoor
set_option maxHeartbeats 4000000
open Go Go.RowKit
set_option maxRecDepth 100000
theorem zgp {w h : Int} {l : List zi} {x y : Int} {b s : Bool} (h1 : vr w h l x y b s = true) : (l.length : Int) = w * h ∧ l.length ≤ 1920 ∧ (2 ≤ w ∧ w ≤ 80 ∧ 1 ≤ h ∧ h ≤ 24):=by
 obtain ⟨w',h',rfl,rfl,w2,w3,w4,w5,hl,hk,p1,p2⟩:=qn.1 h1
 have:=vb w3 w5
 exact ⟨by rw [hl]; exact Int.natCast_mul w' h',by omega,by omega⟩
variable {T0 : Gh} [TabS T0]
attribute [local irreducible] z_ zg AW AL AO QY qd zx rsA Opd xi vA gvA zt z0 slA jc ipA rpA EqK LnK IxK LdK FaK FdK
theorem zoz (w h : Int) (l : List zi) (x y : Int) (b s : Bool) (f t : Nat) (cur : Bool) (h1 : vr w h l x y b s = true) (h2 : f ≤ t) (h3 : t ≤ l.length) : AF Tryz.prog T0 98 [jb w h l x y b s,I f,I t,B cur] [] (fun A M' => ∃ u,A = z0 [I w,I h,vA u,I (if cur then 0 else x),I (if cur then 0 else y),B (if cur then false else b),B (if cur then false else s)] ∧ M' = [gsO u (zd7 l f t)]):=by
 obtain ⟨hl,hl2,hw⟩:=zgp h1
 have c1 : AP Tryz.prog T0 63 [jb w h l x y b s] (B true):=(wu w h l x y b s).to (by rw [h1])
 have c2 : True:=trivial
 have co:=zea (T0:=T0) w h l x y b s (by omega)
 rcases Nat.lt_or_eq_of_le h2 with hlt | heq
 ·have heq : True:=trivial
  unfold zd7
  cases cur with
  |true =>
   refine za Tryz.func98 rfl (by decide) Tryz.ntmps98 rfl ?_
   repeat' (first
   |(apply zj rfl rfl rfl rfl (c:=co)
     case ha=>exact os_
     rintro _ _ ⟨u,rfl,rfl⟩; refine zu (List.Mem.head _) fun hu1 hu2 => ?_)
   |refine zuj ?_ | refine zlf ?_ | refine z8m ?_ | (refine zb ?_ ?_ <;> intro hb <;> try exact no_) | (refine sx_ ?_ <;> intro bb) | (refine su_ ?_ <;> intro u hu1 hu2) | fail)
   all_goals first | exact e7_ | skip
  |false =>
   refine za Tryz.func98 rfl (by decide) Tryz.ntmps98 rfl ?_
   repeat' (first
   |(apply zj rfl rfl rfl rfl (c:=co)
     case ha=>exact os_
     rintro _ _ ⟨u,rfl,rfl⟩; refine zu (List.Mem.head _) fun hu1 hu2 => ?_)
   |refine zuj ?_ | refine zlf ?_ | refine z8m ?_ | (refine zb ?_ ?_ <;> intro hb <;> try exact no_) | (refine sx_ ?_ <;> intro bb) | (refine su_ ?_ <;> intro u hu1 hu2) | fail)
   all_goals first | exact e7_ | skip
 ·have e : zd7 l f t = l:=by unfold zd7; rw [heq,Nat.sub_self]; simp [ovr]
  rw [e]
  cases cur with
  |true =>
   refine za Tryz.func98 rfl (by decide) Tryz.ntmps98 rfl ?_
   repeat' (first
   |(apply zj rfl rfl rfl rfl (c:=co)
     case ha=>exact os_
     rintro _ _ ⟨u,rfl,rfl⟩; refine zu (List.Mem.head _) fun hu1 hu2 => ?_)
   |refine zuj ?_ | refine zlf ?_ | refine z8m ?_ | (refine zb ?_ ?_ <;> intro hb <;> try exact no_) | (refine sx_ ?_ <;> intro bb) | (refine su_ ?_ <;> intro u hu1 hu2) | fail)
   all_goals first | exact e7_ | skip
  |false =>
   refine za Tryz.func98 rfl (by decide) Tryz.ntmps98 rfl ?_
   repeat' (first
   |(apply zj rfl rfl rfl rfl (c:=co)
     case ha=>exact os_
     rintro _ _ ⟨u,rfl,rfl⟩; refine zu (List.Mem.head _) fun hu1 hu2 => ?_)
   |refine zuj ?_ | refine zlf ?_ | refine z8m ?_ | (refine zb ?_ ?_ <;> intro hb <;> try exact no_) | (refine sx_ ?_ <;> intro bb) | (refine su_ ?_ <;> intro u hu1 hu2) | fail)
   all_goals first | exact e7_ | skip
theorem ztl (w h : Int) (l : List zi) (x y : Int) (b s : Bool) (f t : Int) (cur : Bool) : AP Tryz.prog T0 98 [jb w h l x y b s,I f,I t,B cur] (blA (qt (w,h,l,x,y,b,s) f t cur)):=by
 by_cases q : vr w h l x y b s = true ∧ 0 ≤ f ∧ f ≤ t ∧ t ≤ l.length
 ·obtain ⟨q0,q1,q2,q3⟩:=q
  obtain ⟨f,rfl⟩:=Int.eq_ofNat_of_zero_le q1
  obtain ⟨t,rfl⟩:=Int.eq_ofNat_of_zero_le (show 0 ≤ t by omega)
  have key:=(zoz (T0:=T0) w h l x y b s f t cur q0 (by omega) (by omega)).frz1 ze8
  have e : qt (w,h,l,x,y,b,s) f t cur = (w,h,zd7 l f t,if cur then 0 else x,if cur then 0 else y,if cur then false else b,if cur then false else s):=by
   unfold qt
   rw [if_neg (fun z=>z ⟨q0,q1,q2,q3⟩)]
   cases cur <;> rfl
  rw [e]; exact key
 ·have e : qt (w,h,l,x,y,b,s) f t cur = (w,h,l,x,y,b,s):=by unfold qt; rw [if_pos q]
  rw [e]
  have c1:=wu (T0:=T0) w h l x y b s
  have c2 : True:=trivial
  have co : True:=trivial
  have heq : True:=trivial
  generalize vr w h l x y b s = v at *
  refine za Tryz.func98 rfl (by decide) Tryz.ntmps98 rfl ?_
  repeat' (first
  |(apply zj rfl rfl rfl rfl (c:=co)
    case ha=>exact os_
    rintro _ _ ⟨u,rfl,rfl⟩; refine zu (List.Mem.head _) fun hu1 hu2 => ?_)
  |refine zuj ?_ | refine zlf ?_ | refine z8m ?_ | (refine zb ?_ ?_ <;> intro hb <;> try exact no_) | (refine sx_ ?_ <;> intro bb) | (refine su_ ?_ <;> intro u hu1 hu2) | fail)
  all_goals first | exact ⟨_,[],rl_,List.nil_sublist _,Sub.refl _,rfl⟩ | (exfalso; exact q ⟨hb.1.1.1,by omega,by omega,by omega⟩) | skip
end Go.Proofs.YtgfmjmfphmjdkaaGreatDoor
