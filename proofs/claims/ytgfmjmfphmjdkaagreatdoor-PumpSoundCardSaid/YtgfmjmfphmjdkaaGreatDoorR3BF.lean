/- Layer 27 (belief): what is forgotten, the belief of a terminal, does it agree, by the program. No condition. -/
import Derived.Test.YtgfmjmfphmjdkaaGreatDoorR3BD
import Derived.Test.YtgfmjmfphmjdkaaGreatDoorR3B1
import Derived.Test.YtgfmjmfphmjdkaaGreatDoorR3AJ
set_option linter.unusedSimpArgs false
set_option linter.unusedVariables false
set_option linter.unusedSectionVars false
namespace Go.Proofs.YtgfmjmfphmjdkaaGreatDoor
set_option maxHeartbeats 4000000
open Go Go.RowKit
set_option maxRecDepth 100000
theorem z5k {w h : Int} {l : List zj} {x y : Int} {b s : Bool} {tl : List zp} {tx ty : Int} {tb : Bool} (h1 : yx w h l x y b s = true) (h2 : okT w h tl tx ty tb = true) : zxr (w,h,l,x,y,b,s) (w,h,tl,tx,ty,tb) = true ↔ Agr l tl ∧ (s = true → x = tx ∧ y = ty ∧ b = tb):=by
 unfold zxr
 rw [decide_eq_true_iff]
 exact ⟨fun z=>z.2.2.2.2,fun z=>⟨h1,h2,rfl,rfl,z⟩⟩
theorem z5l {b : Bel} {t : Tm} (h : ¬ (ub b = true ∧ yt t = true ∧ b.1 = t.1 ∧ b.2.1 = t.2.1)) : zxr b t = false:=by
 unfold zxr
 exact decide_eq_false fun z=>h ⟨z.1,z.2.1,z.2.2.1,z.2.2.2.1⟩
theorem zli {w h : Int} {l : List zj} {x y : Int} {b s : Bool} (h1 : yx w h l x y b s = true) : (l.length : Int) = w * h ∧ l.length ≤ 1920 ∧ (2 ≤ w ∧ w ≤ 80 ∧ 1 ≤ h ∧ h ≤ 24):=by
 obtain ⟨w',h',rfl,rfl,w2,w3,w4,w5,hl,hk,p1,p2⟩:=qn.1 h1
 have:=yg w3 w5
 exact ⟨by rw [hl]; exact Int.natCast_mul w' h',by omega,by omega⟩
variable {T0 : Gh} [TabS T0]
attribute [local irreducible] zz zg AW AL AO QY qh z_ rsA Opd xh vA gvA zy qb slA jl ipA rpA EqK LnK IxK LdK FaK FdK
theorem znu (w h : Int) (l : List zj) (x y : Int) (b s : Bool) (f t : Nat) (cur : Bool) (h1 : yx w h l x y b s = true) (h2 : f ≤ t) (h3 : t ≤ l.length) : AF Tryz.prog T0 98 [zad w h l x y b s,I f,I t,B cur] [] (fun A M' => ∃ u,A = qb [I w,I h,vA u,I (if cur then 0 else x),I (if cur then 0 else y),B (if cur then false else b),B (if cur then false else s)] ∧ M' = [gsO u (zj0 l f t)]):=by
 obtain ⟨hl,hl2,hw⟩:=zli h1
 have c1 : AP Tryz.prog T0 63 [zad w h l x y b s] (B true):=(vy w h l x y b s).to (by rw [h1])
 have c2 : True:=trivial
 have co:=zd3 (T0:=T0) w h l x y b s (by omega)
 rcases Nat.lt_or_eq_of_le h2 with hlt | heq
 ·have heq : True:=trivial
  unfold zj0
  cases cur with
  |true =>
   refine za Tryz.func98 rfl (by decide) Tryz.ntmps98 rfl ?_
   repeat' (first
   |(apply zt rfl rfl rfl rfl (c:=co)
     case ha=>exact os_
     rintro _ _ ⟨u,rfl,rfl⟩; refine qq (List.Mem.head _) fun hu1 hu2 => ?_)
   |refine zst ?_ | refine zk6 ?_ | refine z7j ?_ | (refine zd ?_ ?_ <;> intro hb <;> try exact no_) | (refine sx_ ?_ <;> intro bb) | (refine su_ ?_ <;> intro u hu1 hu2) | fail)
   all_goals first | exact e8_ | skip
  |false =>
   refine za Tryz.func98 rfl (by decide) Tryz.ntmps98 rfl ?_
   repeat' (first
   |(apply zt rfl rfl rfl rfl (c:=co)
     case ha=>exact os_
     rintro _ _ ⟨u,rfl,rfl⟩; refine qq (List.Mem.head _) fun hu1 hu2 => ?_)
   |refine zst ?_ | refine zk6 ?_ | refine z7j ?_ | (refine zd ?_ ?_ <;> intro hb <;> try exact no_) | (refine sx_ ?_ <;> intro bb) | (refine su_ ?_ <;> intro u hu1 hu2) | fail)
   all_goals first | exact e8_ | skip
 ·have e : zj0 l f t = l:=by unfold zj0; rw [heq,Nat.sub_self]; simp [ovr]
  rw [e]
  cases cur with
  |true =>
   refine za Tryz.func98 rfl (by decide) Tryz.ntmps98 rfl ?_
   repeat' (first
   |(apply zt rfl rfl rfl rfl (c:=co)
     case ha=>exact os_
     rintro _ _ ⟨u,rfl,rfl⟩; refine qq (List.Mem.head _) fun hu1 hu2 => ?_)
   |refine zst ?_ | refine zk6 ?_ | refine z7j ?_ | (refine zd ?_ ?_ <;> intro hb <;> try exact no_) | (refine sx_ ?_ <;> intro bb) | (refine su_ ?_ <;> intro u hu1 hu2) | fail)
   all_goals first | exact e8_ | skip
  |false =>
   refine za Tryz.func98 rfl (by decide) Tryz.ntmps98 rfl ?_
   repeat' (first
   |(apply zt rfl rfl rfl rfl (c:=co)
     case ha=>exact os_
     rintro _ _ ⟨u,rfl,rfl⟩; refine qq (List.Mem.head _) fun hu1 hu2 => ?_)
   |refine zst ?_ | refine zk6 ?_ | refine z7j ?_ | (refine zd ?_ ?_ <;> intro hb <;> try exact no_) | (refine sx_ ?_ <;> intro bb) | (refine su_ ?_ <;> intro u hu1 hu2) | fail)
   all_goals first | exact e8_ | skip
theorem zrq (w h : Int) (l : List zj) (x y : Int) (b s : Bool) (f t : Int) (cur : Bool) : AP Tryz.prog T0 98 [zad w h l x y b s,I f,I t,B cur] (blA (xb (w,h,l,x,y,b,s) f t cur)):=by
 by_cases q : yx w h l x y b s = true ∧ 0 ≤ f ∧ f ≤ t ∧ t ≤ l.length
 ·obtain ⟨q0,q1,q2,q3⟩:=q
  obtain ⟨f,rfl⟩:=Int.eq_ofNat_of_zero_le q1
  obtain ⟨t,rfl⟩:=Int.eq_ofNat_of_zero_le (show 0 ≤ t by omega)
  have key:=(znu (T0:=T0) w h l x y b s f t cur q0 (by omega) (by omega)).frz1 zrc
  have e : xb (w,h,l,x,y,b,s) f t cur = (w,h,zj0 l f t,if cur then 0 else x,if cur then 0 else y,if cur then false else b,if cur then false else s):=by
   unfold xb
   rw [if_neg (fun z=>z ⟨q0,q1,q2,q3⟩)]
   cases cur <;> rfl
  rw [e]; exact key
 ·have e : xb (w,h,l,x,y,b,s) f t cur = (w,h,l,x,y,b,s):=by unfold xb; rw [if_pos q]
  rw [e]
  have c1:=vy (T0:=T0) w h l x y b s
  have c2 : True:=trivial
  have co : True:=trivial
  have heq : True:=trivial
  generalize yx w h l x y b s = v at *
  refine za Tryz.func98 rfl (by decide) Tryz.ntmps98 rfl ?_
  repeat' (first
  |(apply zt rfl rfl rfl rfl (c:=co)
    case ha=>exact os_
    rintro _ _ ⟨u,rfl,rfl⟩; refine qq (List.Mem.head _) fun hu1 hu2 => ?_)
  |refine zst ?_ | refine zk6 ?_ | refine z7j ?_ | (refine zd ?_ ?_ <;> intro hb <;> try exact no_) | (refine sx_ ?_ <;> intro bb) | (refine su_ ?_ <;> intro u hu1 hu2) | fail)
  all_goals first | exact ⟨_,[],rl_,List.nil_sublist _,Sub.refl _,rfl⟩ | (exfalso; exact q ⟨hb.1.1.1,by omega,by omega,by omega⟩) | skip
theorem zis (w h : Int) (l : List zj) (x y : Int) (b s : Bool) (tw th : Int) (tl : List zp) (tx ty : Int) (tb : Bool) : AP Tryz.prog T0 17 [zad w h l x y b s,vg tw th tl tx ty tb] (B (zxr (w,h,l,x,y,b,s) (tw,th,tl,tx,ty,tb))):=by
 have c1:=vy (T0:=T0) w h l x y b s
 have c2:=zbd (T0:=T0) tw th tl tx ty tb
 by_cases h0 : yx w h l x y b s = true ∧ okT tw th tl tx ty tb = true ∧ w = tw ∧ h = th
 ·obtain ⟨h1,h2,rfl,rfl⟩:=h0
  have iff_:=z5k h1 h2
  rw [h1] at c1
  rw [h2] at c2
  obtain ⟨hl,hl2,hw⟩:=zli h1
  have htl:=(xk (qp.1 h2).1).1
  generalize zxr (w,h,l,x,y,b,s) (w,h,tl,tx,ty,tb) = ag at *
  refine za Tryz.func17 rfl (by decide) Tryz.ntmps17 rfl ?_
  repeat' (first
  |refine z7k ?_ | (refine zd ?_ ?_ <;> intro hb <;> try exact no_) | (refine sx_ ?_ <;> intro bb) | (refine su_ ?_ <;> intro u hu1 hu2) | fail)
  all_goals first | exact e2_ | skip
  refine zdc (fun k : Nat=>[(34,I k)]) (fun k=>k ≤ l.length ∧ ∀ j,j < k → (gAt l j).2 = true → (gAt l j).1 = cAt tl j) (fun k=>l.length - k) 0 ⟨Nat.zero_le _,fun _ k=>absurd k (Nat.not_lt_zero _)⟩ ?_
  rintro k ⟨k1,k2⟩
  by_cases hlt : k < l.length
  ·have hat:=zxj hlt
   have hat2:=zwk (l:=tl) (i:=k) (by omega)
   have nxt : ((gAt l k).2 = true → (gAt l k).1 = cAt tl k) → ∀ j,j < k + 1 → (gAt l j).2 = true → (gAt l j).1 = cAt tl j:=fun z j hj=>by
    by_cases e : j = k
    ·subst e; exact z
    ·exact k2 j (by omega)
   have bad : (gAt l k).2 = true → (gAt l k).1 ≠ cAt tl k → ag = false:=fun z1 z2=>by
    cases e : ag with
    |false=>rfl
    |true=>exact absurd ((iff_.1 e).1 k hlt z1) z2
   generalize gAt l k = g at *
   change tl[k]? = some (cAt tl k) at hat2
   generalize cAt tl k = tc at *
   obtain ⟨⟨g1,g2⟩,gs⟩:=g
   obtain ⟨t1,t2⟩:=tc
   cases gs with
   |true =>
    repeat' (first
    |refine z7k ?_ | (refine zd ?_ ?_ <;> intro hb <;> try exact no_) | (refine sx_ ?_ <;> intro bb) | (refine su_ ?_ <;> intro u hu1 hu2) | fail)
    all_goals first | exact e1_ | skip
    ·exact ⟨_,[],rl_,List.nil_sublist _,Sub.eq (congrArg B (bad rfl (by simpa using hb)).symm),rfl⟩
    ·exact ⟨k + 1,⟨by omega,nxt fun _=>(by simpa using hb)⟩,by omega,wx_,sl_⟩
   |false =>
    repeat' (first
    |refine z7k ?_ | (refine zd ?_ ?_ <;> intro hb <;> try exact no_) | (refine sx_ ?_ <;> intro bb) | (refine su_ ?_ <;> intro u hu1 hu2) | fail)
    all_goals first | exact e4_ | skip
    ·exact ⟨k + 1,⟨by omega,nxt fun z=>by cases z⟩,by omega,wx_,sl_⟩
  ·have hall : Agr l tl:=fun j hj=>k2 j (by omega)
   repeat' (first
   |refine z7k ?_ | (refine zd ?_ ?_ <;> intro hb <;> try exact no_) | (refine sx_ ?_ <;> intro bb) | (refine su_ ?_ <;> intro u hu1 hu2) | fail)
   all_goals first | exact e1_ | skip
   refine ⟨_,[],rl_,List.nil_sublist _,Sub.eq (congrArg B ?_),rfl⟩
   rw [Bool.eq_iff_iff,iff_]
   cases s <;> simp [hall,and_assoc]
 ·rw [z5l (fun z=>h0 z)]
  generalize yx w h l x y b s = v1 at *
  generalize okT tw th tl tx ty tb = v2 at *
  refine za Tryz.func17 rfl (by decide) Tryz.ntmps17 rfl ?_
  repeat' (first
  |refine z7k ?_ | (refine zd ?_ ?_ <;> intro hb <;> try exact no_) | (refine sx_ ?_ <;> intro bb) | (refine su_ ?_ <;> intro u hu1 hu2) | fail)
  all_goals first | exact ⟨_,[],rl_,List.nil_sublist _,Sub.refl _,rfl⟩ | (exfalso; exact h0 ⟨hb.1.1.1,hb.1.1.2,hb.1.2,hb.2⟩) | skip
end Go.Proofs.YtgfmjmfphmjdkaaGreatDoor
