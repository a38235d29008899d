/- Layer 29 (paint): what fits, what is wrong, and what is blank, by the program. No condition. -/
import Derived.Test.YtgfmjmfphmjdkaaGreatDoorR3I1
import Derived.Test.YtgfmjmfphmjdkaaGreatDoorR3B1
import Derived.Test.YtgfmjmfphmjdkaaGreatDoorR3BA
import Derived.Test.YtgfmjmfphmjdkaaGreatDoorR3H1
import Derived.Test.YtgfmjmfphmjdkaaGreatDoorR3BC
import Derived.Test.YtgfmjmfphmjdkaaGreatDoorR3BE
import Derived.Test.YtgfmjmfphmjdkaaGreatDoorR3BF
import Derived.Test.YtgfmjmfphmjdkaaGreatDoorR3O2
import Derived.Test.YtgfmjmfphmjdkaaGreatDoorR3O3
set_option linter.unusedSimpArgs false
set_option linter.unusedVariables false
set_option linter.unusedSectionVars false
namespace Go.Proofs.YtgfmjmfphmjdkaaGreatDoor
set_option maxHeartbeats 4000000
open Go Go.RowKit
set_option maxRecDepth 200000
variable {T0 : Gh} [TabS T0]
attribute [local irreducible] zz zg AW AL AO QY qh z_ rsA Opd xh vA gvA zy qb slA jl ipA rpA EqK LnK IxK LdK FaK FdK
theorem zvl (w h : Int) (l : List zj) (x y : Int) (b s : Bool) (tw th : Int) (tl : List zp) (tx ty : Int) (tb : Bool) : AP Tryz.prog T0 49 [zad w h l x y b s,vg tw th tl tx ty tb] (B (decide (qz (w,h,l,x,y,b,s) (tw,th,tl,tx,ty,tb)))):=by
 have c1:=vy (T0:=T0) w h l x y b s
 have c2:=zbd (T0:=T0) tw th tl tx ty tb
 rw [zz3]
 generalize yx w h l x y b s = v1 at *
 generalize okT tw th tl tx ty tb = v2 at *
 refine za Tryz.func49 rfl (by decide) Tryz.ntmps49 rfl ?_
 repeat' (first
 |refine g7_ ?_ | (refine zd ?_ ?_ <;> intro hb <;> try exact no_) | (refine sx_ ?_ <;> intro bb) | (refine su_ ?_ <;> intro u hu1 hu2) | fail)
 all_goals exact ⟨_,[],rl_,List.nil_sublist _,Sub.refl _,rfl⟩
theorem zj7 (l : List zj) (cs : List zp) (hl : l.length ≤ cs.length) (hn : l.length ≤ 100000) : AP Tryz.prog T0 50 [slA guT l,slA qs cs] (I (yl (wrP l cs) 0 l.length : Nat)):=by
 have hat : True:=trivial
 have hat2 : True:=trivial
 refine za Tryz.func50 rfl (by decide) Tryz.ntmps50 rfl ?_
 repeat' (first
 |refine z5x ?_ | (refine zd ?_ ?_ <;> intro hb <;> try exact no_) | (refine sx_ ?_ <;> intro bb) | (refine su_ ?_ <;> intro u hu1 hu2) | fail)
 refine zdc (fun k : Nat=>[(5,I (yl (wrP l cs) 0 k : Nat)),(10,I k)]) (fun k=>k ≤ l.length) (fun k=>l.length - k) 0 (Nat.zero_le _) ?_
 rintro k k1
 have hle:=zhk (wrP l cs) 0 k
 by_cases hlt : k < l.length
 ·have hat:=zxj hlt
  have hat2:=zwk (l:=cs) (i:=k) (by omega)
  have nx:=z0x (p:=wrP l cs) (a:=0) (n:=k)
  rw [Nat.zero_add] at nx
  have wd : wrP l cs k = decide (gAt l k ≠ (cAt cs k,true)):=rfl
  change cs[k]? = some (cAt cs k) at hat2
  generalize gAt l k = g at *
  generalize cAt cs k = tc at *
  obtain ⟨⟨g1,g2⟩,gs⟩:=g
  obtain ⟨t1,t2⟩:=tc
  repeat' (first
  |refine z5x ?_ | (refine zd ?_ ?_ <;> intro hb <;> try exact no_) | (refine sx_ ?_ <;> intro bb) | (refine su_ ?_ <;> intro u hu1 hu2) | fail)
  ·refine ⟨k + 1,by omega,by omega, ?_,sl_⟩
   rw [nx,wd,if_pos (decide_eq_true hb)]; exact wx_
  ·refine ⟨k + 1,by omega,by omega, ?_,sl_⟩
   rw [nx,wd,if_neg (fun z=>absurd hb (of_decide_eq_true z))]; exact wx_
 ·obtain rfl : k = l.length:=by omega
  repeat' (first
  |refine z5x ?_ | (refine zd ?_ ?_ <;> intro hb <;> try exact no_) | (refine sx_ ?_ <;> intro bb) | (refine su_ ?_ <;> intro u hu1 hu2) | fail)
  exact ⟨_,[],rl_,List.nil_sublist _,Sub.refl _,rfl⟩
theorem z0c (cs : List zp) (hn : cs.length ≤ 100000) : AP Tryz.prog T0 55 [slA qs cs] (B (zp4 cs 0 cs.length)):=by
 have hat : True:=trivial
 have hat2 : True:=trivial
 refine za Tryz.func55 rfl (by decide) Tryz.ntmps55 rfl ?_
 repeat' (first
 |refine z5x ?_ | (refine zd ?_ ?_ <;> intro hb <;> try exact no_) | (refine sx_ ?_ <;> intro bb) | (refine su_ ?_ <;> intro u hu1 hu2) | fail)
 refine zdc (fun k : Nat=>[(7,I k)]) (fun k=>k ≤ cs.length ∧ ∀ i,i < k → cAt cs i = (32,0)) (fun k=>cs.length - k) 0 ⟨Nat.zero_le _,fun _ z=>absurd z (Nat.not_lt_zero _)⟩ ?_
 rintro k ⟨k1,k2⟩
 by_cases hlt : k < cs.length
 ·have hat:=zwk hlt
  change cs[k]? = some (cAt cs k) at hat
  have hv : zp4 cs 0 cs.length = true → cAt cs k = (32,0):=fun z=>zbk.1 z k (Nat.zero_le _) (by omega)
  have hw : cAt cs k = (32,0) → ∀ i,i < k + 1 → cAt cs i = (32,0):=fun z i hi=>by
   rcases Nat.lt_or_ge i k with q | q
   ·exact k2 i q
   ·rw [show i = k by omega]; exact z
  generalize cAt cs k = tc at *
  obtain ⟨t1,t2⟩:=tc
  repeat' (first
  |refine z5x ?_ | (refine zd ?_ ?_ <;> intro hb <;> try exact no_) | (refine sx_ ?_ <;> intro bb) | (refine su_ ?_ <;> intro u hu1 hu2) | fail)
  ·refine ⟨_,[],rl_,List.nil_sublist _,Sub.eq (congrArg B ?_),rfl⟩
   cases e : zp4 cs 0 cs.length with
   |false=>rfl
   |true=>exact absurd (hv e) hb
  ·exact ⟨k + 1,⟨by omega,hw hb⟩,by omega,wx_,sl_⟩
 ·repeat' (first
  |refine z5x ?_ | (refine zd ?_ ?_ <;> intro hb <;> try exact no_) | (refine sx_ ?_ <;> intro bb) | (refine su_ ?_ <;> intro u hu1 hu2) | fail)
  refine ⟨_,[],rl_,List.nil_sublist _,Sub.eq (congrArg B ?_),rfl⟩
  exact (zbk.2 fun i _ hi=>k2 i (by omega)).symm
end Go.Proofs.YtgfmjmfphmjdkaaGreatDoor
namespace Go.Proofs.YtgfmjmfphmjdkaaGreatDoor
set_option maxHeartbeats 4000000
open Go Go.RowKit
set_option maxRecDepth 200000
variable {T0 : Gh} [TabS T0]
attribute [local irreducible] zz zg AW AL AO QY qh z_ rsA Opd xh vA gvA zy qb slA jl ipA rpA EqK LnK IxK LdK FaK FdK
theorem zvk (w h : Int) (l : List zj) (x y : Int) (b s : Bool) (tw th : Int) (tl : List zp) (tx ty : Int) (tb : Bool) : AP Tryz.prog T0 12 [zad w h l x y b s,vg tw th tl tx ty tb] (zy [I (zd9 (w,h,l,x,y,b,s) (tw,th,tl,tx,ty,tb)).1,I (zd9 (w,h,l,x,y,b,s) (tw,th,tl,tx,ty,tb)).2]):=by
 have c1:=zvl (T0:=T0) w h l x y b s tw th tl tx ty tb
 by_cases hf : qz (w,h,l,x,y,b,s) (tw,th,tl,tx,ty,tb)
 ·rw [decide_eq_true hf] at c1
  obtain ⟨e1,e2⟩:=zc0 hf
  rw [zkz hf]
  have c2:=zj7 (T0:=T0) l tl (by simp only at e1; omega) (by simp only at e2; omega)
  refine za Tryz.func12 rfl (by decide) Tryz.ntmps12 rfl ?_
  repeat' (first
  |refine g7_ ?_ | (refine zd ?_ ?_ <;> intro hb <;> try exact no_) | (refine sx_ ?_ <;> intro bb) | (refine su_ ?_ <;> intro u hu1 hu2) | fail)
  exact ⟨_,[],rl_,List.nil_sublist _,Sub.refl _,rfl⟩
 ·rw [decide_eq_false hf] at c1
  rw [zk0 hf]
  have c2 : True:=trivial
  refine za Tryz.func12 rfl (by decide) Tryz.ntmps12 rfl ?_
  repeat' (first
  |refine g7_ ?_ | (refine zd ?_ ?_ <;> intro hb <;> try exact no_) | (refine sx_ ?_ <;> intro bb) | (refine su_ ?_ <;> intro u hu1 hu2) | fail)
  exact ⟨_,[],rl_,List.nil_sublist _,Sub.refl _,rfl⟩
end Go.Proofs.YtgfmjmfphmjdkaaGreatDoor
namespace Go.Proofs.YtgfmjmfphmjdkaaGreatDoor
set_option maxHeartbeats 4000000
open Go Go.RowKit
set_option maxRecDepth 200000
variable {T0 : Gh} [TabS T0]
attribute [local irreducible] zz zg AW AL AO QY qh z_ rsA Opd xh vA gvA zy qb slA jl ipA rpA EqK LnK IxK LdK FaK FdK
theorem z0b (w h : Nat) (l : List zj) (x y : Int) (b s : Bool) (tl : List zp) (tx ty : Int) (tb : Bool) (h1 : 2 ≤ w) (h2 : w ≤ 80) (h4 : h ≤ 24) (hl : l.length = w * h) (htl : tl.length = w * h) (hp : ∀ i,i < tl.length → (cAt tl i).2 = 2 → 1 ≤ i) : AP Tryz.prog T0 53 [zad w h l x y b s,vg w h tl tx ty tb] (zy [I (zz6 (w,h,l,x,y,b,s) (w,h,tl,tx,ty,tb)).1,B (zz6 (w,h,l,x,y,b,s) (w,h,tl,tx,ty,tb)).2]):=by
 have F : ∀ k,k < l.length → (∀ j,j < k → wrP l tl j = false) → wrP l tl k = true → zz6 ((w : Int),(h : Int),l,x,y,b,s) ((w : Int),(h : Int),tl,tx,ty,tb) = (((if (cAt tl k).2 = 2 then k - 1 else k : Nat) : Int),true):=fun k a1 a2 a3=>by
  have e : v7 ((w : Int),(h : Int),l,x,y,b,s) ((w : Int),(h : Int),tl,tx,ty,tb) = k:=zu1 a1 a2 a3
  unfold zz6 zbu
  rw [e,if_neg (by simp only; omega)]
 have E : (∀ j,j < l.length → wrP l tl j = false) → zz6 ((w : Int),(h : Int),l,x,y,b,s) ((w : Int),(h : Int),tl,tx,ty,tb) = (0,false):=fun a=>by
  unfold zz6
  rw [if_pos (zz2 a)]
 have hwh : w * h ≤ 1920:=yg h2 h4
 generalize zz6 ((w : Int),(h : Int),l,x,y,b,s) ((w : Int),(h : Int),tl,tx,ty,tb) = z at *
 have hat : True:=trivial
 have c1 : True:=trivial
 refine za Tryz.func53 rfl (by decide) Tryz.ntmps53 rfl ?_
 repeat' (first
 |refine z31 ?_ | (refine zd ?_ ?_ <;> intro hb <;> try exact no_) | (refine sx_ ?_ <;> intro bb) | (refine su_ ?_ <;> intro u hu1 hu2) | fail)
 refine zdc (fun Y : Nat=>[(11,I Y)]) (fun Y=>Y ≤ h ∧ ∀ j,j < Y * w → wrP l tl j = false) (fun Y=>h - Y) 0 ⟨Nat.zero_le _,fun j z=>absurd z (by omega)⟩ ?_
 rintro Y ⟨y1,y2⟩
 by_cases hy : Y < h
 ·have hq : (Y + 1) * w ≤ h * w:=Nat.mul_le_mul_right _ hy
  rw [Nat.add_mul,Nat.one_mul,Nat.mul_comm h w] at hq
  repeat' (first
  |refine z31 ?_ | (refine zd ?_ ?_ <;> intro hb <;> try exact no_) | (refine sx_ ?_ <;> intro bb) | (refine su_ ?_ <;> intro u hu1 hu2) | fail)
  refine zdc (fun X : Nat=>[(16,I X)]) (fun X=>X < w ∧ ∀ j,j < Y * w + X → wrP l tl j = false) (fun X=>w - X) 0 ⟨by omega,fun j z=>y2 j (by omega)⟩ ?_
  rintro X ⟨x1,x2⟩
  have c1 : AP Tryz.prog T0 50 [slA guT ((l.drop (Y * w + X)).take (Y * w + X + 1 - (Y * w + X))),slA qs ((tl.drop (Y * w + X)).take (tl.length - (Y * w + X)))] (I (yl (wrP l tl) (Y * w + X) 1 : Nat)):=by
   have e1 : ((l.drop (Y * w + X)).take 1).length = 1:=by rw [List.length_take,List.length_drop]; omega
   have:=zj7 (T0:=T0) ((l.drop (Y * w + X)).take 1) ((tl.drop (Y * w + X)).take (tl.length - (Y * w + X))) (by rw [e1,List.length_take,List.length_drop]; omega) (by rw [e1]; omega)
   rw [e1,zwh (by omega)] at this
   rw [Nat.add_sub_cancel_left]; exact this
  have k1:=z41 (l:=l) (cs:=tl) (a:=Y * w + X)
  have hat:=zwk (l:=tl) (i:=Y * w + X) (by omega)
  change tl[Y * w + X]? = some (cAt tl (Y * w + X)) at hat
  have F1:=F (Y * w + X) (by omega) x2
  have hp1:=hp (Y * w + X) (by omega)
  have x3 : wrP l tl (Y * w + X) = false → ∀ j,j < Y * w + X + 1 → wrP l tl j = false:=fun q j hj=>by
   rcases Nat.lt_or_ge j (Y * w + X) with q2 | q2
   ·exact x2 j q2
   ·rw [show j = Y * w + X by omega]; exact q
  generalize yl (wrP l tl) (Y * w + X) 1 = n1 at *
  generalize wrP l tl (Y * w + X) = v at *
  generalize cAt tl (Y * w + X) = tc at *
  obtain ⟨t1,t2⟩:=tc
  cases v with
  |false =>
   obtain rfl : n1 = 0:=k1.2 rfl
   by_cases hx : X = w - 1
   ·repeat' (first
    |refine z31 ?_ | (refine zd ?_ ?_ <;> intro hb <;> try exact no_) | (refine sx_ ?_ <;> intro bb) | (refine su_ ?_ <;> intro u hu1 hu2) | fail)
    all_goals first | (exfalso; omega) | exact ⟨Y + 1,⟨by omega,fun j hj=>x3 rfl j (by rw [Nat.add_mul,Nat.one_mul] at hj; omega)⟩,by omega,wx_,sl_⟩ | skip
   ·repeat' (first
    |refine z31 ?_ | (refine zd ?_ ?_ <;> intro hb <;> try exact no_) | (refine sx_ ?_ <;> intro bb) | (refine su_ ?_ <;> intro u hu1 hu2) | fail)
    all_goals first | (exfalso; omega) | exact ⟨X + 1,⟨by omega,fun j hj=>x3 rfl j (by omega)⟩,by omega,wx_,sl_⟩ | skip
  |true =>
   have hn : n1 ≠ 0:=fun q=>by cases k1.1 q
   have e:=F1 rfl
   simp only at e hp1
   by_cases hk : t2 = 2
   ·have hp2:=hp1 hk
    rw [if_pos hk] at e
    subst e
    repeat' (first
    |refine z31 ?_ | (refine zd ?_ ?_ <;> intro hb <;> try exact no_) | (refine sx_ ?_ <;> intro bb) | (refine su_ ?_ <;> intro u hu1 hu2) | fail)
    all_goals first | exact z8d | skip
   ·rw [if_neg hk] at e
    subst e
    repeat' (first
    |refine z31 ?_ | (refine zd ?_ ?_ <;> intro hb <;> try exact no_) | (refine sx_ ?_ <;> intro bb) | (refine su_ ?_ <;> intro u hu1 hu2) | fail)
    all_goals first | exact z8d | skip
 ·obtain rfl : Y = h:=by omega
  have e:=E fun j hj=>y2 j (by rw [Nat.mul_comm]; omega)
  subst e
  repeat' (first
  |refine z31 ?_ | (refine zd ?_ ?_ <;> intro hb <;> try exact no_) | (refine sx_ ?_ <;> intro bb) | (refine su_ ?_ <;> intro u hu1 hu2) | fail)
  exact ⟨_,[],rl_,List.nil_sublist _,Sub.refl _,rfl⟩
end Go.Proofs.YtgfmjmfphmjdkaaGreatDoor
namespace Go.Proofs.YtgfmjmfphmjdkaaGreatDoor
set_option maxHeartbeats 4000000
open Go Go.RowKit
set_option maxRecDepth 200000
variable {T0 : Gh} [TabS T0]
theorem zg3 (l : List zj) (tl : List zp) (P E m : Nat) (he : E - P = m) (hE : E ≤ l.length) (hP : P ≤ E) (hl : l.length ≤ tl.length) (h9 : l.length ≤ 100000) : AP Tryz.prog T0 50 [slA guT ((l.drop P).take (E - P)),slA qs ((tl.drop P).take (E - P))] (I (yl (wrP l tl) P m : Nat)):=by
 subst he
 have e1 : ((l.drop P).take (E - P)).length = E - P:=by rw [List.length_take,List.length_drop]; omega
 have:=zj7 (T0:=T0) ((l.drop P).take (E - P)) ((tl.drop P).take (E - P)) (by rw [e1,List.length_take,List.length_drop]; omega) (by rw [e1]; omega)
 rw [e1,zwh (Nat.le_refl _)] at this
 exact this
theorem zg4 (tl : List zp) (P E m : Nat) (he : E - P = m) (hE : E ≤ tl.length) (hP : P ≤ E) (h9 : tl.length ≤ 100000) : AP Tryz.prog T0 55 [slA qs ((tl.drop P).take (E - P))] (B (zp4 tl P m)):=by
 subst he
 have e1 : ((tl.drop P).take (E - P)).length = E - P:=by rw [List.length_take,List.length_drop]; omega
 have:=z0c (T0:=T0) ((tl.drop P).take (E - P)) (by rw [e1]; omega)
 rw [e1,z44] at this
 exact this
attribute [local irreducible] zz zg AW AL AO QY qh z_ rsA Opd xh vA gvA zy qb slA jl ipA rpA EqK LnK IxK LdK FaK FdK
theorem z4f (w h : Int) (l : List zj) (x y : Int) (b s : Bool) (tw th : Int) (tl : List zp) (tx ty : Int) (tb : Bool) : AP Tryz.prog T0 14 [zad w h l x y b s,vg tw th tl tx ty tb] (zy [yw (zu (w,h,l,x,y,b,s) (tw,th,tl,tx,ty,tb)).1,I (zu (w,h,l,x,y,b,s) (tw,th,tl,tx,ty,tb)).2]):=by
 have c1:=zvl (T0:=T0) w h l x y b s tw th tl tx ty tb
 have hat : True:=trivial
 have c2 : True:=trivial
 have c3 : True:=trivial
 have c4 : True:=trivial
 have c5 : True:=trivial
 have c6 : True:=trivial
 have c7 : True:=trivial
 by_cases hf : qz (w,h,l,x,y,b,s) (tw,th,tl,tx,ty,tb)
 ·rw [decide_eq_true hf] at c1
  obtain ⟨w',h',_,_,_,_,_,_,_,_,e1,e2,w2,w3,_,w5,hl,hcl,hk,hX,hY⟩:=uw hf
  simp only [Prod.mk.injEq] at e1 e2
  obtain ⟨rfl,rfl,rfl,rfl,rfl,rfl,rfl⟩:=e1
  obtain ⟨rfl,rfl,rfl,rfl,rfl,rfl⟩:=e2
  have hwh : w' * h' ≤ 1920:=yg w3 w5
  have c2:=z0b (T0:=T0) w' h' l x y b s tl tx ty false w2 w3 w5 hl hcl (fun i hi q=>by
   have:=((zd5 hk hi).2.2 q).1
   rcases Nat.eq_zero_or_pos i with z | z
   ·rw [z] at this; simp at this
   ·exact z)
  have hF:=(w7 ((w' : Int),(h' : Int),l,x,y,b,s) ((w' : Int),(h' : Int),tl,tx,ty,false)).1
  simp only at hF
  by_cases hn : v7 ((w' : Int),(h' : Int),l,x,y,b,s) ((w' : Int),(h' : Int),tl,tx,ty,false) = l.length
  ·rw [zt7 hf hn]
   rw [zz6,if_pos hn] at c2
   have c3:=zpu (T0:=T0) w' h' l x y b s tx ty
   dsimp only at c2 ⊢
   generalize xc ((w' : Int),(h' : Int),l,x,y,b,s) tx ty = z at *
   obtain ⟨⟨k,a,d,r⟩,e⟩:=z
   clear hf
   refine za Tryz.func14 rfl (by decide) Tryz.ntmps14 rfl ?_
   repeat' (first
   |refine z5y ?_ | (refine zd ?_ ?_ <;> intro hb <;> try exact no_) | (refine sx_ ?_ <;> intro bb) | (refine su_ ?_ <;> intro u hu1 hu2) | fail)
   all_goals first | exact z56 | skip
  ·rw [zt6 hf hn]
   rw [zz6,if_neg hn] at c2
   have hP:=z6q (b:=((w' : Int),(h' : Int),l,x,y,b,s)) (t:=((w' : Int),(h' : Int),tl,tx,ty,false))
   generalize zbu ((w' : Int),(h' : Int),l,x,y,b,s) ((w' : Int),(h' : Int),tl,tx,ty,false) = P at *
   simp only [Int.toNat_natCast] at c2 ⊢
   obtain ⟨r1,r2,r3⟩:=ztf (h:=h') (show 0 < w' by omega) (p:=P) (by omega)
   have hm:=Nat.mod_lt P (show 0 < w' by omega)
   have hme:=Nat.mod_le P w'
   have hdm:=Nat.div_add_mod P w'
   have hq : P / w' < h':=(Nat.div_lt_iff_lt_mul (by omega)).2 (by rw [Nat.mul_comm]; omega)
   have hnn : (0 : Int) ≤ ((P / w' : Nat) : Int):=Int.natCast_nonneg _
   have c3:=zpu (T0:=T0) w' h' l x y b s (P % w' : Nat) (P / w' : Nat)
   rcases zqz (b:=((w' : Int),(h' : Int),l,x,y,b,s)) (X:=(P % w' : Nat)) (Y:=(P / w' : Nat)) hf.1 ⟨Int.natCast_nonneg _,Int.ofNat_lt.2 hm⟩ ⟨Int.natCast_nonneg _,Int.ofNat_lt.2 hq⟩ with ⟨q1,q2⟩ | ⟨q1,q2⟩
   ·rw [q1,if_neg (by decide)]
    rw [q2] at c3
    have c4:=zg4 (T0:=T0) tl P tl.length (l.length - P) (by omega) (Nat.le_refl _) (by omega) (by omega)
    have c5 : AP Tryz.prog T0 50 [slA guT ((l.drop P).take (l.length - P)),slA qs ((tl.drop P).take (tl.length - P))] (I (yl (wrP l tl) P (l.length - P) : Nat)):=by
     rw [show tl.length = l.length by omega]
     exact zg3 (T0:=T0) l tl P l.length (l.length - P) rfl (Nat.le_refl _) (by omega) (by omega) (by omega)
    have c6:=zg4 (T0:=T0) tl P (P - P % w' + w') (w' - P % w') (by omega) (by omega) (by omega) (by omega)
    have c7:=zg3 (T0:=T0) l tl P (P - P % w' + w') (w' - P % w') (by omega) (by omega) (by omega) (by omega) (by omega)
    have hat:=zwk (l:=tl) (i:=P) (by omega)
    change tl[P]? = some (cAt tl P) at hat
    unfold vr
    have b1:=zhk (wrP l tl) P (l.length - P)
    have b2:=zhk (wrP l tl) P (w' - P % w')
    clear hf q1 q2 hk
    generalize zp4 tl P (l.length - P) = v1 at *
    generalize zp4 tl P (w' - P % w') = v2 at *
    generalize yl (wrP l tl) P (l.length - P) = n1 at *
    generalize yl (wrP l tl) P (w' - P % w') = n2 at *
    generalize cAt tl P = tc at *
    obtain ⟨t1,t2⟩:=tc
    by_cases q8 : v1 = true ∧ 8 ≤ n1
    ·rw [if_pos q8]
     obtain ⟨rfl,q8⟩:=q8
     refine za Tryz.func14 rfl (by decide) Tryz.ntmps14 rfl ?_
     repeat' (first
     |refine z5y ?_ | (refine zd ?_ ?_ <;> intro hb <;> try exact no_) | (refine sx_ ?_ <;> intro bb) | (refine su_ ?_ <;> intro u hu1 hu2) | fail)
     all_goals first | exact z56 | skip
    ·rw [if_neg q8]
     by_cases q7 : v2 = true ∧ 4 ≤ n2
     ·rw [if_pos q7]
      obtain ⟨rfl,q7⟩:=q7
      refine za Tryz.func14 rfl (by decide) Tryz.ntmps14 rfl ?_
      repeat' (first
      |refine z5y ?_ | (refine zd ?_ ?_ <;> intro hb <;> try exact no_) | (refine sx_ ?_ <;> intro bb) | (refine su_ ?_ <;> intro u hu1 hu2) | fail)
      all_goals first | exact z56 | skip
     ·rw [if_neg q7]
      refine za Tryz.func14 rfl (by decide) Tryz.ntmps14 rfl ?_
      repeat' (first
      |refine z5y ?_ | (refine zd ?_ ?_ <;> intro hb <;> try exact no_) | (refine sx_ ?_ <;> intro bb) | (refine su_ ?_ <;> intro u hu1 hu2) | fail)
      all_goals first | exact z56 | skip
   ·rw [q1,if_pos rfl]
    generalize xc ((w' : Int),(h' : Int),l,x,y,b,s) (P % w' : Nat) (P / w' : Nat) = z at *
    obtain ⟨⟨k,a,d,r⟩,e⟩:=z
    simp only at q2
    subst q2
    clear hf
    refine za Tryz.func14 rfl (by decide) Tryz.ntmps14 rfl ?_
    repeat' (first
    |refine z5y ?_ | (refine zd ?_ ?_ <;> intro hb <;> try exact no_) | (refine sx_ ?_ <;> intro bb) | (refine su_ ?_ <;> intro u hu1 hu2) | fail)
    all_goals first | exact z56 | skip
 ·rw [decide_eq_false hf] at c1
  rw [zzc hf]
  clear hf
  refine za Tryz.func14 rfl (by decide) Tryz.ntmps14 rfl ?_
  repeat' (first
  |refine z5y ?_ | (refine zd ?_ ?_ <;> intro hb <;> try exact no_) | (refine sx_ ?_ <;> intro bb) | (refine su_ ?_ <;> intro u hu1 hu2) | fail)
  all_goals first | exact z56 | skip
end Go.Proofs.YtgfmjmfphmjdkaaGreatDoor
