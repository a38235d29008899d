/- Layer 29 (paint): what fits, what is wrong, and what is blank, by the program. No condition. -/
import Derived.Test.YtgfmjmfphmjdkaaGreatDoorR1I1
import Derived.Test.YtgfmjmfphmjdkaaGreatDoorR1B1
import Derived.Test.YtgfmjmfphmjdkaaGreatDoorR1H7
import Derived.Test.YtgfmjmfphmjdkaaGreatDoorR1O2
import Derived.Test.YtgfmjmfphmjdkaaGreatDoorR1O3
set_option linter.unusedSimpArgs false
set_option linter.unusedVariables false
set_option linter.unusedSectionVars false
namespace Go.Proofs.YtgfmjmfphmjdkaaGreatDoor
set_option maxHeartbeats 4000000
open Go Go.RowKit
set_option maxRecDepth 200000
variable {T0 : Gh} [TabS T0]
attribute [local irreducible] z_ zg AW AL AO QY qd zx rsA Opd xi vA gvA zt z0 slA jc ipA rpA EqK LnK IxK LdK FaK FdK
theorem zxa (w h : Int) (l : List zi) (x y : Int) (b s : Bool) (tw th : Int) (tl : List zp) (tx ty : Int) (tb : Bool) : AP Tryz.prog T0 49 [jb w h l x y b s,xp tw th tl tx ty tb] (B (decide (q9 (w,h,l,x,y,b,s) (tw,th,tl,tx,ty,tb)))):=by
 have c1:=wu (T0:=T0) w h l x y b s
 have c2:=zkg (T0:=T0) tw th tl tx ty tb
 rw [zqx]
 generalize vr w h l x y b s = v1 at *
 generalize okT tw th tl tx ty tb = v2 at *
 refine za Tryz.func49 rfl (by decide) Tryz.ntmps49 rfl ?_
 repeat' (first
 |refine zbz ?_ | (refine zb ?_ ?_ <;> intro hb <;> try exact no_) | (refine sx_ ?_ <;> intro bb) | (refine su_ ?_ <;> intro u hu1 hu2) | fail)
 all_goals exact ⟨_,[],rl_,List.nil_sublist _,Sub.refl _,rfl⟩
theorem zmf (w h : Int) (l : List zi) (x y : Int) (b s : Bool) (tw th : Int) (tl : List zp) (tx ty : Int) (tb : Bool) : AP Tryz.prog T0 51 [jb w h l x y b s,xp tw th tl tx ty tb] (B (decide (q9 (w,h,l,x,y,b,s) (tw,th,tl,tx,ty,tb)))):=by
 have c1:=kd (T0:=T0) w h l x y b s
 have c2:=zmc (T0:=T0) tw th tl tx ty tb
 rw [zqx]
 generalize vr w h l x y b s = v1 at *
 generalize okT tw th tl tx ty tb = v2 at *
 refine za Tryz.func51 rfl (by decide) Tryz.ntmps51 rfl ?_
 repeat' (first
 |refine zbz ?_ | (refine zb ?_ ?_ <;> intro hb <;> try exact no_) | (refine sx_ ?_ <;> intro bb) | (refine su_ ?_ <;> intro u hu1 hu2) | fail)
 all_goals exact ⟨_,[],rl_,List.nil_sublist _,Sub.refl _,rfl⟩
theorem zkl (l : List zi) (cs : List zp) (hl : l.length ≤ cs.length) (hn : l.length ≤ 100000) : AP Tryz.prog T0 50 [slA guT l,slA qg cs] (I (ww (wrP l cs) 0 l.length : Nat)):=by
 have hat : True:=trivial
 have hat2 : True:=trivial
 refine za Tryz.func50 rfl (by decide) Tryz.ntmps50 rfl ?_
 repeat' (first
 |refine z64 ?_ | (refine zb ?_ ?_ <;> intro hb <;> try exact no_) | (refine sx_ ?_ <;> intro bb) | (refine su_ ?_ <;> intro u hu1 hu2) | fail)
 refine yk (fun k : Nat=>[(5,I (ww (wrP l cs) 0 k : Nat)),(10,I k)]) (fun k=>k ≤ l.length) (fun k=>l.length - k) 0 (Nat.zero_le _) ?_
 rintro k k1
 have hle:=zar (wrP l cs) 0 k
 by_cases hlt : k < l.length
 ·have hat:=znd hlt
  have hat2:=zng (l:=cs) (i:=k) (by omega)
  have nx:=zrm (p:=wrP l cs) (a:=0) (n:=k)
  rw [Nat.zero_add] at nx
  have wd : wrP l cs k = decide (gAt l k ≠ (cAt cs k,true)):=rfl
  change cs[k]? = some (cAt cs k) at hat2
  generalize gAt l k = g at *
  generalize cAt cs k = tc at *
  obtain ⟨⟨g1,g2⟩,gs⟩:=g
  obtain ⟨t1,t2⟩:=tc
  repeat' (first
  |refine z64 ?_ | (refine zb ?_ ?_ <;> intro hb <;> try exact no_) | (refine sx_ ?_ <;> intro bb) | (refine su_ ?_ <;> intro u hu1 hu2) | fail)
  ·refine ⟨k + 1,by omega,by omega, ?_,sl_⟩
   rw [nx,wd,if_pos (decide_eq_true hb)]; exact wx_
  ·refine ⟨k + 1,by omega,by omega, ?_,sl_⟩
   rw [nx,wd,if_neg (fun z=>absurd hb (of_decide_eq_true z))]; exact wx_
 ·obtain rfl : k = l.length:=by omega
  repeat' (first
  |refine z64 ?_ | (refine zb ?_ ?_ <;> intro hb <;> try exact no_) | (refine sx_ ?_ <;> intro bb) | (refine su_ ?_ <;> intro u hu1 hu2) | fail)
  exact ⟨_,[],rl_,List.nil_sublist _,Sub.refl _,rfl⟩
theorem z1h (cs : List zp) (hn : cs.length ≤ 100000) : AP Tryz.prog T0 55 [slA qg cs] (B (zkv cs 0 cs.length)):=by
 have hat : True:=trivial
 have hat2 : True:=trivial
 refine za Tryz.func55 rfl (by decide) Tryz.ntmps55 rfl ?_
 repeat' (first
 |refine z64 ?_ | (refine zb ?_ ?_ <;> intro hb <;> try exact no_) | (refine sx_ ?_ <;> intro bb) | (refine su_ ?_ <;> intro u hu1 hu2) | fail)
 refine yk (fun k : Nat=>[(7,I k)]) (fun k=>k ≤ cs.length ∧ ∀ i,i < k → cAt cs i = (32,0)) (fun k=>cs.length - k) 0 ⟨Nat.zero_le _,fun _ z=>absurd z (Nat.not_lt_zero _)⟩ ?_
 rintro k ⟨k1,k2⟩
 by_cases hlt : k < cs.length
 ·have hat:=zng hlt
  change cs[k]? = some (cAt cs k) at hat
  have hv : zkv cs 0 cs.length = true → cAt cs k = (32,0):=fun z=>yr.1 z k (Nat.zero_le _) (by omega)
  have hw : cAt cs k = (32,0) → ∀ i,i < k + 1 → cAt cs i = (32,0):=fun z i hi=>by
   rcases Nat.lt_or_ge i k with q | q
   ·exact k2 i q
   ·rw [show i = k by omega]; exact z
  generalize cAt cs k = tc at *
  obtain ⟨t1,t2⟩:=tc
  repeat' (first
  |refine z64 ?_ | (refine zb ?_ ?_ <;> intro hb <;> try exact no_) | (refine sx_ ?_ <;> intro bb) | (refine su_ ?_ <;> intro u hu1 hu2) | fail)
  ·refine ⟨_,[],rl_,List.nil_sublist _,Sub.eq (congrArg B ?_),rfl⟩
   cases e : zkv cs 0 cs.length with
   |false=>rfl
   |true=>exact absurd (hv e) hb
  ·exact ⟨k + 1,⟨by omega,hw hb⟩,by omega,wx_,sl_⟩
 ·repeat' (first
  |refine z64 ?_ | (refine zb ?_ ?_ <;> intro hb <;> try exact no_) | (refine sx_ ?_ <;> intro bb) | (refine su_ ?_ <;> intro u hu1 hu2) | fail)
  refine ⟨_,[],rl_,List.nil_sublist _,Sub.eq (congrArg B ?_),rfl⟩
  exact (yr.2 fun i _ hi=>k2 i (by omega)).symm
end Go.Proofs.YtgfmjmfphmjdkaaGreatDoor
namespace Go.Proofs.YtgfmjmfphmjdkaaGreatDoor
set_option maxHeartbeats 4000000
open Go Go.RowKit
set_option maxRecDepth 200000
variable {T0 : Gh} [TabS T0]
attribute [local irreducible] z_ zg AW AL AO QY qd zx rsA Opd xi vA gvA zt z0 slA jc ipA rpA EqK LnK IxK LdK FaK FdK
theorem zd9 (w h : Int) (l : List zi) (x y : Int) (b s : Bool) (tw th : Int) (tl : List zp) (tx ty : Int) (tb : Bool) (k : Nat) (hk : k < l.length) (hk2 : k < tl.length) : AP Tryz.prog T0 56 [jb w h l x y b s,xp tw th tl tx ty tb,I k] (B (wrP l tl k)):=by
 have hat:=znd hk
 have hat2:=zng (l:=tl) (i:=k) hk2
 have wd : wrP l tl k = decide (gAt l k ≠ (cAt tl k,true)):=rfl
 rw [wd]
 change tl[k]? = some (cAt tl k) at hat2
 generalize gAt l k = g at *
 generalize cAt tl k = tc at *
 obtain ⟨⟨g1,g2⟩,gs⟩:=g
 obtain ⟨t1,t2⟩:=tc
 refine za Tryz.func56 rfl (by decide) Tryz.ntmps56 rfl ?_
 repeat' (first
 |refine xr ?_ (hy:=by first | (apply zk6 rfl; exact oo_; exact on_; apply zam un_ el_; exact hat) | fail) | refine qc ?_ (hy:=by intro hk hk2; first | (apply zk6 rfl; exact qe; exact zgo; apply zam un_ el_; exact hat) | (apply zk6 rfl; exact qe; exact zgo; apply zam un_ el_; exact hat2) | fail) | refine sa_ ?_ | refine xr ?_ (hy:=by first | exact kq rfl zfb sz_ oo_ (Nat.le_of_ble_eq_true rfl) | exact kq rfl zfb sz_ qe (Nat.le_of_ble_eq_true rfl) | fail) | refine x5 ?_ | refine qc ?_ (hy:=by intro hk hk2; first | exact kq rfl zfb sz_ oo_ (Nat.le_of_ble_eq_true rfl) | exact kq rfl zfb sz_ qe (Nat.le_of_ble_eq_true rfl) | fail) | refine sw_ ?_ | (refine zb ?_ ?_ <;> intro hb <;> try exact no_) | (refine sx_ ?_ <;> intro bb) | (refine su_ ?_ <;> intro u hu1 hu2) | fail)
 refine ⟨_,[],rl_,List.nil_sublist _,Sub.eq (congrArg B ?_),rfl⟩
 cases gs <;> simp
theorem zd_ (w h : Int) (l : List zi) (x y : Int) (b s : Bool) (tw th : Int) (tl : List zp) (tx ty : Int) (tb : Bool) (f n : Nat) (hn : f + n ≤ l.length) (hl : l.length ≤ tl.length) (h9 : l.length ≤ 100000) : AP Tryz.prog T0 52 [jb w h l x y b s,xp tw th tl tx ty tb,I f,I (f + n : Nat)] (I (ww (wrP l tl) f n : Nat)):=by
 have c1 : True:=trivial
 have c2 : True:=trivial
 refine za Tryz.func52 rfl (by decide) Tryz.ntmps52 rfl ?_
 repeat' (first
 |refine zbz ?_ | (refine zb ?_ ?_ <;> intro hb <;> try exact no_) | (refine sx_ ?_ <;> intro bb) | (refine su_ ?_ <;> intro u hu1 hu2) | fail)
 refine yk (fun k : Nat=>[(9,I (ww (wrP l tl) f k : Nat)),(10,I (f + k : Nat))]) (fun k=>k ≤ n) (fun k=>n - k) 0 (Nat.zero_le _) ?_
 rintro k k1
 have hle:=zar (wrP l tl) f k
 by_cases hlt : k < n
 ·have c1:=zd9 (T0:=T0) w h l x y b s tw th tl tx ty tb (f + k) (by omega) (by omega)
  have nx:=zrm (p:=wrP l tl) (a:=f) (n:=k)
  generalize wrP l tl (f + k) = v at *
  repeat' (first
  |refine zbz ?_ | (refine zb ?_ ?_ <;> intro hb <;> try exact no_) | (refine sx_ ?_ <;> intro bb) | (refine su_ ?_ <;> intro u hu1 hu2) | fail)
  ·refine ⟨k + 1,by omega,by omega, ?_,sl_⟩
   rw [nx,hb,if_pos rfl]; exact wx_
  ·refine ⟨k + 1,by omega,by omega, ?_,sl_⟩
   rw [nx,hb,if_neg (by decide)]; exact wx_
 ·obtain rfl : k = n:=by omega
  repeat' (first
  |refine zbz ?_ | (refine zb ?_ ?_ <;> intro hb <;> try exact no_) | (refine sx_ ?_ <;> intro bb) | (refine su_ ?_ <;> intro u hu1 hu2) | fail)
  exact ⟨_,[],rl_,List.nil_sublist _,Sub.refl _,rfl⟩
theorem zi3 (tw th : Int) (tl : List zp) (tx ty : Int) (tb : Bool) (f n : Nat) (hn : f + n ≤ tl.length) (h9 : tl.length ≤ 100000) : AP Tryz.prog T0 59 [xp tw th tl tx ty tb,I f,I (f + n : Nat)] (B (zkv tl f n)):=by
 have hat : True:=trivial
 refine za Tryz.func59 rfl (by decide) Tryz.ntmps59 rfl ?_
 repeat' (first
 |refine qar ?_ | (refine zb ?_ ?_ <;> intro hb <;> try exact no_) | (refine sx_ ?_ <;> intro bb) | (refine su_ ?_ <;> intro u hu1 hu2) | fail)
 refine yk (fun k : Nat=>[(7,I (f + k : Nat))]) (fun k=>k ≤ n ∧ ∀ i,f ≤ i → i < f + k → cAt tl i = (32,0)) (fun k=>n - k) 0 ⟨Nat.zero_le _,fun _ z z2=>absurd z2 (by omega)⟩ ?_
 rintro k ⟨k1,k2⟩
 by_cases hlt : k < n
 ·have hat:=zng (l:=tl) (i:=f + k) (by omega)
  change tl[f + k]? = some (cAt tl (f + k)) at hat
  have hv : zkv tl f n = true → cAt tl (f + k) = (32,0):=fun z=>yr.1 z (f + k) (by omega) (by omega)
  have hw : cAt tl (f + k) = (32,0) → ∀ i,f ≤ i → i < f + (k + 1) → cAt tl i = (32,0):=fun z i h0 hi=>by
   rcases Nat.lt_or_ge i (f + k) with q | q
   ·exact k2 i h0 q
   ·rw [show i = f + k by omega]; exact z
  generalize cAt tl (f + k) = tc at *
  obtain ⟨t1,t2⟩:=tc
  repeat' (first
  |refine qar ?_ | (refine zb ?_ ?_ <;> intro hb <;> try exact no_) | (refine sx_ ?_ <;> intro bb) | (refine su_ ?_ <;> intro u hu1 hu2) | fail)
  ·refine ⟨_,[],rl_,List.nil_sublist _,Sub.eq (congrArg B ?_),rfl⟩
   cases e : zkv tl f n with
   |false=>rfl
   |true=>exact absurd (hv e) hb
  ·exact ⟨k + 1,⟨by omega,hw hb⟩,by omega,wx_,sl_⟩
 ·repeat' (first
  |refine qar ?_ | (refine zb ?_ ?_ <;> intro hb <;> try exact no_) | (refine sx_ ?_ <;> intro bb) | (refine su_ ?_ <;> intro u hu1 hu2) | fail)
  refine ⟨_,[],rl_,List.nil_sublist _,Sub.eq (congrArg B ?_),rfl⟩
  exact (yr.2 fun i h0 hi=>k2 i h0 (by omega)).symm
theorem zw_ (w h : Int) (l : List zi) (x y : Int) (b s : Bool) (tw th : Int) (tl : List zp) (tx ty : Int) (tb : Bool) : AP Tryz.prog T0 12 [jb w h l x y b s,xp tw th tl tx ty tb] (zt [I (uy (w,h,l,x,y,b,s) (tw,th,tl,tx,ty,tb)).1,I (uy (w,h,l,x,y,b,s) (tw,th,tl,tx,ty,tb)).2]):=by
 have c1:=zxa (T0:=T0) w h l x y b s tw th tl tx ty tb
 by_cases hf : q9 (w,h,l,x,y,b,s) (tw,th,tl,tx,ty,tb)
 ·rw [decide_eq_true hf] at c1
  obtain ⟨e1,e2⟩:=zfo hf
  rw [u5 hf]
  have c2:=zkl (T0:=T0) l tl (by simp only at e1; omega) (by simp only at e2; omega)
  refine za Tryz.func12 rfl (by decide) Tryz.ntmps12 rfl ?_
  repeat' (first
  |refine zbz ?_ | (refine zb ?_ ?_ <;> intro hb <;> try exact no_) | (refine sx_ ?_ <;> intro bb) | (refine su_ ?_ <;> intro u hu1 hu2) | fail)
  exact ⟨_,[],rl_,List.nil_sublist _,Sub.refl _,rfl⟩
 ·rw [decide_eq_false hf] at c1
  rw [zce hf]
  have c2 : True:=trivial
  refine za Tryz.func12 rfl (by decide) Tryz.ntmps12 rfl ?_
  repeat' (first
  |refine zbz ?_ | (refine zb ?_ ?_ <;> intro hb <;> try exact no_) | (refine sx_ ?_ <;> intro bb) | (refine su_ ?_ <;> intro u hu1 hu2) | fail)
  exact ⟨_,[],rl_,List.nil_sublist _,Sub.refl _,rfl⟩
theorem zow (w h : Int) (l : List zi) (x y : Int) (b s : Bool) (tw th : Int) (tl : List zp) (tx ty : Int) (tb : Bool) : AP Tryz.prog T0 13 [jb w h l x y b s,xp tw th tl tx ty tb] (zt [I (uy (w,h,l,x,y,b,s) (tw,th,tl,tx,ty,tb)).1,I (uy (w,h,l,x,y,b,s) (tw,th,tl,tx,ty,tb)).2]):=by
 have c1:=zmf (T0:=T0) w h l x y b s tw th tl tx ty tb
 by_cases hf : q9 (w,h,l,x,y,b,s) (tw,th,tl,tx,ty,tb)
 ·rw [decide_eq_true hf] at c1
  obtain ⟨e1,e2⟩:=zfo hf
  simp only at e1 e2
  rw [u5 hf]
  have c2:=zd_ (T0:=T0) w h l x y b s tw th tl tx ty tb 0 l.length (by omega) (by omega) (by omega)
  rw [Nat.zero_add] at c2
  replace c2 : AP Tryz.prog T0 52 [jb w h l x y b s,xp tw th tl tx ty tb,I 0,I l.length] (I (ww (wrP l tl) 0 l.length : Nat)):=c2
  refine za Tryz.func13 rfl (by decide) Tryz.ntmps13 rfl ?_
  repeat' (first
  |refine zbz ?_ | (refine zb ?_ ?_ <;> intro hb <;> try exact no_) | (refine sx_ ?_ <;> intro bb) | (refine su_ ?_ <;> intro u hu1 hu2) | fail)
  exact ⟨_,[],rl_,List.nil_sublist _,Sub.refl _,rfl⟩
 ·rw [decide_eq_false hf] at c1
  rw [zce hf]
  have c2 : True:=trivial
  refine za Tryz.func13 rfl (by decide) Tryz.ntmps13 rfl ?_
  repeat' (first
  |refine zbz ?_ | (refine zb ?_ ?_ <;> intro hb <;> try exact no_) | (refine sx_ ?_ <;> intro bb) | (refine su_ ?_ <;> intro u hu1 hu2) | fail)
  exact ⟨_,[],rl_,List.nil_sublist _,Sub.refl _,rfl⟩
end Go.Proofs.YtgfmjmfphmjdkaaGreatDoor
namespace Go.Proofs.YtgfmjmfphmjdkaaGreatDoor
set_option maxHeartbeats 4000000
open Go Go.RowKit
set_option maxRecDepth 200000
variable {T0 : Gh} [TabS T0]
attribute [local irreducible] z_ zg AW AL AO QY qd zx rsA Opd xi vA gvA zt z0 slA jc ipA rpA EqK LnK IxK LdK FaK FdK
theorem z1g (w h : Nat) (l : List zi) (x y : Int) (b s : Bool) (tl : List zp) (tx ty : Int) (tb : Bool) (h1 : 2 ≤ w) (h2 : w ≤ 80) (h4 : h ≤ 24) (hl : l.length = w * h) (htl : tl.length = w * h) (hp : ∀ i,i < tl.length → (cAt tl i).2 = 2 → 1 ≤ i) : AP Tryz.prog T0 53 [jb w h l x y b s,xp w h tl tx ty tb] (zt [I (z09 (w,h,l,x,y,b,s) (w,h,tl,tx,ty,tb)).1,B (z09 (w,h,l,x,y,b,s) (w,h,tl,tx,ty,tb)).2]):=by
 have F : ∀ k,k < l.length → (∀ j,j < k → wrP l tl j = false) → wrP l tl k = true → z09 ((w : Int),(h : Int),l,x,y,b,s) ((w : Int),(h : Int),tl,tx,ty,tb) = (((if (cAt tl k).2 = 2 then k - 1 else k : Nat) : Int),true):=fun k a1 a2 a3=>by
  have e : vm ((w : Int),(h : Int),l,x,y,b,s) ((w : Int),(h : Int),tl,tx,ty,tb) = k:=zwi a1 a2 a3
  unfold z09 za3
  rw [e,if_neg (by simp only; omega)]
 have E : (∀ j,j < l.length → wrP l tl j = false) → z09 ((w : Int),(h : Int),l,x,y,b,s) ((w : Int),(h : Int),tl,tx,ty,tb) = (0,false):=fun a=>by
  unfold z09
  rw [if_pos (z07 a)]
 have hwh : w * h ≤ 1920:=vb h2 h4
 generalize z09 ((w : Int),(h : Int),l,x,y,b,s) ((w : Int),(h : Int),tl,tx,ty,tb) = z at *
 have hat : True:=trivial
 have c1 : True:=trivial
 refine za Tryz.func53 rfl (by decide) Tryz.ntmps53 rfl ?_
 repeat' (first
 |refine z5g ?_ | (refine zb ?_ ?_ <;> intro hb <;> try exact no_) | (refine sx_ ?_ <;> intro bb) | (refine su_ ?_ <;> intro u hu1 hu2) | fail)
 refine yk (fun Y : Nat=>[(11,I Y)]) (fun Y=>Y ≤ h ∧ ∀ j,j < Y * w → wrP l tl j = false) (fun Y=>h - Y) 0 ⟨Nat.zero_le _,fun j z=>absurd z (by omega)⟩ ?_
 rintro Y ⟨y1,y2⟩
 by_cases hy : Y < h
 ·have hq : (Y + 1) * w ≤ h * w:=Nat.mul_le_mul_right _ hy
  rw [Nat.add_mul,Nat.one_mul,Nat.mul_comm h w] at hq
  repeat' (first
  |refine z5g ?_ | (refine zb ?_ ?_ <;> intro hb <;> try exact no_) | (refine sx_ ?_ <;> intro bb) | (refine su_ ?_ <;> intro u hu1 hu2) | fail)
  refine yk (fun X : Nat=>[(16,I X)]) (fun X=>X < w ∧ ∀ j,j < Y * w + X → wrP l tl j = false) (fun X=>w - X) 0 ⟨by omega,fun j z=>y2 j (by omega)⟩ ?_
  rintro X ⟨x1,x2⟩
  have c1 : AP Tryz.prog T0 50 [slA guT ((l.drop (Y * w + X)).take (Y * w + X + 1 - (Y * w + X))),slA qg ((tl.drop (Y * w + X)).take (tl.length - (Y * w + X)))] (I (ww (wrP l tl) (Y * w + X) 1 : Nat)):=by
   have e1 : ((l.drop (Y * w + X)).take 1).length = 1:=by rw [List.length_take,List.length_drop]; omega
   have:=zkl (T0:=T0) ((l.drop (Y * w + X)).take 1) ((tl.drop (Y * w + X)).take (tl.length - (Y * w + X))) (by rw [e1,List.length_take,List.length_drop]; omega) (by rw [e1]; omega)
   rw [e1,zx4 (by omega)] at this
   rw [Nat.add_sub_cancel_left]; exact this
  have k1:=z6d (l:=l) (cs:=tl) (a:=Y * w + X)
  have hat:=zng (l:=tl) (i:=Y * w + X) (by omega)
  change tl[Y * w + X]? = some (cAt tl (Y * w + X)) at hat
  have F1:=F (Y * w + X) (by omega) x2
  have hp1:=hp (Y * w + X) (by omega)
  have x3 : wrP l tl (Y * w + X) = false → ∀ j,j < Y * w + X + 1 → wrP l tl j = false:=fun q j hj=>by
   rcases Nat.lt_or_ge j (Y * w + X) with q2 | q2
   ·exact x2 j q2
   ·rw [show j = Y * w + X by omega]; exact q
  generalize ww (wrP l tl) (Y * w + X) 1 = n1 at *
  generalize wrP l tl (Y * w + X) = v at *
  generalize cAt tl (Y * w + X) = tc at *
  obtain ⟨t1,t2⟩:=tc
  cases v with
  |false =>
   obtain rfl : n1 = 0:=k1.2 rfl
   by_cases hx : X = w - 1
   ·repeat' (first
    |refine z5g ?_ | (refine zb ?_ ?_ <;> intro hb <;> try exact no_) | (refine sx_ ?_ <;> intro bb) | (refine su_ ?_ <;> intro u hu1 hu2) | fail)
    all_goals first | (exfalso; omega) | exact ⟨Y + 1,⟨by omega,fun j hj=>x3 rfl j (by rw [Nat.add_mul,Nat.one_mul] at hj; omega)⟩,by omega,wx_,sl_⟩ | skip
   ·repeat' (first
    |refine z5g ?_ | (refine zb ?_ ?_ <;> intro hb <;> try exact no_) | (refine sx_ ?_ <;> intro bb) | (refine su_ ?_ <;> intro u hu1 hu2) | fail)
    all_goals first | (exfalso; omega) | exact ⟨X + 1,⟨by omega,fun j hj=>x3 rfl j (by omega)⟩,by omega,wx_,sl_⟩ | skip
  |true =>
   have hn : n1 ≠ 0:=fun q=>by cases k1.1 q
   have e:=F1 rfl
   simp only at e hp1
   by_cases hk : t2 = 2
   ·have hp2:=hp1 hk
    rw [if_pos hk] at e
    subst e
    repeat' (first
    |refine z5g ?_ | (refine zb ?_ ?_ <;> intro hb <;> try exact no_) | (refine sx_ ?_ <;> intro bb) | (refine su_ ?_ <;> intro u hu1 hu2) | fail)
    all_goals first | exact qbb | skip
   ·rw [if_neg hk] at e
    subst e
    repeat' (first
    |refine z5g ?_ | (refine zb ?_ ?_ <;> intro hb <;> try exact no_) | (refine sx_ ?_ <;> intro bb) | (refine su_ ?_ <;> intro u hu1 hu2) | fail)
    all_goals first | exact qbb | skip
 ·obtain rfl : Y = h:=by omega
  have e:=E fun j hj=>y2 j (by rw [Nat.mul_comm]; omega)
  subst e
  repeat' (first
  |refine z5g ?_ | (refine zb ?_ ?_ <;> intro hb <;> try exact no_) | (refine sx_ ?_ <;> intro bb) | (refine su_ ?_ <;> intro u hu1 hu2) | fail)
  exact ⟨_,[],rl_,List.nil_sublist _,Sub.refl _,rfl⟩
end Go.Proofs.YtgfmjmfphmjdkaaGreatDoor
namespace Go.Proofs.YtgfmjmfphmjdkaaGreatDoor
set_option maxHeartbeats 4000000
open Go Go.RowKit
set_option maxRecDepth 200000
variable {T0 : Gh} [TabS T0]
theorem zha (l : List zi) (tl : List zp) (P E m : Nat) (he : E - P = m) (hE : E ≤ l.length) (hP : P ≤ E) (hl : l.length ≤ tl.length) (h9 : l.length ≤ 100000) : AP Tryz.prog T0 50 [slA guT ((l.drop P).take (E - P)),slA qg ((tl.drop P).take (E - P))] (I (ww (wrP l tl) P m : Nat)):=by
 subst he
 have e1 : ((l.drop P).take (E - P)).length = E - P:=by rw [List.length_take,List.length_drop]; omega
 have:=zkl (T0:=T0) ((l.drop P).take (E - P)) ((tl.drop P).take (E - P)) (by rw [e1,List.length_take,List.length_drop]; omega) (by rw [e1]; omega)
 rw [e1,zx4 (Nat.le_refl _)] at this
 exact this
theorem zhb (tl : List zp) (P E m : Nat) (he : E - P = m) (hE : E ≤ tl.length) (hP : P ≤ E) (h9 : tl.length ≤ 100000) : AP Tryz.prog T0 55 [slA qg ((tl.drop P).take (E - P))] (B (zkv tl P m)):=by
 subst he
 have e1 : ((tl.drop P).take (E - P)).length = E - P:=by rw [List.length_take,List.length_drop]; omega
 have:=z1h (T0:=T0) ((tl.drop P).take (E - P)) (by rw [e1]; omega)
 rw [e1,z6g] at this
 exact this
attribute [local irreducible] z_ zg AW AL AO QY qd zx rsA Opd xi vA gvA zt z0 slA jc ipA rpA EqK LnK IxK LdK FaK FdK
theorem z5v (w h : Int) (l : List zi) (x y : Int) (b s : Bool) (tw th : Int) (tl : List zp) (tx ty : Int) (tb : Bool) : AP Tryz.prog T0 14 [jb w h l x y b s,xp tw th tl tx ty tb] (zt [vi (zy (w,h,l,x,y,b,s) (tw,th,tl,tx,ty,tb)).1,I (zy (w,h,l,x,y,b,s) (tw,th,tl,tx,ty,tb)).2]):=by
 have c1:=zxa (T0:=T0) w h l x y b s tw th tl tx ty tb
 have hat : True:=trivial
 have c2 : True:=trivial
 have c3 : True:=trivial
 have c4 : True:=trivial
 have c5 : True:=trivial
 have c6 : True:=trivial
 have c7 : True:=trivial
 by_cases hf : q9 (w,h,l,x,y,b,s) (tw,th,tl,tx,ty,tb)
 ·rw [decide_eq_true hf] at c1
  obtain ⟨w',h',_,_,_,_,_,_,_,_,e1,e2,w2,w3,_,w5,hl,hcl,hk,hX,hY⟩:=yo hf
  simp only [Prod.mk.injEq] at e1 e2
  obtain ⟨rfl,rfl,rfl,rfl,rfl,rfl,rfl⟩:=e1
  obtain ⟨rfl,rfl,rfl,rfl,rfl,rfl⟩:=e2
  have hwh : w' * h' ≤ 1920:=vb w3 w5
  have c2:=z1g (T0:=T0) w' h' l x y b s tl tx ty false w2 w3 w5 hl hcl (fun i hi q=>by
   have:=((zb3 hk hi).2.2 q).1
   rcases Nat.eq_zero_or_pos i with z | z
   ·rw [z] at this; simp at this
   ·exact z)
  have hF:=(yb ((w' : Int),(h' : Int),l,x,y,b,s) ((w' : Int),(h' : Int),tl,tx,ty,false)).1
  simp only at hF
  by_cases hn : vm ((w' : Int),(h' : Int),l,x,y,b,s) ((w' : Int),(h' : Int),tl,tx,ty,false) = l.length
  ·rw [zlw hf hn]
   rw [z09,if_pos hn] at c2
   have c3:=zrb (T0:=T0) w' h' l x y b s tx ty
   dsimp only at c2 ⊢
   generalize qq ((w' : Int),(h' : Int),l,x,y,b,s) tx ty = z at *
   obtain ⟨⟨k,a,d,r⟩,e⟩:=z
   clear hf
   refine za Tryz.func14 rfl (by decide) Tryz.ntmps14 rfl ?_
   repeat' (first
   |refine z65 ?_ | (refine zb ?_ ?_ <;> intro hb <;> try exact no_) | (refine sx_ ?_ <;> intro bb) | (refine su_ ?_ <;> intro u hu1 hu2) | fail)
   all_goals first | exact zne | skip
  ·rw [zlv hf hn]
   rw [z09,if_neg hn] at c2
   have hP:=z7w (b:=((w' : Int),(h' : Int),l,x,y,b,s)) (t:=((w' : Int),(h' : Int),tl,tx,ty,false))
   generalize za3 ((w' : Int),(h' : Int),l,x,y,b,s) ((w' : Int),(h' : Int),tl,tx,ty,false) = P at *
   simp only [Int.toNat_natCast] at c2 ⊢
   obtain ⟨r1,r2,r3⟩:=zns (h:=h') (show 0 < w' by omega) (p:=P) (by omega)
   have hm:=Nat.mod_lt P (show 0 < w' by omega)
   have hme:=Nat.mod_le P w'
   have hdm:=Nat.div_add_mod P w'
   have hq : P / w' < h':=(Nat.div_lt_iff_lt_mul (by omega)).2 (by rw [Nat.mul_comm]; omega)
   have hnn : (0 : Int) ≤ ((P / w' : Nat) : Int):=Int.natCast_nonneg _
   have c3:=zrb (T0:=T0) w' h' l x y b s (P % w' : Nat) (P / w' : Nat)
   rcases zsn (b:=((w' : Int),(h' : Int),l,x,y,b,s)) (X:=(P % w' : Nat)) (Y:=(P / w' : Nat)) hf.1 ⟨Int.natCast_nonneg _,Int.ofNat_lt.2 hm⟩ ⟨Int.natCast_nonneg _,Int.ofNat_lt.2 hq⟩ with ⟨q1,q2⟩ | ⟨q1,q2⟩
   ·rw [q1,if_neg (by decide)]
    rw [q2] at c3
    have c4:=zhb (T0:=T0) tl P tl.length (l.length - P) (by omega) (Nat.le_refl _) (by omega) (by omega)
    have c5 : AP Tryz.prog T0 50 [slA guT ((l.drop P).take (l.length - P)),slA qg ((tl.drop P).take (tl.length - P))] (I (ww (wrP l tl) P (l.length - P) : Nat)):=by
     rw [show tl.length = l.length by omega]
     exact zha (T0:=T0) l tl P l.length (l.length - P) rfl (Nat.le_refl _) (by omega) (by omega) (by omega)
    have c6:=zhb (T0:=T0) tl P (P - P % w' + w') (w' - P % w') (by omega) (by omega) (by omega) (by omega)
    have c7:=zha (T0:=T0) l tl P (P - P % w' + w') (w' - P % w') (by omega) (by omega) (by omega) (by omega) (by omega)
    have hat:=zng (l:=tl) (i:=P) (by omega)
    change tl[P]? = some (cAt tl P) at hat
    unfold vw
    have b1:=zar (wrP l tl) P (l.length - P)
    have b2:=zar (wrP l tl) P (w' - P % w')
    clear hf q1 q2 hk
    generalize zkv tl P (l.length - P) = v1 at *
    generalize zkv tl P (w' - P % w') = v2 at *
    generalize ww (wrP l tl) P (l.length - P) = n1 at *
    generalize ww (wrP l tl) P (w' - P % w') = n2 at *
    generalize cAt tl P = tc at *
    obtain ⟨t1,t2⟩:=tc
    by_cases q8 : v1 = true ∧ 8 ≤ n1
    ·rw [if_pos q8]
     obtain ⟨rfl,q8⟩:=q8
     refine za Tryz.func14 rfl (by decide) Tryz.ntmps14 rfl ?_
     repeat' (first
     |refine z65 ?_ | (refine zb ?_ ?_ <;> intro hb <;> try exact no_) | (refine sx_ ?_ <;> intro bb) | (refine su_ ?_ <;> intro u hu1 hu2) | fail)
     all_goals first | exact zne | skip
    ·rw [if_neg q8]
     by_cases q7 : v2 = true ∧ 4 ≤ n2
     ·rw [if_pos q7]
      obtain ⟨rfl,q7⟩:=q7
      refine za Tryz.func14 rfl (by decide) Tryz.ntmps14 rfl ?_
      repeat' (first
      |refine z65 ?_ | (refine zb ?_ ?_ <;> intro hb <;> try exact no_) | (refine sx_ ?_ <;> intro bb) | (refine su_ ?_ <;> intro u hu1 hu2) | fail)
      all_goals first | exact zne | skip
     ·rw [if_neg q7]
      refine za Tryz.func14 rfl (by decide) Tryz.ntmps14 rfl ?_
      repeat' (first
      |refine z65 ?_ | (refine zb ?_ ?_ <;> intro hb <;> try exact no_) | (refine sx_ ?_ <;> intro bb) | (refine su_ ?_ <;> intro u hu1 hu2) | fail)
      all_goals first | exact zne | skip
   ·rw [q1,if_pos rfl]
    generalize qq ((w' : Int),(h' : Int),l,x,y,b,s) (P % w' : Nat) (P / w' : Nat) = z at *
    obtain ⟨⟨k,a,d,r⟩,e⟩:=z
    simp only at q2
    subst q2
    clear hf
    refine za Tryz.func14 rfl (by decide) Tryz.ntmps14 rfl ?_
    repeat' (first
    |refine z65 ?_ | (refine zb ?_ ?_ <;> intro hb <;> try exact no_) | (refine sx_ ?_ <;> intro bb) | (refine su_ ?_ <;> intro u hu1 hu2) | fail)
    all_goals first | exact zne | skip
 ·rw [decide_eq_false hf] at c1
  rw [zqf hf]
  clear hf
  refine za Tryz.func14 rfl (by decide) Tryz.ntmps14 rfl ?_
  repeat' (first
  |refine z65 ?_ | (refine zb ?_ ?_ <;> intro hb <;> try exact no_) | (refine sx_ ?_ <;> intro bb) | (refine su_ ?_ <;> intro u hu1 hu2) | fail)
  all_goals first | exact zne | skip
end Go.Proofs.YtgfmjmfphmjdkaaGreatDoor
