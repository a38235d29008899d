/- Layer 29 (paint): what is told next, by the reference. No condition. -/
import Derived.Test.YtgfmjmfphmjdkaaGreatDoorR1LA
import Derived.Test.YtgfmjmfphmjdkaaGreatDoorR1O2
import Derived.Test.YtgfmjmfphmjdkaaGreatDoorR1O4
set_option linter.unusedSimpArgs false
set_option linter.unusedVariables false
set_option linter.unusedSectionVars false
namespace Go.Proofs.YtgfmjmfphmjdkaaGreatDoor
set_option maxHeartbeats 4000000
open Go Go.RowKit
set_option maxRecDepth 200000
variable {T0 : Gh} [TabS T0]
attribute [local irreducible] z_ zg AW AL AO QY qd zx rsA Opd xi vA gvA zt z0 slA jc ipA rpA EqK LnK IxK LdK FaK FdK
theorem zoh (w h : Int) (l : List zi) (x y : Int) (b s : Bool) (tw th : Int) (tl : List zp) (tx ty : Int) (tb : Bool) : AP Tryz.prog T0 15 [jb w h l x y b s,xp tw th tl tx ty tb] (zt [vi (zy (w,h,l,x,y,b,s) (tw,th,tl,tx,ty,tb)).1,I (zy (w,h,l,x,y,b,s) (tw,th,tl,tx,ty,tb)).2]):=by
 have c1:=zmf (T0:=T0) w h l x y b s tw th tl tx ty tb
 have hat : True:=trivial
 have c2 : True:=trivial
 have c3 : True:=trivial
 have c4 : True:=trivial
 have c5 : True:=trivial
 have c6 : True:=trivial
 have c7 : True:=trivial
 by_cases hf : q9 (w,h,l,x,y,b,s) (tw,th,tl,tx,ty,tb)
 ·rw [decide_eq_true hf] at c1
  obtain ⟨w',h',_,_,_,_,_,_,_,_,e1,e2,w2,w3,_,w5,hl,hcl,hk,hX,hY⟩:=yo hf
  simp only [Prod.mk.injEq] at e1 e2
  obtain ⟨rfl,rfl,rfl,rfl,rfl,rfl,rfl⟩:=e1
  obtain ⟨rfl,rfl,rfl,rfl,rfl,rfl⟩:=e2
  have hwh : w' * h' ≤ 1920:=vb w3 w5
  have hF:=yb ((w' : Int),(h' : Int),l,x,y,b,s) ((w' : Int),(h' : Int),tl,tx,ty,false)
  have hpos:=z5m hf
  have hend:=zlw hf
  have hmid:=zlv hf
  have hplc : za3 ((w' : Int),(h' : Int),l,x,y,b,s) ((w' : Int),(h' : Int),tl,tx,ty,false) = if (cAt tl (vm ((w' : Int),(h' : Int),l,x,y,b,s) ((w' : Int),(h' : Int),tl,tx,ty,false))).2 = 2 then vm ((w' : Int),(h' : Int),l,x,y,b,s) ((w' : Int),(h' : Int),tl,tx,ty,false) - 1 else vm ((w' : Int),(h' : Int),l,x,y,b,s) ((w' : Int),(h' : Int),tl,tx,ty,false):=rfl
  have hok:=hf.1
  clear hf
  generalize za3 ((w' : Int),(h' : Int),l,x,y,b,s) ((w' : Int),(h' : Int),tl,tx,ty,false) = P at *
  generalize vm ((w' : Int),(h' : Int),l,x,y,b,s) ((w' : Int),(h' : Int),tl,tx,ty,false) = F at *
  generalize zy ((w' : Int),(h' : Int),l,x,y,b,s) ((w' : Int),(h' : Int),tl,tx,ty,false) = z at *
  simp only [Int.toNat_natCast] at hF hpos hend hmid hplc
  obtain ⟨F1,F2,F3⟩:=hF
  refine za Tryz.func15 rfl (by decide) Tryz.ntmps15 rfl ?_
  repeat' (first
  |refine zub ?_ | (refine zb ?_ ?_ <;> intro hb <;> try exact no_) | (refine sx_ ?_ <;> intro bb) | (refine su_ ?_ <;> intro u hu1 hu2) | fail)
  refine yk (fun k : Nat=>[(6,I k)]) (fun k=>k ≤ F) (fun k=>l.length - k) 0 (Nat.zero_le _) ?_
  rintro k k1
  rcases Nat.lt_or_ge k F with hlt | hge
  ·have c2:=zd9 (T0:=T0) w' h' l x y b s w' h' tl tx ty false k (by omega) (by omega)
   rw [F2 k hlt] at c2
   repeat' (first
   |refine zub ?_ | (refine zb ?_ ?_ <;> intro hb <;> try exact no_) | (refine sx_ ?_ <;> intro bb) | (refine su_ ?_ <;> intro u hu1 hu2) | fail)
   all_goals first | (exfalso; omega) | exact ⟨k + 1,by omega,by omega,wx_,sl_⟩ | skip
  ·obtain rfl : k = F:=by omega
   rcases Nat.lt_or_ge k l.length with hn | hn
   ·have c2:=zd9 (T0:=T0) w' h' l x y b s w' h' tl tx ty false k (by omega) (by omega)
    rw [F3 hn] at c2
    rw [hmid (by omega)]
    have hat:=zng (l:=tl) (i:=k) (by omega)
    change tl[k]? = some (cAt tl k) at hat
    have hpos1:=hpos hn
    have hP : P ≤ k:=by rw [hplc]; split <;> omega
    obtain ⟨r1,r2,r3⟩:=zns (h:=h') (show 0 < w' by omega) (p:=P) (by omega)
    have hm:=Nat.mod_lt P (show 0 < w' by omega)
    have hme:=Nat.mod_le P w'
    have hq : P / w' < h':=(Nat.div_lt_iff_lt_mul (by omega)).2 (by rw [Nat.mul_comm]; omega)
    have hnn : (0 : Int) ≤ ((P / w' : Nat) : Int):=Int.natCast_nonneg _
    have c3:=zof (T0:=T0) w' h' l x y b s (P % w' : Nat) (P / w' : Nat)
    have c4:=zg6 (T0:=T0) w' h' l x y b s (P % w' : Nat) (P / w' : Nat)
    have hat2:=zng (l:=tl) (i:=P) (by omega)
    change tl[P]? = some (cAt tl P) at hat2
    generalize hz2 : qq ((w' : Int),(h' : Int),l,x,y,b,s) (P % w' : Nat) (P / w' : Nat) = z2 at *
    obtain ⟨⟨k2,a2,d2,r2'⟩,e2⟩:=z2
    cases hv : zbx ((w' : Int),(h' : Int),l,x,y,b,s) (P % w' : Nat) (P / w' : Nat) with
    |false =>
     rw [hv] at c3
     rw [if_pos rfl]
     clear hz2 F2 F3 hend hmid hk
     generalize cAt tl k = tc at *
     obtain ⟨t1,t2⟩:=tc
     by_cases hk2 : t2 = 2
     ·rw [if_pos hk2] at hplc
      subst hplc
      repeat' (first
      |refine zub ?_ | (refine zb ?_ ?_ <;> intro hb <;> try exact no_) | (refine sx_ ?_ <;> intro bb) | (refine su_ ?_ <;> intro u hu1 hu2) | fail)
      all_goals first | exact zne | skip
     ·rw [if_neg hk2] at hplc
      subst hplc
      repeat' (first
      |refine zub ?_ | (refine zb ?_ ?_ <;> intro hb <;> try exact no_) | (refine sx_ ?_ <;> intro bb) | (refine su_ ?_ <;> intro u hu1 hu2) | fail)
      all_goals first | exact zne | skip
    |true =>
     rw [hv] at c3
     rw [if_neg (by decide)]
     have e0 : (P / w' + 1) * w' = P + (w' - P % w'):=by rw [r3,Nat.mul_comm]
     have c4:=zi3 (T0:=T0) w' h' tl tx ty false P (l.length - P) (by omega) (by omega)
     have c5:=zd_ (T0:=T0) w' h' l x y b s w' h' tl tx ty false P (l.length - P) (by omega) (by omega) (by omega)
     rw [show P + (l.length - P) = l.length by omega] at c4 c5
     have c6:=zi3 (T0:=T0) w' h' tl tx ty false P (w' - P % w') (by omega) (by omega)
     have c7:=zd_ (T0:=T0) w' h' l x y b s w' h' tl tx ty false P (w' - P % w') (by omega) (by omega) (by omega)
     rw [← e0] at c6 c7
     have b1:=zar (wrP l tl) P (l.length - P)
     have b2:=zar (wrP l tl) P (w' - P % w')
     have b3 : (P / w' + 1) * w' ≤ 1920:=by omega
     have b4 : P / w' ≤ P:=Nat.div_le_self _ _
     unfold vw
     clear hz2 F2 F3 hend hmid hk
     generalize zkv tl P (l.length - P) = v1 at *
     generalize zkv tl P (w' - P % w') = v2 at *
     generalize ww (wrP l tl) P (l.length - P) = n1 at *
     generalize ww (wrP l tl) P (w' - P % w') = n2 at *
     by_cases hk2 : (cAt tl k).2 = 2
     ·rw [if_pos hk2] at hplc
      subst hplc
      have hk3:=hpos1 hk2
      clear hpos1
      generalize cAt tl (k - 1) = tp at *
      generalize cAt tl k = tc at *
      obtain ⟨t1,t2⟩:=tc
      obtain ⟨p1,p2⟩:=tp
      simp only at hk2
      by_cases q8 : v1 = true ∧ 8 ≤ n1
      ·rw [if_pos q8]
       obtain ⟨rfl,q8⟩:=q8
       repeat' (first
       |refine zub ?_ | (refine zb ?_ ?_ <;> intro hb <;> try exact no_) | (refine sx_ ?_ <;> intro bb) | (refine su_ ?_ <;> intro u hu1 hu2) | fail)
       all_goals first | exact zne | skip
      ·rw [if_neg q8]
       by_cases q7 : v2 = true ∧ 4 ≤ n2
       ·rw [if_pos q7]
        obtain ⟨rfl,q7⟩:=q7
        repeat' (first
        |refine zub ?_ | (refine zb ?_ ?_ <;> intro hb <;> try exact no_) | (refine sx_ ?_ <;> intro bb) | (refine su_ ?_ <;> intro u hu1 hu2) | fail)
        all_goals first | exact zne | skip
       ·rw [if_neg q7]
        repeat' (first
        |refine zub ?_ | (refine zb ?_ ?_ <;> intro hb <;> try exact no_) | (refine sx_ ?_ <;> intro bb) | (refine su_ ?_ <;> intro u hu1 hu2) | fail)
        all_goals first | exact zne | skip
     ·rw [if_neg hk2] at hplc
      subst hplc
      clear hpos1
      generalize cAt tl P = tc at *
      obtain ⟨t1,t2⟩:=tc
      simp only at hk2
      by_cases q8 : v1 = true ∧ 8 ≤ n1
      ·rw [if_pos q8]
       obtain ⟨rfl,q8⟩:=q8
       repeat' (first
       |refine zub ?_ | (refine zb ?_ ?_ <;> intro hb <;> try exact no_) | (refine sx_ ?_ <;> intro bb) | (refine su_ ?_ <;> intro u hu1 hu2) | fail)
       all_goals first | exact zne | skip
      ·rw [if_neg q8]
       by_cases q7 : v2 = true ∧ 4 ≤ n2
       ·rw [if_pos q7]
        obtain ⟨rfl,q7⟩:=q7
        repeat' (first
        |refine zub ?_ | (refine zb ?_ ?_ <;> intro hb <;> try exact no_) | (refine sx_ ?_ <;> intro bb) | (refine su_ ?_ <;> intro u hu1 hu2) | fail)
        all_goals first | exact zne | skip
       ·rw [if_neg q7]
        repeat' (first
        |refine zub ?_ | (refine zb ?_ ?_ <;> intro hb <;> try exact no_) | (refine sx_ ?_ <;> intro bb) | (refine su_ ?_ <;> intro u hu1 hu2) | fail)
        all_goals first | exact zne | skip
   ·obtain rfl : k = l.length:=by omega
    rw [hend rfl]
    have c2 : ((l.length : Nat) : Int) < ((l.length : Nat) : Int) → AP Tryz.prog T0 56 [jb w' h' l x y b s,xp w' h' tl tx ty false,I l.length] (B false):=fun z=>absurd z (by omega)
    have c3:=zg6 (T0:=T0) w' h' l x y b s tx ty
    generalize qq ((w' : Int),(h' : Int),l,x,y,b,s) tx ty = z2 at *
    obtain ⟨⟨k2,a2,d2,r2⟩,e2⟩:=z2
    clear hk F2 F3 hend hmid
    repeat' (first
    |refine zub ?_ | (refine zb ?_ ?_ <;> intro hb <;> try exact no_) | (refine sx_ ?_ <;> intro bb) | (refine su_ ?_ <;> intro u hu1 hu2) | fail)
    all_goals first | exact zne | skip
 ·rw [decide_eq_false hf] at c1
  rw [zqf hf]
  clear hf
  refine za Tryz.func15 rfl (by decide) Tryz.ntmps15 rfl ?_
  repeat' (first
  |refine zub ?_ | (refine zb ?_ ?_ <;> intro hb <;> try exact no_) | (refine sx_ ?_ <;> intro bb) | (refine su_ ?_ <;> intro u hu1 hu2) | fail)
  all_goals first | exact zne | skip
end Go.Proofs.YtgfmjmfphmjdkaaGreatDoor
