/- Layer 27 (belief): the reference: are two beliefs the same. No condition. -/
import Derived.Test.YtgfmjmfphmjdkaaGreatDoorR1B9
import Derived.Test.YtgfmjmfphmjdkaaGreatDoorR1H4
import Derived.Test.YtgfmjmfphmjdkaaGreatDoorR1BE
import Derived.Test.YtgfmjmfphmjdkaaGreatDoorR1BF
set_option linter.unusedSimpArgs false
set_option linter.unusedVariables false
set_option linter.unusedSectionVars false
namespace Go.Proofs.YtgfmjmfphmjdkaaGreatDoor
set_option maxHeartbeats 4000000
open Go Go.RowKit
set_option maxRecDepth 100000
noncomputable def znq (a b : Bel) : Bool:=@decide (a = b) (Classical.propDecidable _)
theorem zgi {a b : Bel} : znq a b = true ↔ a = b:=@decide_eq_true_iff _ (Classical.propDecidable _)
theorem zse (a : Bel) : znq a a = true:=zgi.2 rfl
theorem zzz {a b : Bel} (h : a ≠ b) : znq a b = false:=by
 cases e : znq a b with
 |true=>exact absurd (zgi.1 e) h
 |false=>rfl
variable {T0 : Gh} [TabS T0]
attribute [local irreducible] z_ zg AW AL AO QY qd zx rsA Opd xi vA gvA zt z0 slA jc ipA rpA EqK LnK IxK LdK FaK FdK
theorem zok (w h : Int) (l : List zi) (x y : Int) (b s : Bool) (w' h' : Int) (l' : List zi) (x' y' : Int) (b' s' : Bool) (hn : l.length ≤ 100000) : AP Tryz.prog T0 86 [jb w h l x y b s,jb w' h' l' x' y' b' s'] (B (znq (w,h,l,x,y,b,s) (w',h',l',x',y',b',s'))):=by
 by_cases h0 : w = w' ∧ h = h' ∧ l.length = l'.length ∧ x = x' ∧ y = y' ∧ b = b' ∧ s = s'
 ·obtain ⟨rfl,rfl,hl,rfl,rfl,rfl,rfl⟩:=h0
  have e : znq (w,h,l,x,y,b,s) (w,h,l',x,y,b,s) = decide (l = l'):=by
   rw [Bool.eq_iff_iff,zgi,decide_eq_true_eq]; simp
  rw [e]
  refine za Tryz.func86 rfl (by decide) Tryz.ntmps86 rfl ?_
  repeat' (first
  |refine z97 ?_ | (refine zb ?_ ?_ <;> intro hb <;> try exact no_) | (refine sx_ ?_ <;> intro bb) | (refine su_ ?_ <;> intro u hu1 hu2) | fail)
  all_goals first | (exfalso; simp at hb; omega) | skip
  refine yk (fun k : Nat=>[(5,I k)]) (fun k=>k ≤ l.length ∧ ∀ j,j < k → gAt l j = gAt l' j) (fun k=>l.length - k) 0 ⟨Nat.zero_le _,fun _ k=>absurd k (Nat.not_lt_zero _)⟩ ?_
  rintro k ⟨k1,k2⟩
  by_cases hlt : k < l.length
  ·repeat' (first
   |refine z97 ?_ | (refine zb ?_ ?_ <;> intro hb <;> try exact no_) | (refine sx_ ?_ <;> intro bb) | (refine su_ ?_ <;> intro u hu1 hu2) | fail)
   all_goals first | exact e1_ | skip
   ·refine ⟨_,[],rl_,List.nil_sublist _,Sub.eq (congrArg B ?_),rfl⟩
    rw [eq_comm,decide_eq_false_iff_not]
    rintro rfl
    exact hb rfl
   ·refine ⟨k + 1,⟨by omega,fun j hj => ?_⟩,by omega,wx_,sl_⟩
    by_cases e : j = k
    ·subst e
     first | exact hb | exact Classical.byContradiction fun z=>hb z | exact Classical.not_not.1 hb
    ·exact k2 j (by omega)
  ·have hall : decide (l = l') = true:=decide_eq_true (zwf hl fun j hj=>k2 j (by omega))
   rw [hall]
   repeat' (first
   |refine z97 ?_ | (refine zb ?_ ?_ <;> intro hb <;> try exact no_) | (refine sx_ ?_ <;> intro bb) | (refine su_ ?_ <;> intro u hu1 hu2) | fail)
   all_goals first | exact e1_ | skip
   exact ⟨_,[],rl_,List.nil_sublist _,Sub.refl _,rfl⟩
 ·have e : znq (w,h,l,x,y,b,s) (w',h',l',x',y',b',s') = false:=by
   refine zzz fun z => ?_
   simp only [Prod.mk.injEq] at z
   obtain ⟨rfl,rfl,rfl,rfl,rfl,rfl,rfl⟩:=z
   exact h0 ⟨rfl,rfl,rfl,rfl,rfl,rfl,rfl⟩
  rw [e]
  refine za Tryz.func86 rfl (by decide) Tryz.ntmps86 rfl ?_
  repeat' (first
  |refine z97 ?_ | (refine zb ?_ ?_ <;> intro hb <;> try exact no_) | (refine sx_ ?_ <;> intro bb) | (refine su_ ?_ <;> intro u hu1 hu2) | fail)
  all_goals first | exact ⟨_,[],rl_,List.nil_sublist _,Sub.refl _,rfl⟩ | skip
  exfalso
  obtain ⟨⟨⟨⟨⟨⟨q1,q2⟩,q3⟩,q4⟩,q5⟩,q6⟩,q7⟩:=hb
  exact h0 ⟨q1,q2,by omega,q4,q5,by simpa using q6,by simpa using q7⟩
end Go.Proofs.YtgfmjmfphmjdkaaGreatDoor
namespace Go.Proofs.YtgfmjmfphmjdkaaGreatDoor
set_option maxHeartbeats 4000000
open Go Go.RowKit
set_option maxRecDepth 100000
variable {T0 : Gh} [TabS T0]
attribute [local irreducible] z_ zg AW AL AO QY qd zx rsA Opd xi vA gvA zt z0 slA jc ipA rpA EqK LnK IxK LdK FaK FdK
theorem zma (w h : Int) (l : List zi) (x y : Int) (b s : Bool) (c : Cmd) : AP Tryz.prog T0 135 [jb w h l x y b s,vi c] (zt [I (xv (w,h,l,x,y,b,s) c).1,I (xv (w,h,l,x,y,b,s) c).2]):=by
 have c1:=kd (T0:=T0) w h l x y b s
 have c2:=js (T0:=T0) c
 have c3:=v7 (T0:=T0) c.1
 by_cases h0 : vr w h l x y b s = true ∧ z9 c = true ∧ chg c.1 = true
 ·obtain ⟨hok,hc,hg⟩:=h0
  rw [hok] at c1
  rw [hc] at c2
  rw [hg] at c3
  obtain ⟨hl,hl2,hw⟩:=zj7 hok
  have hwh : 0 ≤ w * h ∧ w * h ≤ 1920:=by omega
  have hk : (∃ r,c = (1,0,0,r) ∧ xq r = true) ∨ c = (7,0,0,0) ∨ c = (8,0,0,0) ∨ c = (10,0,0,0):=by
   rcases wx hc with ⟨r,rfl,hs⟩ | ⟨a,d,rfl,_⟩ | ⟨k,a,rfl,hk,_⟩ | ⟨k,rfl,hk⟩
   ·exact .inl ⟨r,rfl,hs⟩
   ·simp [chg] at hg
   ·simp [chg] at hg; omega
   ·simp [chg] at hg
    rcases hg with ((q | q) | q) | q
    ·omega
    ·exact .inr (.inl (by rw [q]))
    ·exact .inr (.inr (.inl (by rw [q])))
    ·exact .inr (.inr (.inr (by rw [q])))
  have hx : -1000 ≤ x ∧ x ≤ 1000:=by
   obtain ⟨w',h',e1,e2,w2,w3,w4,w5,_,_,p1,p2⟩:=qn.1 hok
   cases s with
   |true=>have:=p1 rfl; omega
   |false=>have:=p2 rfl; omega
  have c4:=zg7 (T0:=T0) w h l x y b s c hx (by omega)
  cases s with
  |false =>
   have e : xv (w,h,l,x,y,b,false) c = (0,w * h):=by
    unfold xv; rw [if_neg (fun z=>z ⟨hok,hc,hg⟩),if_pos (.inl rfl)]
   rw [e]
   have c5 : True:=trivial
   generalize zq w x b c = v at *
   obtain ⟨k,a,d,r⟩:=c
   refine za Tryz.func135 rfl (by decide) Tryz.ntmps135 rfl ?_
   repeat' (first
   |refine zk7 ?_ | (refine zb ?_ ?_ <;> intro hb <;> try exact no_) | (refine sx_ ?_ <;> intro bb) | (refine su_ ?_ <;> intro u hu1 hu2) | fail)
   all_goals first | exact e9_ | skip
  |true =>
   obtain ⟨_,hx2,_,_,hm,_,_⟩:=uv hok
   have hm2:=yw (w:=w) (h:=h) (y:=y) (by omega) (by omega) (by omega)
   have hmul : (y + 1) * w = y * w + w:=by rw [Int.add_mul,Int.one_mul]
   have te : xv (w,h,l,x,y,b,true) c = if zq w x b c = true ∧ y = h - 1 then (0,w * h) else if c.1 = 10 then (0,0) else
     ((if zq w x b c = true then y + 1 else y) * w + max ((if zq w x b c = true then 0 else x) - 1) 0,if c.1 = 7 then ((if zq w x b c = true then y + 1 else y) + 1) * w else if c.1 = 8 then w * h else (if zq w x b c = true then y + 1 else y) * w + min w ((if zq w x b c = true then 0 else x) + (zh c.2.2.2).length + 1)):=by
    unfold xv; rw [if_neg (fun z=>z ⟨hok,hc,hg⟩)]
    by_cases q : zq w x b c = true ∧ y = h - 1
    ·rw [if_pos (.inr q),if_pos q]
    ·rw [if_neg (fun z=>by rcases z with z | z; cases z; exact q z),if_neg q]
   rw [te]
   clear te
   rcases hk with ⟨r,rfl,hs⟩ | rfl | rfl | rfl
   ·have hn:=j6 hs
    have c5:=yq (T0:=T0) r
    have gd : zq w x b (1,0,0,r) = true ↔ (b = true ∨ w < x + (zh r).length):=by simp [zq]
    dsimp only
    cases hq : zq w x b (1,0,0,r) with
    |true =>
     rw [hq] at c4
     by_cases e2 : y = h - 1
     ·rw [if_pos ⟨rfl,e2⟩]
      rw [show decide (y = h - 1) = true from decide_eq_true e2] at c4
      clear gd hq
      generalize zh r = cs at *
      refine za Tryz.func135 rfl (by decide) Tryz.ntmps135 rfl ?_
      repeat' (first
      |refine zk7 ?_ | (refine zb ?_ ?_ <;> intro hb <;> try exact no_) | (refine sx_ ?_ <;> intro bb) | (refine su_ ?_ <;> intro u hu1 hu2) | fail)
      all_goals first | exact e9_ | skip
     ·have hm3:=yw (w:=w) (h:=h) (y:=y + 1) (by omega) (by omega) (by omega)
      rw [if_neg (fun z=>e2 z.2),if_neg (show ¬ ((1 : Int) = 10) by decide),if_pos rfl,if_pos rfl,if_neg (show ¬ ((1 : Int) = 7) by decide),if_neg (show ¬ ((1 : Int) = 8) by decide)]
      rw [show decide (y = h - 1) = false from decide_eq_false e2] at c4
      clear gd hq
      dsimp only
      generalize zh r = cs at *
      refine za Tryz.func135 rfl (by decide) Tryz.ntmps135 rfl ?_
      repeat' (first
      |refine zk7 ?_ | (refine zb ?_ ?_ <;> intro hb <;> try exact no_) | (refine sx_ ?_ <;> intro bb) | (refine su_ ?_ <;> intro u hu1 hu2) | fail)
      all_goals first | exact e9_ | skip
    |false =>
     rw [hq] at c4
     rw [if_neg (fun z=>by cases z.1),if_neg (show ¬ ((1 : Int) = 10) by decide),if_neg (by decide),if_neg (by decide),if_neg (show ¬ ((1 : Int) = 7) by decide),if_neg (show ¬ ((1 : Int) = 8) by decide)]
     clear gd hq
     dsimp only
     generalize zh r = cs at *
     refine za Tryz.func135 rfl (by decide) Tryz.ntmps135 rfl ?_
     repeat' (first
     |refine zk7 ?_ | (refine zb ?_ ?_ <;> intro hb <;> try exact no_) | (refine sx_ ?_ <;> intro bb) | (refine su_ ?_ <;> intro u hu1 hu2) | fail)
     all_goals first | exact e9_ | skip
   ·have c5 : True:=trivial
    have gn : zq w x b (7,0,0,0) = false:=by simp [zq]
    rw [gn] at c4 ⊢
    rw [if_neg (fun z=>by cases z.1),if_neg (by decide),if_neg (by decide),if_neg (by decide),if_pos rfl]
    clear gn
    refine za Tryz.func135 rfl (by decide) Tryz.ntmps135 rfl ?_
    repeat' (first
    |refine zk7 ?_ | (refine zb ?_ ?_ <;> intro hb <;> try exact no_) | (refine sx_ ?_ <;> intro bb) | (refine su_ ?_ <;> intro u hu1 hu2) | fail)
    all_goals first | exact e9_ | skip
   ·have c5 : True:=trivial
    have gn : zq w x b (8,0,0,0) = false:=by simp [zq]
    rw [gn] at c4 ⊢
    rw [if_neg (fun z=>by cases z.1),if_neg (by decide),if_neg (by decide),if_neg (by decide),if_neg (by decide),if_pos rfl]
    clear gn
    refine za Tryz.func135 rfl (by decide) Tryz.ntmps135 rfl ?_
    repeat' (first
    |refine zk7 ?_ | (refine zb ?_ ?_ <;> intro hb <;> try exact no_) | (refine sx_ ?_ <;> intro bb) | (refine su_ ?_ <;> intro u hu1 hu2) | fail)
    all_goals first | exact e9_ | skip
   ·have c5 : True:=trivial
    have gp : zq w x b (10,0,0,0) = true:=by simp [zq]
    rw [gp] at c4 ⊢
    by_cases e2 : y = h - 1
    ·rw [if_pos ⟨rfl,e2⟩]
     rw [show decide (y = h - 1) = true from decide_eq_true e2] at c4
     clear gp
     refine za Tryz.func135 rfl (by decide) Tryz.ntmps135 rfl ?_
     repeat' (first
     |refine zk7 ?_ | (refine zb ?_ ?_ <;> intro hb <;> try exact no_) | (refine sx_ ?_ <;> intro bb) | (refine su_ ?_ <;> intro u hu1 hu2) | fail)
     all_goals first | exact e9_ | skip
    ·rw [if_neg (fun z=>e2 z.2),if_pos rfl]
     rw [show decide (y = h - 1) = false from decide_eq_false e2] at c4
     clear gp
     refine za Tryz.func135 rfl (by decide) Tryz.ntmps135 rfl ?_
     repeat' (first
     |refine zk7 ?_ | (refine zb ?_ ?_ <;> intro hb <;> try exact no_) | (refine sx_ ?_ <;> intro bb) | (refine su_ ?_ <;> intro u hu1 hu2) | fail)
     all_goals first | exact e9_ | skip
 ·have e : xv (w,h,l,x,y,b,s) c = (0,0):=by unfold xv; rw [if_pos h0]
  rw [e]
  have c4 : True:=trivial
  have c5 : True:=trivial
  generalize vr w h l x y b s = v1 at *
  generalize z9 c = v2 at *
  generalize chg c.1 = v3 at *
  obtain ⟨k,a,d,r⟩:=c
  refine za Tryz.func135 rfl (by decide) Tryz.ntmps135 rfl ?_
  repeat' (first
  |refine zk7 ?_ | (refine zb ?_ ?_ <;> intro hb <;> try exact no_) | (refine sx_ ?_ <;> intro bb) | (refine su_ ?_ <;> intro u hu1 hu2) | fail)
  all_goals first | exact ⟨_,[],rl_,List.nil_sublist _,Sub.refl _,rfl⟩ | (exfalso; exact h0 ⟨hb.1.1,hb.1.2,hb.2⟩) | skip
theorem zwn (l : List zi) (f k : Nat) (hk : f + k < l.length) : (zd7 l f (f + k)).set (f + k) wg = zd7 l f (f + (k + 1)):=by
 unfold zd7
 rw [show f + k - f = k by omega,show f + (k + 1) - f = k + 1 by omega]
 have:=wc l f (List.replicate (k + 1) wg) k wg (by simp) (by simp; omega)
 rw [List.take_replicate,List.take_replicate,show min k (k + 1) = k by omega,Nat.min_self] at this
 exact this
theorem zid (w h : Int) (l : List zi) (x y : Int) (b s : Bool) (f t : Nat) (cur : Bool) (h1 : vr w h l x y b s = true) (h2 : f ≤ t) (h3 : t ≤ l.length) : AF Tryz.prog T0 99 [jb w h l x y b s,I f,I t,B cur] [] (fun A M' => ∃ u,A = z0 [I w,I h,vA u,I (if cur then 0 else x),I (if cur then 0 else y),B (if cur then false else b),B (if cur then false else s)] ∧ M' = [gsO u (zd7 l f t)]):=by
 obtain ⟨hl,hl2,hw⟩:=zgp h1
 have c1 : AP Tryz.prog T0 89 [jb w h l x y b s] (B true):=(kd w h l x y b s).to (by rw [h1])
 have c2 : True:=trivial
 have c3 : True:=trivial
 have c4 : True:=trivial
 have c5 : True:=trivial
 have co:=za8 (T0:=T0) w h l x y b s (by omega)
 refine za Tryz.func99 rfl (by decide) Tryz.ntmps99 rfl ?_
 repeat' (first
 |(apply zj rfl rfl rfl rfl (c:=co)
   case ha=>exact os_
   rintro _ _ ⟨u,rfl,rfl⟩; refine zu (List.Mem.head _) fun hu1 hu2 => ?_)
 |refine z8l ?_ | (refine zb ?_ ?_ <;> intro hb <;> try exact no_) | (refine sx_ ?_ <;> intro bb) | (refine su_ ?_ <;> intro u hu1 hu2) | fail)
 all_goals first | (exfalso; simp at hb; done) | (exfalso; simp at hb; omega) | (exfalso; omega) | skip
 refine zk0 (d:=fun k : Nat=>[(10,I ((f + k : Nat) : Int))]) (g:=fun k=>zd7 l f (f + k)) (fun k=>f + k ≤ t) (fun k=>t - (f + k)) 0 (by omega) ?_ ?_
 ·unfold zd7; rw [Nat.add_zero,Nat.sub_self]; simp [ovr]
 rintro k k1
 have hl4 : (zd7 l f (f + k)).length = l.length:=zke (by omega) (by omega)
 by_cases hlt : f + k < t
 ·have hst:=zwn l f k (by omega)
  generalize zd7 l f (f + k) = L0 at *
  repeat' (first
  |(apply zj rfl rfl rfl rfl (c:=co)
    case ha=>exact os_
    rintro _ _ ⟨u,rfl,rfl⟩; refine zu (List.Mem.head _) fun hu1 hu2 => ?_)
  |refine z8l ?_ | (refine zb ?_ ?_ <;> intro hb <;> try exact no_) | (refine sx_ ?_ <;> intro bb) | (refine su_ ?_ <;> intro u hu1 hu2) | fail)
  all_goals first | exact e1_ | skip
  refine ⟨k + 1,by omega,by omega,wx_, ?_⟩
  rw [← hst]; exact sl_
 ·rw [show f + k = t by omega] at hl4 ⊢
  generalize zd7 l f t = L0 at *
  cases cur with
  |true =>
   repeat' (first
   |(apply zj rfl rfl rfl rfl (c:=co)
     case ha=>exact os_
     rintro _ _ ⟨u,rfl,rfl⟩; refine zu (List.Mem.head _) fun hu1 hu2 => ?_)
   |refine z8l ?_ | (refine zb ?_ ?_ <;> intro hb <;> try exact no_) | (refine sx_ ?_ <;> intro bb) | (refine su_ ?_ <;> intro u hu1 hu2) | fail)
   all_goals first | exact e7_ | skip
  |false =>
   repeat' (first
   |(apply zj rfl rfl rfl rfl (c:=co)
     case ha=>exact os_
     rintro _ _ ⟨u,rfl,rfl⟩; refine zu (List.Mem.head _) fun hu1 hu2 => ?_)
   |refine z8l ?_ | (refine zb ?_ ?_ <;> intro hb <;> try exact no_) | (refine sx_ ?_ <;> intro bb) | (refine su_ ?_ <;> intro u hu1 hu2) | fail)
   all_goals first | exact e7_ | skip
theorem zkh (w h : Int) (l : List zi) (x y : Int) (b s : Bool) (f t : Int) (cur : Bool) : AP Tryz.prog T0 99 [jb w h l x y b s,I f,I t,B cur] (blA (qt (w,h,l,x,y,b,s) f t cur)):=by
 by_cases q : vr w h l x y b s = true ∧ 0 ≤ f ∧ f ≤ t ∧ t ≤ l.length
 ·obtain ⟨q0,q1,q2,q3⟩:=q
  obtain ⟨f,rfl⟩:=Int.eq_ofNat_of_zero_le q1
  obtain ⟨t,rfl⟩:=Int.eq_ofNat_of_zero_le (show 0 ≤ t by omega)
  have key:=(zid (T0:=T0) w h l x y b s f t cur q0 (by omega) (by omega)).frz1 ze8
  have e : qt (w,h,l,x,y,b,s) f t cur = (w,h,zd7 l f t,if cur then 0 else x,if cur then 0 else y,if cur then false else b,if cur then false else s):=by
   unfold qt
   rw [if_neg (fun z=>z ⟨q0,q1,q2,q3⟩)]
   cases cur <;> rfl
  rw [e]; exact key
 ·have e : qt (w,h,l,x,y,b,s) f t cur = (w,h,l,x,y,b,s):=by unfold qt; rw [if_pos q]
  rw [e]
  have c2 : True:=trivial
  have c3 : True:=trivial
  have c4 : True:=trivial
  have c5 : True:=trivial
  have co : True:=trivial
  cases hv : vr w h l x y b s with
  |false =>
   have c1 : AP Tryz.prog T0 89 [jb w h l x y b s] (B false):=(kd w h l x y b s).to (by rw [hv])
   refine za Tryz.func99 rfl (by decide) Tryz.ntmps99 rfl ?_
   repeat' (first
   |(apply zj rfl rfl rfl rfl (c:=co)
     case ha=>exact os_
     rintro _ _ ⟨u,rfl,rfl⟩; refine zu (List.Mem.head _) fun hu1 hu2 => ?_)
   |refine zle ?_ (hc:=z1y) | refine sa_ ?_ | refine zw ?_ (c:=by first | exact c1 | exact c2 | exact c3 | exact c4 | exact c5 | fail) | refine xr ?_ (hy:=by first | exact zau rfl qe qe | fail) | refine x5 ?_ | refine zk ?_ (c:=by intro hk hk2; first | exact c1 | exact c2 | exact c3 | exact c4 | exact c5 | fail) | refine qc ?_ (hy:=by intro hk hk2; first | exact zau rfl qe qe | fail) | refine sw_ ?_ | (refine zb ?_ ?_ <;> intro hb <;> try exact no_) | (refine sx_ ?_ <;> intro bb) | (refine su_ ?_ <;> intro u hu1 hu2) | fail)
   all_goals first | exact z7c | skip
  |true =>
   have c1 : AP Tryz.prog T0 89 [jb w h l x y b s] (B true):=(kd w h l x y b s).to (by rw [hv])
   obtain ⟨hl,hl2,hw⟩:=zgp hv
   have hq : ¬ (0 ≤ f ∧ f ≤ t ∧ t ≤ l.length):=fun z=>q ⟨hv,z⟩
   refine za Tryz.func99 rfl (by decide) Tryz.ntmps99 rfl ?_
   repeat' (first
   |(apply zj rfl rfl rfl rfl (c:=co)
     case ha=>exact os_
     rintro _ _ ⟨u,rfl,rfl⟩; refine zu (List.Mem.head _) fun hu1 hu2 => ?_)
   |refine z8l ?_ | (refine zb ?_ ?_ <;> intro hb <;> try exact no_) | (refine sx_ ?_ <;> intro bb) | (refine su_ ?_ <;> intro u hu1 hu2) | fail)
   all_goals first | exact ⟨_,[],rl_,List.nil_sublist _,Sub.refl _,rfl⟩ | (exfalso; omega) | skip
end Go.Proofs.YtgfmjmfphmjdkaaGreatDoor
