/- Layer 27 (belief): Do, whatever it is given, by the program. No condition. -/
import Derived.Test.YtgfmjmfphmjdkaaGreatDoorR1BB
import Derived.Test.YtgfmjmfphmjdkaaGreatDoorR1AJ
set_option linter.unusedSimpArgs false
set_option linter.unusedVariables false
set_option linter.unusedSectionVars false
namespace Go.Proofs.YtgfmjmfphmjdkaaGreatDoor
set_option maxHeartbeats 4000000
open Go Go.RowKit
set_option maxRecDepth 100000
variable {T0 : Gh} [TabS T0]
attribute [local irreducible] z_ zg AW AL AO QY qd zx rsA Opd xi vA gvA zt z0 slA jc ipA rpA EqK LnK IxK LdK FaK FdK
theorem z1n {w h : Int} {l : List zi} {x y : Int} {b s : Bool} (h1 : vr w h l x y b s = true) (a d : Int) (ha : 0 ≤ a ∧ a < 24) (hd : 0 ≤ d ∧ d < 80) : zt5 T0 w h l x y b s (2,a,d,0) (inM d (w - 1)) (inM a (h - 1)) false l:=by
 have c1 : AP Tryz.prog T0 63 [jb w h l x y b s] (B true):=(wu w h l x y b s).to (by rw [h1])
 have c2 : AP Tryz.prog T0 65 [z0 [I 2,I a,I d,R 0]] (B true):=(wt (2,a,d,0)).to (by rw [z8d ha hd])
 have c3 : True:=trivial
 have c4 : AP Tryz.prog T0 66 [I 2] (B false):=(ug 2).to (by rfl)
 show AF _ _ _ [_,z0 [I 2,I a,I d,R 0]] _ _
 cases s with
 |true =>
  obtain ⟨hw,hx,hl,hl2,hm,hg,hl3⟩:=uv h1
  have co:=zea (T0:=T0) w h l x y b true (by omega)
  refine za Tryz.func19 rfl (by decide) Tryz.ntmps19 rfl ?_
  repeat' (first
  |(apply zj rfl rfl rfl rfl (c:=co)
    case ha=>exact os_
    rintro _ _ ⟨u,rfl,rfl⟩; refine zu (List.Mem.head _) fun hu1 hu2 => ?_)
  |refine z25 ?_
   |refine xr ?_ (hy:=by first | (apply ze rfl; exact oo_; done) | (apply ze rfl; exact qe; done)
                                 |(apply zn rfl; exact oo_; exact oo_) | (apply zz rfl; exact oo_; exact oo_) | fail)
  |refine z24 ?_
   |refine qc ?_ (hy:=by intro hk hk2; first | (apply ze rfl; exact oo_; done) | (apply ze rfl; exact qe; done)
                                               |(apply zn rfl; exact oo_; exact oo_) | (apply zz rfl; exact oo_; exact oo_) | fail)
  |refine sw_ ?_ | (refine zb ?_ ?_ <;> intro hb <;> try exact no_) | (refine sx_ ?_ <;> intro bb) | (refine su_ ?_ <;> intro u hu1 hu2) | fail)
  all_goals first | (exfalso; simp at hb; done) | exact ⟨_,[gsO u _],rl_,sl_,u,rfl,rfl⟩ | skip
 |false =>
  obtain ⟨w',h',e1,e2,w2,w3,w4,w5,hl,hk,p1,p2⟩:=qn.1 h1
  obtain ⟨rfl,rfl,rfl⟩:=p2 rfl
  have:=vb w3 w5
  have co:=zea (T0:=T0) w h l 0 0 false false (by omega)
  have hm : 0 * w = 0:=Int.zero_mul w
  refine za Tryz.func19 rfl (by decide) Tryz.ntmps19 rfl ?_
  repeat' (first
  |(apply zj rfl rfl rfl rfl (c:=co)
    case ha=>exact os_
    rintro _ _ ⟨u,rfl,rfl⟩; refine zu (List.Mem.head _) fun hu1 hu2 => ?_)
  |refine z25 ?_
   |refine xr ?_ (hy:=by first | (apply ze rfl; exact oo_; done) | (apply ze rfl; exact qe; done)
                                 |(apply zn rfl; exact oo_; exact oo_) | (apply zz rfl; exact oo_; exact oo_) | fail)
  |refine z24 ?_
   |refine qc ?_ (hy:=by intro hk hk2; first | (apply ze rfl; exact oo_; done) | (apply ze rfl; exact qe; done)
                                               |(apply zn rfl; exact oo_; exact oo_) | (apply zz rfl; exact oo_; exact oo_) | fail)
  |refine sw_ ?_ | (refine zb ?_ ?_ <;> intro hb <;> try exact no_) | (refine sx_ ?_ <;> intro bb) | (refine su_ ?_ <;> intro u hu1 hu2) | fail)
  all_goals first | (exfalso; simp at hb; done) | exact ⟨_,[gsO u _],rl_,sl_,u,rfl,rfl⟩ | skip
theorem z8z (w h : Int) (l : List zi) (x y : Int) (b s : Bool) (c : Cmd) : AP Tryz.prog T0 19 [jb w h l x y b s,vi c] (zt [blA (doB (w,h,l,x,y,b,s) c).1,I (doB (w,h,l,x,y,b,s) c).2]):=by
 have co : True:=trivial
 by_cases hh : vr w h l x y b s = true ∧ z9 c = true
 ·obtain ⟨hok,hc⟩:=hh
  have c1 : AP Tryz.prog T0 63 [jb w h l x y b s] (B true):=(wu w h l x y b s).to (by rw [hok])
  have c2 : AP Tryz.prog T0 65 [vi c] (B true):=(wt c).to (by rw [hc])
  by_cases q1 : s = false ∧ chg c.1 = true
  ·have e : doB (w,h,l,x,y,b,s) c = yg w h:=by unfold doB; rw [if_pos ⟨hok,hc⟩,if_pos q1]
   rw [e]
   obtain ⟨rfl,q1⟩:=q1
   have c3:=zkm (T0:=T0) w h
   have c4 : AP Tryz.prog T0 66 [I c.1] (B true):=(ug c.1).to (by rw [q1])
   generalize yg w h = z at *
   obtain ⟨⟨z1,z2,z3,z4,z5,z6,z7⟩,z8⟩:=z
   obtain ⟨k,a,d,r⟩:=c
   refine za Tryz.func19 rfl (by decide) Tryz.ntmps19 rfl ?_
   repeat' (first
   |(apply zj rfl rfl rfl rfl (c:=co)
     case ha=>exact os_
     rintro _ _ ⟨u,rfl,rfl⟩; refine zu (List.Mem.head _) fun hu1 hu2 => ?_)
   |refine z25 ?_
    |refine xr ?_ (hy:=by first | (apply ze rfl; exact oo_; done) | (apply ze rfl; exact qe; done)
                                  |(apply zn rfl; exact oo_; exact oo_) | (apply zz rfl; exact oo_; exact oo_) | fail)
   |refine z24 ?_
    |refine qc ?_ (hy:=by intro hk hk2; first | (apply ze rfl; exact oo_; done) | (apply ze rfl; exact qe; done)
                                                |(apply zn rfl; exact oo_; exact oo_) | (apply zz rfl; exact oo_; exact oo_) | fail)
   |refine sw_ ?_ | (refine zb ?_ ?_ <;> intro hb <;> try exact no_) | (refine sx_ ?_ <;> intro bb) | (refine su_ ?_ <;> intro u hu1 hu2) | fail)
   all_goals first | exact e6_ | skip
  ·have c3 : True:=trivial
   by_cases q2 : (s = false ∧ c.1 ≠ 2) ∨ c.1 = 12
   ·have e : doB (w,h,l,x,y,b,s) c = ((w,h,l,x,y,b,s),0):=by unfold doB; rw [if_pos ⟨hok,hc⟩,if_neg q1,if_pos q2]
    rw [e]
    have c4 : AP Tryz.prog T0 66 [I c.1] (B (chg c.1)):=ug c.1
    obtain ⟨k,a,d,r⟩:=c
    simp only at q1 q2 c4
    cases s with
    |true =>
     have q3 : k = 12:=by simpa using q2
     subst q3
     refine za Tryz.func19 rfl (by decide) Tryz.ntmps19 rfl ?_
     repeat' (first
     |(apply zj rfl rfl rfl rfl (c:=co)
       case ha=>exact os_
       rintro _ _ ⟨u,rfl,rfl⟩; refine zu (List.Mem.head _) fun hu1 hu2 => ?_)
     |refine z25 ?_
      |refine xr ?_ (hy:=by first | (apply ze rfl; exact oo_; done) | (apply ze rfl; exact qe; done)
                                    |(apply zn rfl; exact oo_; exact oo_) | (apply zz rfl; exact oo_; exact oo_) | fail)
     |refine z24 ?_
      |refine qc ?_ (hy:=by intro hk hk2; first | (apply ze rfl; exact oo_; done) | (apply ze rfl; exact qe; done)
                                                  |(apply zn rfl; exact oo_; exact oo_) | (apply zz rfl; exact oo_; exact oo_) | fail)
     |refine sw_ ?_ | (refine zb ?_ ?_ <;> intro hb <;> try exact no_) | (refine sx_ ?_ <;> intro bb) | (refine su_ ?_ <;> intro u hu1 hu2) | fail)
     all_goals first | exact e6_ | skip
    |false =>
     have q3 : chg k = false:=by simpa using q1
     rw [q3] at c4
     by_cases q4 : k = 12
     ·subst q4
      refine za Tryz.func19 rfl (by decide) Tryz.ntmps19 rfl ?_
      repeat' (first
      |(apply zj rfl rfl rfl rfl (c:=co)
        case ha=>exact os_
        rintro _ _ ⟨u,rfl,rfl⟩; refine zu (List.Mem.head _) fun hu1 hu2 => ?_)
      |refine z25 ?_
       |refine xr ?_ (hy:=by first | (apply ze rfl; exact oo_; done) | (apply ze rfl; exact qe; done)
                                     |(apply zn rfl; exact oo_; exact oo_) | (apply zz rfl; exact oo_; exact oo_) | fail)
      |refine z24 ?_
       |refine qc ?_ (hy:=by intro hk hk2; first | (apply ze rfl; exact oo_; done) | (apply ze rfl; exact qe; done)
                                                   |(apply zn rfl; exact oo_; exact oo_) | (apply zz rfl; exact oo_; exact oo_) | fail)
      |refine sw_ ?_ | (refine zb ?_ ?_ <;> intro hb <;> try exact no_) | (refine sx_ ?_ <;> intro bb) | (refine su_ ?_ <;> intro u hu1 hu2) | fail)
      all_goals first | exact e6_ | skip
     ·have q5 : k ≠ 2:=by rcases q2 with q | q; exact q.2; exact absurd q q4
      refine za Tryz.func19 rfl (by decide) Tryz.ntmps19 rfl ?_
      repeat' (first
      |(apply zj rfl rfl rfl rfl (c:=co)
        case ha=>exact os_
        rintro _ _ ⟨u,rfl,rfl⟩; refine zu (List.Mem.head _) fun hu1 hu2 => ?_)
      |refine z25 ?_
       |refine xr ?_ (hy:=by first | (apply ze rfl; exact oo_; done) | (apply ze rfl; exact qe; done)
                                     |(apply zn rfl; exact oo_; exact oo_) | (apply zz rfl; exact oo_; exact oo_) | fail)
      |refine z24 ?_
       |refine qc ?_ (hy:=by intro hk hk2; first | (apply ze rfl; exact oo_; done) | (apply ze rfl; exact qe; done)
                                                   |(apply zn rfl; exact oo_; exact oo_) | (apply zz rfl; exact oo_; exact oo_) | fail)
      |refine sw_ ?_ | (refine zb ?_ ?_ <;> intro hb <;> try exact no_) | (refine sx_ ?_ <;> intro bb) | (refine su_ ?_ <;> intro u hu1 hu2) | fail)
      all_goals first | exact e6_ | skip
   ·have e : doB (w,h,l,x,y,b,s) c = (znf w h l x y b c,0):=by unfold doB; rw [if_pos ⟨hok,hc⟩,if_neg q1,if_neg q2]
    rw [e]
    have h12 : c.1 ≠ 12:=fun z=>q2 (.inr z)
    have hs : c.1 = 2 ∨ s = true:=by
     cases s with
     |true=>exact .inr rfl
     |false=>exact .inl (Classical.byContradiction fun z=>q2 (.inl ⟨rfl,z⟩))
    rcases wx hc with ⟨r,rfl,hr⟩ | ⟨a,d,rfl,ha,ha2,hd1,hd2⟩ | ⟨k,a,rfl,hk,ha⟩ | ⟨k,rfl,hk⟩
    ·have hs' : s = true:=by simpa using hs
     subst hs'
     exact (ztm (T0:=T0) hok r hr).frz1 ze8
    ·exact (z1n (T0:=T0) hok a d ⟨ha,ha2⟩ ⟨hd1,hd2⟩).frz1 ze8
    ·have hs' : s = true:=by rcases hs with z | z; simp only at z; omega; exact z
     subst hs'
     have key:=(z1m (T0:=T0) hok k a hk ha).frz1 ze8
     rcases hk with rfl | rfl | rfl | rfl <;> exact key
    ·have hk' : k = 7 ∨ k = 8 ∨ k = 9 ∨ k = 10 ∨ k = 11:=by simp only at h12; omega
     have hs' : s = true:=by rcases hs with z | z; simp only at z; omega; exact z
     subst hs'
     have key:=(z53 (T0:=T0) hok k hk').frz1 ze8
     rcases hk' with rfl | rfl | rfl | rfl | rfl <;> exact key
 ·rw [z3g hh]
  have c3 : True:=trivial
  have c4 : True:=trivial
  show AP _ _ _ _ (zt [blA noB,I 1])
  cases e1 : vr w h l x y b s with
  |false =>
   have c1 : AP Tryz.prog T0 63 [jb w h l x y b s] (B false):=(wu w h l x y b s).to (by rw [e1])
   have c2:=wt (T0:=T0) c
   refine za Tryz.func19 rfl (by decide) Tryz.ntmps19 rfl ?_
   repeat' (first
   |(apply zj rfl rfl rfl rfl (c:=co)
     case ha=>exact os_
     rintro _ _ ⟨u,rfl,rfl⟩; refine zu (List.Mem.head _) fun hu1 hu2 => ?_)
   |refine z25 ?_
    |refine xr ?_ (hy:=by first | (apply ze rfl; exact oo_; done) | (apply ze rfl; exact qe; done)
                                  |(apply zn rfl; exact oo_; exact oo_) | (apply zz rfl; exact oo_; exact oo_) | fail)
   |refine z24 ?_
    |refine qc ?_ (hy:=by intro hk hk2; first | (apply ze rfl; exact oo_; done) | (apply ze rfl; exact qe; done)
                                                |(apply zn rfl; exact oo_; exact oo_) | (apply zz rfl; exact oo_; exact oo_) | fail)
   |refine sw_ ?_ | (refine zb ?_ ?_ <;> intro hb <;> try exact no_) | (refine sx_ ?_ <;> intro bb) | (refine su_ ?_ <;> intro u hu1 hu2) | fail)
   all_goals first | exact e6_ | skip
  |true =>
   have e2 : z9 c = false:=by
    cases e : z9 c with
    |false=>rfl
    |true=>exact absurd ⟨e1,e⟩ hh
   have c1 : AP Tryz.prog T0 63 [jb w h l x y b s] (B true):=(wu w h l x y b s).to (by rw [e1])
   have c2 : AP Tryz.prog T0 65 [vi c] (B false):=(wt c).to (by rw [e2])
   refine za Tryz.func19 rfl (by decide) Tryz.ntmps19 rfl ?_
   repeat' (first
   |(apply zj rfl rfl rfl rfl (c:=co)
     case ha=>exact os_
     rintro _ _ ⟨u,rfl,rfl⟩; refine zu (List.Mem.head _) fun hu1 hu2 => ?_)
   |refine z25 ?_
    |refine xr ?_ (hy:=by first | (apply ze rfl; exact oo_; done) | (apply ze rfl; exact qe; done)
                                  |(apply zn rfl; exact oo_; exact oo_) | (apply zz rfl; exact oo_; exact oo_) | fail)
   |refine z24 ?_
    |refine qc ?_ (hy:=by intro hk hk2; first | (apply ze rfl; exact oo_; done) | (apply ze rfl; exact qe; done)
                                                |(apply zn rfl; exact oo_; exact oo_) | (apply zz rfl; exact oo_; exact oo_) | fail)
   |refine sw_ ?_ | (refine zb ?_ ?_ <;> intro hb <;> try exact no_) | (refine sx_ ?_ <;> intro bb) | (refine su_ ?_ <;> intro u hu1 hu2) | fail)
   all_goals first | exact e6_ | skip
end Go.Proofs.YtgfmjmfphmjdkaaGreatDoor
