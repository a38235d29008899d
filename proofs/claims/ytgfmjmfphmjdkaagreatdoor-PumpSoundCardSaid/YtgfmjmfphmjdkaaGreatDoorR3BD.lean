/- Layer 27 (belief): Do, whatever it is given, by the program. No condition. -/
import Derived.Test.YtgfmjmfphmjdkaaGreatDoorR3BB
import Derived.Test.YtgfmjmfphmjdkaaGreatDoorR3AJ
set_option linter.unusedSimpArgs false
set_option linter.unusedVariables false
set_option linter.unusedSectionVars false
namespace Go.Proofs.YtgfmjmfphmjdkaaGreatDoor
set_option maxHeartbeats 4000000
open Go Go.RowKit
set_option maxRecDepth 100000
variable {T0 : Gh} [TabS T0]
attribute [local irreducible] zz zg AW AL AO QY qh z_ rsA Opd xh vA gvA zy qb slA jl ipA rpA EqK LnK IxK LdK FaK FdK
theorem z0h {w h : Int} {l : List zj} {x y : Int} {b s : Bool} (h1 : yx w h l x y b s = true) (a d : Int) (ha : 0 ≤ a ∧ a < 24) (hd : 0 ≤ d ∧ d < 80) : zsf T0 w h l x y b s (2,a,d,0) (inM d (w - 1)) (inM a (h - 1)) false l:=by
 have c1 : AP Tryz.prog T0 63 [zad w h l x y b s] (B true):=(vy w h l x y b s).to (by rw [h1])
 have c2 : AP Tryz.prog T0 65 [qb [I 2,I a,I d,R 0]] (B true):=(wi (2,a,d,0)).to (by rw [z7b ha hd])
 have c3 : True:=trivial
 have c4 : AP Tryz.prog T0 66 [I 2] (B false):=(uf 2).to (by rfl)
 show AF _ _ _ [_,qb [I 2,I a,I d,R 0]] _ _
 cases s with
 |true =>
  obtain ⟨hw,hx,hl,hl2,hm,hg,hl3⟩:=zbl h1
  have co:=zd3 (T0:=T0) w h l x y b true (by omega)
  refine za Tryz.func19 rfl (by decide) Tryz.ntmps19 rfl ?_
  repeat' (first
  |(apply zt rfl rfl rfl rfl (c:=co)
    case ha=>exact os_
    rintro _ _ ⟨u,rfl,rfl⟩; refine qq (List.Mem.head _) fun hu1 hu2 => ?_)
  |refine z13 ?_
   |refine jd ?_ (hy:=by first | (apply ze rfl; exact oo_; done) | (apply ze rfl; exact ql; done)
                                 |(apply zn rfl; exact oo_; exact oo_) | (apply zx rfl; exact oo_; exact oo_) | fail)
  |refine z12 ?_
   |refine qj ?_ (hy:=by intro hk hk2; first | (apply ze rfl; exact oo_; done) | (apply ze rfl; exact ql; done)
                                               |(apply zn rfl; exact oo_; exact oo_) | (apply zx rfl; exact oo_; exact oo_) | fail)
  |refine sw_ ?_ | (refine zd ?_ ?_ <;> intro hb <;> try exact no_) | (refine sx_ ?_ <;> intro bb) | (refine su_ ?_ <;> intro u hu1 hu2) | fail)
  all_goals first | (exfalso; simp at hb; done) | exact ⟨_,[gsO u _],rl_,sl_,u,rfl,rfl⟩ | skip
 |false =>
  obtain ⟨w',h',e1,e2,w2,w3,w4,w5,hl,hk,p1,p2⟩:=qn.1 h1
  obtain ⟨rfl,rfl,rfl⟩:=p2 rfl
  have:=yg w3 w5
  have co:=zd3 (T0:=T0) w h l 0 0 false false (by omega)
  have hm : 0 * w = 0:=Int.zero_mul w
  refine za Tryz.func19 rfl (by decide) Tryz.ntmps19 rfl ?_
  repeat' (first
  |(apply zt rfl rfl rfl rfl (c:=co)
    case ha=>exact os_
    rintro _ _ ⟨u,rfl,rfl⟩; refine qq (List.Mem.head _) fun hu1 hu2 => ?_)
  |refine z13 ?_
   |refine jd ?_ (hy:=by first | (apply ze rfl; exact oo_; done) | (apply ze rfl; exact ql; done)
                                 |(apply zn rfl; exact oo_; exact oo_) | (apply zx rfl; exact oo_; exact oo_) | fail)
  |refine z12 ?_
   |refine qj ?_ (hy:=by intro hk hk2; first | (apply ze rfl; exact oo_; done) | (apply ze rfl; exact ql; done)
                                               |(apply zn rfl; exact oo_; exact oo_) | (apply zx rfl; exact oo_; exact oo_) | fail)
  |refine sw_ ?_ | (refine zd ?_ ?_ <;> intro hb <;> try exact no_) | (refine sx_ ?_ <;> intro bb) | (refine su_ ?_ <;> intro u hu1 hu2) | fail)
  all_goals first | (exfalso; simp at hb; done) | exact ⟨_,[gsO u _],rl_,sl_,u,rfl,rfl⟩ | skip
theorem z70 (w h : Int) (l : List zj) (x y : Int) (b s : Bool) (c : Cmd) : AP Tryz.prog T0 19 [zad w h l x y b s,yw c] (zy [blA (doB (w,h,l,x,y,b,s) c).1,I (doB (w,h,l,x,y,b,s) c).2]):=by
 have co : True:=trivial
 by_cases hh : yx w h l x y b s = true ∧ z9 c = true
 ·obtain ⟨hok,hc⟩:=hh
  have c1 : AP Tryz.prog T0 63 [zad w h l x y b s] (B true):=(vy w h l x y b s).to (by rw [hok])
  have c2 : AP Tryz.prog T0 65 [yw c] (B true):=(wi c).to (by rw [hc])
  by_cases q1 : s = false ∧ chg c.1 = true
  ·have e : doB (w,h,l,x,y,b,s) c = ye w h:=by unfold doB; rw [if_pos ⟨hok,hc⟩,if_pos q1]
   rw [e]
   obtain ⟨rfl,q1⟩:=q1
   have c3:=zj9 (T0:=T0) w h
   have c4 : AP Tryz.prog T0 66 [I c.1] (B true):=(uf c.1).to (by rw [q1])
   generalize ye w h = z at *
   obtain ⟨⟨z1,z2,z3,z4,z5,z6,z7⟩,z8⟩:=z
   obtain ⟨k,a,d,r⟩:=c
   refine za Tryz.func19 rfl (by decide) Tryz.ntmps19 rfl ?_
   repeat' (first
   |(apply zt rfl rfl rfl rfl (c:=co)
     case ha=>exact os_
     rintro _ _ ⟨u,rfl,rfl⟩; refine qq (List.Mem.head _) fun hu1 hu2 => ?_)
   |refine z13 ?_
    |refine jd ?_ (hy:=by first | (apply ze rfl; exact oo_; done) | (apply ze rfl; exact ql; done)
                                  |(apply zn rfl; exact oo_; exact oo_) | (apply zx rfl; exact oo_; exact oo_) | fail)
   |refine z12 ?_
    |refine qj ?_ (hy:=by intro hk hk2; first | (apply ze rfl; exact oo_; done) | (apply ze rfl; exact ql; done)
                                                |(apply zn rfl; exact oo_; exact oo_) | (apply zx rfl; exact oo_; exact oo_) | fail)
   |refine sw_ ?_ | (refine zd ?_ ?_ <;> intro hb <;> try exact no_) | (refine sx_ ?_ <;> intro bb) | (refine su_ ?_ <;> intro u hu1 hu2) | fail)
   all_goals first | exact e7_ | skip
  ·have c3 : True:=trivial
   by_cases q2 : (s = false ∧ c.1 ≠ 2) ∨ c.1 = 12
   ·have e : doB (w,h,l,x,y,b,s) c = ((w,h,l,x,y,b,s),0):=by unfold doB; rw [if_pos ⟨hok,hc⟩,if_neg q1,if_pos q2]
    rw [e]
    have c4 : AP Tryz.prog T0 66 [I c.1] (B (chg c.1)):=uf c.1
    obtain ⟨k,a,d,r⟩:=c
    simp only at q1 q2 c4
    cases s with
    |true =>
     have q3 : k = 12:=by simpa using q2
     subst q3
     refine za Tryz.func19 rfl (by decide) Tryz.ntmps19 rfl ?_
     repeat' (first
     |(apply zt rfl rfl rfl rfl (c:=co)
       case ha=>exact os_
       rintro _ _ ⟨u,rfl,rfl⟩; refine qq (List.Mem.head _) fun hu1 hu2 => ?_)
     |refine z13 ?_
      |refine jd ?_ (hy:=by first | (apply ze rfl; exact oo_; done) | (apply ze rfl; exact ql; done)
                                    |(apply zn rfl; exact oo_; exact oo_) | (apply zx rfl; exact oo_; exact oo_) | fail)
     |refine z12 ?_
      |refine qj ?_ (hy:=by intro hk hk2; first | (apply ze rfl; exact oo_; done) | (apply ze rfl; exact ql; done)
                                                  |(apply zn rfl; exact oo_; exact oo_) | (apply zx rfl; exact oo_; exact oo_) | fail)
     |refine sw_ ?_ | (refine zd ?_ ?_ <;> intro hb <;> try exact no_) | (refine sx_ ?_ <;> intro bb) | (refine su_ ?_ <;> intro u hu1 hu2) | fail)
     all_goals first | exact e7_ | skip
    |false =>
     have q3 : chg k = false:=by simpa using q1
     rw [q3] at c4
     by_cases q4 : k = 12
     ·subst q4
      refine za Tryz.func19 rfl (by decide) Tryz.ntmps19 rfl ?_
      repeat' (first
      |(apply zt rfl rfl rfl rfl (c:=co)
        case ha=>exact os_
        rintro _ _ ⟨u,rfl,rfl⟩; refine qq (List.Mem.head _) fun hu1 hu2 => ?_)
      |refine z13 ?_
       |refine jd ?_ (hy:=by first | (apply ze rfl; exact oo_; done) | (apply ze rfl; exact ql; done)
                                     |(apply zn rfl; exact oo_; exact oo_) | (apply zx rfl; exact oo_; exact oo_) | fail)
      |refine z12 ?_
       |refine qj ?_ (hy:=by intro hk hk2; first | (apply ze rfl; exact oo_; done) | (apply ze rfl; exact ql; done)
                                                   |(apply zn rfl; exact oo_; exact oo_) | (apply zx rfl; exact oo_; exact oo_) | fail)
      |refine sw_ ?_ | (refine zd ?_ ?_ <;> intro hb <;> try exact no_) | (refine sx_ ?_ <;> intro bb) | (refine su_ ?_ <;> intro u hu1 hu2) | fail)
      all_goals first | exact e7_ | skip
     ·have q5 : k ≠ 2:=by rcases q2 with q | q; exact q.2; exact absurd q q4
      refine za Tryz.func19 rfl (by decide) Tryz.ntmps19 rfl ?_
      repeat' (first
      |(apply zt rfl rfl rfl rfl (c:=co)
        case ha=>exact os_
        rintro _ _ ⟨u,rfl,rfl⟩; refine qq (List.Mem.head _) fun hu1 hu2 => ?_)
      |refine z13 ?_
       |refine jd ?_ (hy:=by first | (apply ze rfl; exact oo_; done) | (apply ze rfl; exact ql; done)
                                     |(apply zn rfl; exact oo_; exact oo_) | (apply zx rfl; exact oo_; exact oo_) | fail)
      |refine z12 ?_
       |refine qj ?_ (hy:=by intro hk hk2; first | (apply ze rfl; exact oo_; done) | (apply ze rfl; exact ql; done)
                                                   |(apply zn rfl; exact oo_; exact oo_) | (apply zx rfl; exact oo_; exact oo_) | fail)
      |refine sw_ ?_ | (refine zd ?_ ?_ <;> intro hb <;> try exact no_) | (refine sx_ ?_ <;> intro bb) | (refine su_ ?_ <;> intro u hu1 hu2) | fail)
      all_goals first | exact e7_ | skip
   ·have e : doB (w,h,l,x,y,b,s) c = (zry w h l x y b c,0):=by unfold doB; rw [if_pos ⟨hok,hc⟩,if_neg q1,if_neg q2]
    rw [e]
    have h12 : c.1 ≠ 12:=fun z=>q2 (.inr z)
    have hs : c.1 = 2 ∨ s = true:=by
     cases s with
     |true=>exact .inr rfl
     |false=>exact .inl (Classical.byContradiction fun z=>q2 (.inl ⟨rfl,z⟩))
    rcases u5 hc with ⟨r,rfl,hr⟩ | ⟨a,d,rfl,ha,ha2,hd1,hd2⟩ | ⟨k,a,rfl,hk,ha⟩ | ⟨k,rfl,hk⟩
    ·have hs' : s = true:=by simpa using hs
     subst hs'
     exact (zrr (T0:=T0) hok r hr).frz1 zrc
    ·exact (z0h (T0:=T0) hok a d ⟨ha,ha2⟩ ⟨hd1,hd2⟩).frz1 zrc
    ·have hs' : s = true:=by rcases hs with z | z; simp only at z; omega; exact z
     subst hs'
     have key:=(z0g (T0:=T0) hok k a hk ha).frz1 zrc
     rcases hk with rfl | rfl | rfl | rfl <;> exact key
    ·have hk' : k = 7 ∨ k = 8 ∨ k = 9 ∨ k = 10 ∨ k = 11:=by simp only at h12; omega
     have hs' : s = true:=by rcases hs with z | z; simp only at z; omega; exact z
     subst hs'
     have key:=(z4m (T0:=T0) hok k hk').frz1 zrc
     rcases hk' with rfl | rfl | rfl | rfl | rfl <;> exact key
 ·rw [z8h hh]
  have c3 : True:=trivial
  have c4 : True:=trivial
  show AP _ _ _ _ (zy [blA noB,I 1])
  cases e1 : yx w h l x y b s with
  |false =>
   have c1 : AP Tryz.prog T0 63 [zad w h l x y b s] (B false):=(vy w h l x y b s).to (by rw [e1])
   have c2:=wi (T0:=T0) c
   refine za Tryz.func19 rfl (by decide) Tryz.ntmps19 rfl ?_
   repeat' (first
   |(apply zt rfl rfl rfl rfl (c:=co)
     case ha=>exact os_
     rintro _ _ ⟨u,rfl,rfl⟩; refine qq (List.Mem.head _) fun hu1 hu2 => ?_)
   |refine z13 ?_
    |refine jd ?_ (hy:=by first | (apply ze rfl; exact oo_; done) | (apply ze rfl; exact ql; done)
                                  |(apply zn rfl; exact oo_; exact oo_) | (apply zx rfl; exact oo_; exact oo_) | fail)
   |refine z12 ?_
    |refine qj ?_ (hy:=by intro hk hk2; first | (apply ze rfl; exact oo_; done) | (apply ze rfl; exact ql; done)
                                                |(apply zn rfl; exact oo_; exact oo_) | (apply zx rfl; exact oo_; exact oo_) | fail)
   |refine sw_ ?_ | (refine zd ?_ ?_ <;> intro hb <;> try exact no_) | (refine sx_ ?_ <;> intro bb) | (refine su_ ?_ <;> intro u hu1 hu2) | fail)
   all_goals first | exact e7_ | skip
  |true =>
   have e2 : z9 c = false:=by
    cases e : z9 c with
    |false=>rfl
    |true=>exact absurd ⟨e1,e⟩ hh
   have c1 : AP Tryz.prog T0 63 [zad w h l x y b s] (B true):=(vy w h l x y b s).to (by rw [e1])
   have c2 : AP Tryz.prog T0 65 [yw c] (B false):=(wi c).to (by rw [e2])
   refine za Tryz.func19 rfl (by decide) Tryz.ntmps19 rfl ?_
   repeat' (first
   |(apply zt rfl rfl rfl rfl (c:=co)
     case ha=>exact os_
     rintro _ _ ⟨u,rfl,rfl⟩; refine qq (List.Mem.head _) fun hu1 hu2 => ?_)
   |refine z13 ?_
    |refine jd ?_ (hy:=by first | (apply ze rfl; exact oo_; done) | (apply ze rfl; exact ql; done)
                                  |(apply zn rfl; exact oo_; exact oo_) | (apply zx rfl; exact oo_; exact oo_) | fail)
   |refine z12 ?_
    |refine qj ?_ (hy:=by intro hk hk2; first | (apply ze rfl; exact oo_; done) | (apply ze rfl; exact ql; done)
                                                |(apply zn rfl; exact oo_; exact oo_) | (apply zx rfl; exact oo_; exact oo_) | fail)
   |refine sw_ ?_ | (refine zd ?_ ?_ <;> intro hb <;> try exact no_) | (refine sx_ ?_ <;> intro bb) | (refine su_ ?_ <;> intro u hu1 hu2) | fail)
   all_goals first | exact e7_ | skip
end Go.Proofs.YtgfmjmfphmjdkaaGreatDoor
