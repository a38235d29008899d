/- Layer 27 (belief): Do, by the program. No condition. -/
import Derived.Test.YtgfmjmfphmjdkaaGreatDoorR1BC
import Derived.Test.YtgfmjmfphmjdkaaGreatDoorR1B1
set_option linter.unusedSimpArgs false
set_option linter.unusedVariables false
set_option linter.unusedSectionVars false
namespace Go.Proofs.YtgfmjmfphmjdkaaGreatDoor
set_option maxHeartbeats 4000000
open Go Go.RowKit
set_option maxRecDepth 100000
variable {T0 : Gh} [TabS T0]
theorem z4c {n : Int} : Sub (zt [z0 [I 0,I 0,vA (.slice none 0 0),I 0,I 0,B false,B false],I n]) (zt [blA noB,I n]):=ka (qb (vx (qb (Sub.refl _) (qb (Sub.refl _) (qb zfd (qb (Sub.refl _) (qb (Sub.refl _) (qb (Sub.refl _) (qb (Sub.refl _) vj)))))))) (qb (Sub.refl _) vj))
abbrev zt5 (T0 : Gh) (w h : Int) (l : List zi) (x y : Int) (b s : Bool) (c : Cmd) (X Y : Int) (B' : Bool) (L : List zi) : Prop :=
 AF Tryz.prog T0 19 [jb w h l x y b s,vi c] [] (fun A M' => ∃ u,A = zt [z0 [I w,I h,vA u,I X,I Y,B B',B true],I 0] ∧ M' = [gsO u L])
theorem zo0 {w h : Int} {l : List zi} {x y : Int} {b s : Bool} {c : Cmd} {X Y X' Y' : Int} {B' : Bool} {L : List zi} (k : zt5 T0 w h l x y b s c X Y B' L) (hX : X = X') (hY : Y = Y') : zt5 T0 w h l x y b s c X' Y' B' L:=by subst hX hY; exact k
theorem z8d {a d : Int} (h1 : 0 ≤ a ∧ a < 24) (h2 : 0 ≤ d ∧ d < 80) : z9 (2,a,d,0) = true:=by simp [z9]; omega
attribute [local irreducible] z_ zg AW AL AO QY qd zx rsA Opd xi vA gvA zt z0 slA jc ipA rpA EqK LnK IxK LdK FaK FdK
section
variable {w h : Int} {l : List zi} {x y : Int} {b : Bool} (h1 : vr w h l x y b true = true)
include h1
theorem z1m (k a : Int) (hk : k = 3 ∨ k = 4 ∨ k = 5 ∨ k = 6) (ha : 1 ≤ a ∧ a ≤ 80) : zt5 T0 w h l x y b true (k,a,0,0) (inM (if k = 5 then x + a else if k = 6 then x - a else x) (w - 1)) (inM (if k = 3 then y - a else if k = 4 then y + a else y) (h - 1)) false l:=by
 obtain ⟨hw,hx,hl,hl2,hm,hg,hl3⟩:=uv h1
 have c1 : AP Tryz.prog T0 63 [jb w h l x y b true] (B true):=(wu w h l x y b true).to (by rw [h1])
 have c2 : AP Tryz.prog T0 65 [vi (k,a,0,0)] (B true):=(wt (k,a,0,0)).to (by rw [z36 hk ha])
 have co:=zea (T0:=T0) w h l x y b true (by omega)
 have c3 : True:=trivial
 have ct : True:=trivial
 have cl : True:=trivial
 rcases hk with rfl | rfl | rfl | rfl
 ·replace c2 : AP Tryz.prog T0 65 [z0 [I 3,I a,I 0,R 0]] (B true):=c2
  show zt5 T0 w h l x y b true (3,a,0,0) (inM x (w - 1)) (inM (y - a) (h - 1)) false l
  show AF _ _ _ [_,z0 [I 3,I a,I 0,R 0]] _ _
  refine za Tryz.func19 rfl (by decide) Tryz.ntmps19 rfl ?_
  repeat' (first
  |(apply zj rfl rfl rfl rfl (c:=co)
    case ha=>exact os_
    rintro _ _ ⟨u,rfl,rfl⟩; refine zu (List.Mem.head _) fun hu1 hu2 => ?_)
   |(apply j_ rfl rfl rfl rfl (c:=ct _ _)
     case ha=>exact os_
     case hM=>exact zf
     case hM2=>exact zf
     rintro _ _ rfl
     simp only [List.cons_append,List.nil_append,List.append_eq])
   |(apply zd rfl rfl rfl rfl (c:=cl _)
     case ha=>exact os_
     case hM=>exact zf
     rintro _ _ rfl
     simp only [List.cons_append,List.nil_append,List.append_eq])
  |refine zy_ ?_
   |refine xr ?_ (hy:=by first | (apply ze rfl; exact oo_; done) | (apply ze rfl; exact qe; done)
                                 |(apply zn rfl; exact oo_; exact oo_) | (apply zz rfl; exact oo_; exact oo_) | fail)
  |refine zy9 ?_
   |refine qc ?_ (hy:=by intro hk hk2; first | (apply ze rfl; exact oo_; done) | (apply ze rfl; exact qe; done)
                                               |(apply zn rfl; exact oo_; exact oo_) | (apply zz rfl; exact oo_; exact oo_) | fail)
  |refine sw_ ?_ | (refine zb ?_ ?_ <;> intro hb <;> try exact no_) | (refine sx_ ?_ <;> intro bb) | (refine su_ ?_ <;> intro u hu1 hu2) | fail)
  all_goals first | exact e5_ | skip
 ·replace c2 : AP Tryz.prog T0 65 [z0 [I 4,I a,I 0,R 0]] (B true):=c2
  show zt5 T0 w h l x y b true (4,a,0,0) (inM x (w - 1)) (inM (y + a) (h - 1)) false l
  show AF _ _ _ [_,z0 [I 4,I a,I 0,R 0]] _ _
  refine za Tryz.func19 rfl (by decide) Tryz.ntmps19 rfl ?_
  repeat' (first
  |(apply zj rfl rfl rfl rfl (c:=co)
    case ha=>exact os_
    rintro _ _ ⟨u,rfl,rfl⟩; refine zu (List.Mem.head _) fun hu1 hu2 => ?_)
   |(apply j_ rfl rfl rfl rfl (c:=ct _ _)
     case ha=>exact os_
     case hM=>exact zf
     case hM2=>exact zf
     rintro _ _ rfl
     simp only [List.cons_append,List.nil_append,List.append_eq])
   |(apply zd rfl rfl rfl rfl (c:=cl _)
     case ha=>exact os_
     case hM=>exact zf
     rintro _ _ rfl
     simp only [List.cons_append,List.nil_append,List.append_eq])
  |refine zy_ ?_
   |refine xr ?_ (hy:=by first | (apply ze rfl; exact oo_; done) | (apply ze rfl; exact qe; done)
                                 |(apply zn rfl; exact oo_; exact oo_) | (apply zz rfl; exact oo_; exact oo_) | fail)
  |refine zy9 ?_
   |refine qc ?_ (hy:=by intro hk hk2; first | (apply ze rfl; exact oo_; done) | (apply ze rfl; exact qe; done)
                                               |(apply zn rfl; exact oo_; exact oo_) | (apply zz rfl; exact oo_; exact oo_) | fail)
  |refine sw_ ?_ | (refine zb ?_ ?_ <;> intro hb <;> try exact no_) | (refine sx_ ?_ <;> intro bb) | (refine su_ ?_ <;> intro u hu1 hu2) | fail)
  all_goals first | exact e5_ | skip
 ·replace c2 : AP Tryz.prog T0 65 [z0 [I 5,I a,I 0,R 0]] (B true):=c2
  show zt5 T0 w h l x y b true (5,a,0,0) (inM (x + a) (w - 1)) (inM y (h - 1)) false l
  show AF _ _ _ [_,z0 [I 5,I a,I 0,R 0]] _ _
  refine za Tryz.func19 rfl (by decide) Tryz.ntmps19 rfl ?_
  repeat' (first
  |(apply zj rfl rfl rfl rfl (c:=co)
    case ha=>exact os_
    rintro _ _ ⟨u,rfl,rfl⟩; refine zu (List.Mem.head _) fun hu1 hu2 => ?_)
   |(apply j_ rfl rfl rfl rfl (c:=ct _ _)
     case ha=>exact os_
     case hM=>exact zf
     case hM2=>exact zf
     rintro _ _ rfl
     simp only [List.cons_append,List.nil_append,List.append_eq])
   |(apply zd rfl rfl rfl rfl (c:=cl _)
     case ha=>exact os_
     case hM=>exact zf
     rintro _ _ rfl
     simp only [List.cons_append,List.nil_append,List.append_eq])
  |refine zy_ ?_
   |refine xr ?_ (hy:=by first | (apply ze rfl; exact oo_; done) | (apply ze rfl; exact qe; done)
                                 |(apply zn rfl; exact oo_; exact oo_) | (apply zz rfl; exact oo_; exact oo_) | fail)
  |refine zy9 ?_
   |refine qc ?_ (hy:=by intro hk hk2; first | (apply ze rfl; exact oo_; done) | (apply ze rfl; exact qe; done)
                                               |(apply zn rfl; exact oo_; exact oo_) | (apply zz rfl; exact oo_; exact oo_) | fail)
  |refine sw_ ?_ | (refine zb ?_ ?_ <;> intro hb <;> try exact no_) | (refine sx_ ?_ <;> intro bb) | (refine su_ ?_ <;> intro u hu1 hu2) | fail)
  all_goals first | exact e5_ | skip
 ·replace c2 : AP Tryz.prog T0 65 [z0 [I 6,I a,I 0,R 0]] (B true):=c2
  show zt5 T0 w h l x y b true (6,a,0,0) (inM (x - a) (w - 1)) (inM y (h - 1)) false l
  show AF _ _ _ [_,z0 [I 6,I a,I 0,R 0]] _ _
  refine za Tryz.func19 rfl (by decide) Tryz.ntmps19 rfl ?_
  repeat' (first
  |(apply zj rfl rfl rfl rfl (c:=co)
    case ha=>exact os_
    rintro _ _ ⟨u,rfl,rfl⟩; refine zu (List.Mem.head _) fun hu1 hu2 => ?_)
   |(apply j_ rfl rfl rfl rfl (c:=ct _ _)
     case ha=>exact os_
     case hM=>exact zf
     case hM2=>exact zf
     rintro _ _ rfl
     simp only [List.cons_append,List.nil_append,List.append_eq])
   |(apply zd rfl rfl rfl rfl (c:=cl _)
     case ha=>exact os_
     case hM=>exact zf
     rintro _ _ rfl
     simp only [List.cons_append,List.nil_append,List.append_eq])
  |refine zy_ ?_
   |refine xr ?_ (hy:=by first | (apply ze rfl; exact oo_; done) | (apply ze rfl; exact qe; done)
                                 |(apply zn rfl; exact oo_; exact oo_) | (apply zz rfl; exact oo_; exact oo_) | fail)
  |refine zy9 ?_
   |refine qc ?_ (hy:=by intro hk hk2; first | (apply ze rfl; exact oo_; done) | (apply ze rfl; exact qe; done)
                                               |(apply zn rfl; exact oo_; exact oo_) | (apply zz rfl; exact oo_; exact oo_) | fail)
  |refine sw_ ?_ | (refine zb ?_ ?_ <;> intro hb <;> try exact no_) | (refine sx_ ?_ <;> intro bb) | (refine su_ ?_ <;> intro u hu1 hu2) | fail)
  all_goals first | exact e5_ | skip
theorem ztm (r : Int) (hs : xq r = true) : zt5 T0 w h l x y b true (1,0,0,r) (yh w h x y b (1,0,0,r)).1 (yh w h x y b (1,0,0,r)).2.1 (yh w h x y b (1,0,0,r)).2.2 (kp w.toNat h.toNat l x.toNat y.toNat b (1,0,0,r)):=by
 obtain ⟨hw,hx,hl,hl2,hm,hg,hl3⟩:=uv h1
 have c1 : AP Tryz.prog T0 63 [jb w h l x y b true] (B true):=(wu w h l x y b true).to (by rw [h1])
 have c2 : AP Tryz.prog T0 65 [vi (1,0,0,r)] (B true):=(wt (1,0,0,r)).to (by rw [show z9 (1,0,0,r) = true by simp [z9,hs]])
 have co:=zea (T0:=T0) w h l x y b true (by omega)
 have c3 : True:=trivial
 have cl : True:=trivial
 have ct:=fun p u=>z1k (T0:=T0) p w h u l x y b r h1 hs
 generalize kp w.toNat h.toNat l x.toNat y.toNat b (1,0,0,r) = L at *
 generalize yh w h x y b (1,0,0,r) = z at *
 obtain ⟨X,Y,Z⟩:=z
 dsimp only at ct ⊢
 refine za Tryz.func19 rfl (by decide) Tryz.ntmps19 rfl ?_
 repeat' (first
 |(apply zj rfl rfl rfl rfl (c:=co)
   case ha=>exact os_
   rintro _ _ ⟨u,rfl,rfl⟩; refine zu (List.Mem.head _) fun hu1 hu2 => ?_)
  |(apply j_ rfl rfl rfl rfl (c:=ct _ _)
    case ha=>exact os_
    case hM=>exact zf
    case hM2=>exact zf
    rintro _ _ rfl
    simp only [List.cons_append,List.nil_append,List.append_eq])
  |(apply zd rfl rfl rfl rfl (c:=cl _)
    case ha=>exact os_
    case hM=>exact zf
    rintro _ _ rfl
    simp only [List.cons_append,List.nil_append,List.append_eq])
 |refine zy_ ?_
  |refine xr ?_ (hy:=by first | (apply ze rfl; exact oo_; done) | (apply ze rfl; exact qe; done)
                                |(apply zn rfl; exact oo_; exact oo_) | (apply zz rfl; exact oo_; exact oo_) | fail)
 |refine zy9 ?_
  |refine qc ?_ (hy:=by intro hk hk2; first | (apply ze rfl; exact oo_; done) | (apply ze rfl; exact qe; done)
                                              |(apply zn rfl; exact oo_; exact oo_) | (apply zz rfl; exact oo_; exact oo_) | fail)
 |refine sw_ ?_ | (refine zb ?_ ?_ <;> intro hb <;> try exact no_) | (refine sx_ ?_ <;> intro bb) | (refine su_ ?_ <;> intro u hu1 hu2) | fail)
 all_goals first | exact e5_ | skip
theorem z53 (k : Int) (hk : k = 7 ∨ k = 8 ∨ k = 9 ∨ k = 10 ∨ k = 11) : zt5 T0 w h l x y b true (k,0,0,0) (yh w h x y b (k,0,0,0)).1 (yh w h x y b (k,0,0,0)).2.1 false (kp w.toNat h.toNat l x.toNat y.toNat b (k,0,0,0)):=by
 obtain ⟨hw,hx,hl,hl2,hm,hg,hl3⟩:=uv h1
 have c1 : AP Tryz.prog T0 63 [jb w h l x y b true] (B true):=(wu w h l x y b true).to (by rw [h1])
 have c2 : AP Tryz.prog T0 65 [vi (k,0,0,0)] (B true):=(wt (k,0,0,0)).to (by rw [show z9 (k,0,0,0) = true by rcases hk with rfl | rfl | rfl | rfl | rfl <;> rfl])
 have co:=zea (T0:=T0) w h l x y b true (by omega)
 have e1:=xg hx.1 (show x ≤ w - 1 by omega)
 have e2:=xg hx.2.2.1 (show y ≤ h - 1 by omega)
 have hlen:=Int.toNat_of_nonneg (show 0 ≤ w by omega)
 have hlen2:=Int.toNat_of_nonneg (show 0 ≤ h by omega)
 have hlx:=Int.toNat_of_nonneg hx.1
 have hly:=Int.toNat_of_nonneg hx.2.2.1
 have hat:=za1 (w:=w) (x:=x) (y:=y) (by omega) (by omega) (by omega)
 have hri:=zgj (h:=h.toNat) (w:=w.toNat) (y:=y.toNat) (x:=x.toNat) (n:=w.toNat - x.toNat) (by omega) (by omega)
 rcases hk with rfl | rfl | rfl | rfl | rfl
 ·have ct : True:=trivial
  have c3:=zw9 (T0:=T0) (w - x) (by omega) (by omega)
  have cl:=fun u=>(zft (T0:=T0) w h u l x y false true (y * w + x) (List.replicate (w - x).toNat (32,0)) (by omega) (by omega) (by omega) (by omega) (by
   have : (y * w + x).toNat + (w.toNat - x.toNat) ≤ l.length:=by rw [hat,hl3]; exact hri
   simp; omega) (by
   rw [hat,List.length_replicate,show (w - x).toNat = w.toNat - x.toNat by omega]
   exact zd4 (h:=h.toNat) hl3 hri)).toL (L':=[gsO u (kp w.toNat h.toNat l x.toNat y.toNat b (7,0,0,0))]) (by
   show _ = [gsO u (wq w.toNat l (y.toNat * w.toNat + x.toNat) (List.replicate (w.toNat - x.toNat) (32,0)))]
   rw [hat,show (w - x).toNat = w.toNat - x.toNat by omega])
  generalize kp w.toNat h.toNat l x.toNat y.toNat b (7,0,0,0) = L at *
  refine zo0 (X:=inM x (w - 1)) (Y:=inM y (h - 1)) ?_ e1 e2
  clear hri hat
  refine za Tryz.func19 rfl (by decide) Tryz.ntmps19 rfl ?_
  repeat' (first
  |(apply zj rfl rfl rfl rfl (c:=co)
    case ha=>exact os_
    rintro _ _ ⟨u,rfl,rfl⟩; refine zu (List.Mem.head _) fun hu1 hu2 => ?_)
   |(apply j_ rfl rfl rfl rfl (c:=ct _ _)
     case ha=>exact os_
     case hM=>exact zf
     case hM2=>exact zf
     rintro _ _ rfl
     simp only [List.cons_append,List.nil_append,List.append_eq])
   |(apply zd rfl rfl rfl rfl (c:=cl _)
     case ha=>exact os_
     case hM=>exact zf
     rintro _ _ rfl
     simp only [List.cons_append,List.nil_append,List.append_eq])
  |refine zy_ ?_
   |refine xr ?_ (hy:=by first | (apply ze rfl; exact oo_; done) | (apply ze rfl; exact qe; done)
                                 |(apply zn rfl; exact oo_; exact oo_) | (apply zz rfl; exact oo_; exact oo_) | fail)
  |refine zy9 ?_
   |refine qc ?_ (hy:=by intro hk hk2; first | (apply ze rfl; exact oo_; done) | (apply ze rfl; exact qe; done)
                                               |(apply zn rfl; exact oo_; exact oo_) | (apply zz rfl; exact oo_; exact oo_) | fail)
  |refine sw_ ?_ | (refine zb ?_ ?_ <;> intro hb <;> try exact no_) | (refine sx_ ?_ <;> intro bb) | (refine su_ ?_ <;> intro u hu1 hu2) | fail)
  all_goals first | exact e5_ | skip
 ·have ct : True:=trivial
  have hp : (y * w + x).toNat ≤ l.length:=by rw [hat,hl3]; omega
  have c3:=zw9 (T0:=T0) (l.length - (y * w + x)) (by omega) (by omega)
  have cl:=fun u=>(zft (T0:=T0) w h u l x y false true (y * w + x) (List.replicate ((l.length : Int) - (y * w + x)).toNat (32,0)) (by omega) (by omega) (by omega) (by omega) (by simp; omega) (by
   rw [List.length_replicate]
   refine zd4 (h:=h.toNat) hl3 ?_
   omega)).toL (L':=[gsO u (kp w.toNat h.toNat l x.toNat y.toNat b (8,0,0,0))]) (by
   show _ = [gsO u (wq w.toNat l (y.toNat * w.toNat + x.toNat) (List.replicate (l.length - (y.toNat * w.toNat + x.toNat)) (32,0)))]
   rw [← hat,show ((l.length : Int) - (y * w + x)).toNat = l.length - (y * w + x).toNat by omega])
  generalize kp w.toNat h.toNat l x.toNat y.toNat b (8,0,0,0) = L at *
  refine zo0 (X:=inM x (w - 1)) (Y:=inM y (h - 1)) ?_ e1 e2
  clear hri hat
  refine za Tryz.func19 rfl (by decide) Tryz.ntmps19 rfl ?_
  repeat' (first
  |(apply zj rfl rfl rfl rfl (c:=co)
    case ha=>exact os_
    rintro _ _ ⟨u,rfl,rfl⟩; refine zu (List.Mem.head _) fun hu1 hu2 => ?_)
   |(apply j_ rfl rfl rfl rfl (c:=ct _ _)
     case ha=>exact os_
     case hM=>exact zf
     case hM2=>exact zf
     rintro _ _ rfl
     simp only [List.cons_append,List.nil_append,List.append_eq])
   |(apply zd rfl rfl rfl rfl (c:=cl _)
     case ha=>exact os_
     case hM=>exact zf
     rintro _ _ rfl
     simp only [List.cons_append,List.nil_append,List.append_eq])
  |refine zy_ ?_
   |refine xr ?_ (hy:=by first | (apply ze rfl; exact oo_; done) | (apply ze rfl; exact qe; done)
                                 |(apply zn rfl; exact oo_; exact oo_) | (apply zz rfl; exact oo_; exact oo_) | fail)
  |refine zy9 ?_
   |refine qc ?_ (hy:=by intro hk hk2; first | (apply ze rfl; exact oo_; done) | (apply ze rfl; exact qe; done)
                                               |(apply zn rfl; exact oo_; exact oo_) | (apply zz rfl; exact oo_; exact oo_) | fail)
  |refine sw_ ?_ | (refine zb ?_ ?_ <;> intro hb <;> try exact no_) | (refine sx_ ?_ <;> intro bb) | (refine su_ ?_ <;> intro u hu1 hu2) | fail)
  all_goals first | exact e5_ | skip
 ·have ct : True:=trivial
  have c3 : True:=trivial
  have cl : True:=trivial
  show zt5 T0 w h l x y b true (9,0,0,0) (inM 0 (w - 1)) (inM y (h - 1)) false l
  refine za Tryz.func19 rfl (by decide) Tryz.ntmps19 rfl ?_
  repeat' (first
  |(apply zj rfl rfl rfl rfl (c:=co)
    case ha=>exact os_
    rintro _ _ ⟨u,rfl,rfl⟩; refine zu (List.Mem.head _) fun hu1 hu2 => ?_)
   |(apply j_ rfl rfl rfl rfl (c:=ct _ _)
     case ha=>exact os_
     case hM=>exact zf
     case hM2=>exact zf
     rintro _ _ rfl
     simp only [List.cons_append,List.nil_append,List.append_eq])
   |(apply zd rfl rfl rfl rfl (c:=cl _)
     case ha=>exact os_
     case hM=>exact zf
     rintro _ _ rfl
     simp only [List.cons_append,List.nil_append,List.append_eq])
  |refine zy_ ?_
   |refine xr ?_ (hy:=by first | (apply ze rfl; exact oo_; done) | (apply ze rfl; exact qe; done)
                                 |(apply zn rfl; exact oo_; exact oo_) | (apply zz rfl; exact oo_; exact oo_) | fail)
  |refine zy9 ?_
   |refine qc ?_ (hy:=by intro hk hk2; first | (apply ze rfl; exact oo_; done) | (apply ze rfl; exact qe; done)
                                               |(apply zn rfl; exact oo_; exact oo_) | (apply zz rfl; exact oo_; exact oo_) | fail)
  |refine sw_ ?_ | (refine zb ?_ ?_ <;> intro hb <;> try exact no_) | (refine sx_ ?_ <;> intro bb) | (refine su_ ?_ <;> intro u hu1 hu2) | fail)
  all_goals first | exact e5_ | skip
 ·have c3 : True:=trivial
  have cl : True:=trivial
  have hdy : 0 ≤ yj h y ∧ yj h y < h:=by unfold yj; split <;> omega
  have ct:=fun p u=>zrd (T0:=T0) p w h u l x y false true hw hl ⟨hx.2.2.1,hx.2.2.2⟩
  have eL : kp w.toNat h.toNat l x.toNat y.toNat b (10,0,0,0) = zhl w h l y:=by
   show (if y.toNat + 1 < h.toNat then l else upB w.toNat l) = _
   unfold zhl
   by_cases e : y = h - 1
   ·rw [if_pos e,if_neg (by omega)]
   ·rw [if_neg e,if_pos (by omega)]
  have eY : (kg w h [] y).2 = yj h y:=by unfold kg yj; split <;> rfl
  rw [eL]
  show zt5 T0 w h l x y b true (10,0,0,0) x (kg w h [] y).2 false _
  rw [eY]
  generalize zhl w h l y = L at *
  generalize yj h y = Y at *
  refine zo0 (X:=inM x (w - 1)) (Y:=inM Y (h - 1)) ?_ e1 (xg hdy.1 (by omega))
  clear hri hat
  refine za Tryz.func19 rfl (by decide) Tryz.ntmps19 rfl ?_
  repeat' (first
  |(apply zj rfl rfl rfl rfl (c:=co)
    case ha=>exact os_
    rintro _ _ ⟨u,rfl,rfl⟩; refine zu (List.Mem.head _) fun hu1 hu2 => ?_)
   |(apply j_ rfl rfl rfl rfl (c:=ct _ _)
     case ha=>exact os_
     case hM=>exact zf
     case hM2=>exact zf
     rintro _ _ rfl
     simp only [List.cons_append,List.nil_append,List.append_eq])
   |(apply zd rfl rfl rfl rfl (c:=cl _)
     case ha=>exact os_
     case hM=>exact zf
     rintro _ _ rfl
     simp only [List.cons_append,List.nil_append,List.append_eq])
  |refine zy_ ?_
   |refine xr ?_ (hy:=by first | (apply ze rfl; exact oo_; done) | (apply ze rfl; exact qe; done)
                                 |(apply zn rfl; exact oo_; exact oo_) | (apply zz rfl; exact oo_; exact oo_) | fail)
  |refine zy9 ?_
   |refine qc ?_ (hy:=by intro hk hk2; first | (apply ze rfl; exact oo_; done) | (apply ze rfl; exact qe; done)
                                               |(apply zn rfl; exact oo_; exact oo_) | (apply zz rfl; exact oo_; exact oo_) | fail)
  |refine sw_ ?_ | (refine zb ?_ ?_ <;> intro hb <;> try exact no_) | (refine sx_ ?_ <;> intro bb) | (refine su_ ?_ <;> intro u hu1 hu2) | fail)
  all_goals first | exact e5_ | skip
 ·have ct : True:=trivial
  have c3 : True:=trivial
  have cl : True:=trivial
  show zt5 T0 w h l x y b true (11,0,0,0) (inM (x - 1) (w - 1)) (inM y (h - 1)) false l
  refine za Tryz.func19 rfl (by decide) Tryz.ntmps19 rfl ?_
  repeat' (first
  |(apply zj rfl rfl rfl rfl (c:=co)
    case ha=>exact os_
    rintro _ _ ⟨u,rfl,rfl⟩; refine zu (List.Mem.head _) fun hu1 hu2 => ?_)
   |(apply j_ rfl rfl rfl rfl (c:=ct _ _)
     case ha=>exact os_
     case hM=>exact zf
     case hM2=>exact zf
     rintro _ _ rfl
     simp only [List.cons_append,List.nil_append,List.append_eq])
   |(apply zd rfl rfl rfl rfl (c:=cl _)
     case ha=>exact os_
     case hM=>exact zf
     rintro _ _ rfl
     simp only [List.cons_append,List.nil_append,List.append_eq])
  |refine zy_ ?_
   |refine xr ?_ (hy:=by first | (apply ze rfl; exact oo_; done) | (apply ze rfl; exact qe; done)
                                 |(apply zn rfl; exact oo_; exact oo_) | (apply zz rfl; exact oo_; exact oo_) | fail)
  |refine zy9 ?_
   |refine qc ?_ (hy:=by intro hk hk2; first | (apply ze rfl; exact oo_; done) | (apply ze rfl; exact qe; done)
                                               |(apply zn rfl; exact oo_; exact oo_) | (apply zz rfl; exact oo_; exact oo_) | fail)
  |refine sw_ ?_ | (refine zb ?_ ?_ <;> intro hb <;> try exact no_) | (refine sx_ ?_ <;> intro bb) | (refine su_ ?_ <;> intro u hu1 hu2) | fail)
  all_goals first | exact e5_ | skip
end
end Go.Proofs.YtgfmjmfphmjdkaaGreatDoor
