/- Layer 27 (belief): Do, by the program. No condition. -/
import Derived.Test.YtgfmjmfphmjdkaaGreatDoorR3BC
import Derived.Test.YtgfmjmfphmjdkaaGreatDoorR3B1
set_option linter.unusedSimpArgs false
set_option linter.unusedVariables false
set_option linter.unusedSectionVars false
namespace Go.Proofs.YtgfmjmfphmjdkaaGreatDoor
set_option maxHeartbeats 4000000
open Go Go.RowKit
set_option maxRecDepth 100000
variable {T0 : Gh} [TabS T0]
theorem z23 {n : Int} : Sub (zy [qb [I 0,I 0,vA (.slice none 0 0),I 0,I 0,B false,B false],I n]) (zy [blA noB,I n]):=wa (qu (un (qu (Sub.refl _) (qu (Sub.refl _) (qu zoo (qu (Sub.refl _) (qu (Sub.refl _) (qu (Sub.refl _) (qu (Sub.refl _) y4)))))))) (qu (Sub.refl _) y4))
abbrev zsf (T0 : Gh) (w h : Int) (l : List zj) (x y : Int) (b s : Bool) (c : Cmd) (X Y : Int) (B' : Bool) (L : List zj) : Prop :=
 AF Tryz.prog T0 19 [zad w h l x y b s,yw c] [] (fun A M' => ∃ u,A = zy [qb [I w,I h,vA u,I X,I Y,B B',B true],I 0] ∧ M' = [gsO u L])
theorem znv {w h : Int} {l : List zj} {x y : Int} {b s : Bool} {c : Cmd} {X Y X' Y' : Int} {B' : Bool} {L : List zj} (k : zsf T0 w h l x y b s c X Y B' L) (hX : X = X') (hY : Y = Y') : zsf T0 w h l x y b s c X' Y' B' L:=by subst hX hY; exact k
theorem z7b {a d : Int} (h1 : 0 ≤ a ∧ a < 24) (h2 : 0 ≤ d ∧ d < 80) : z9 (2,a,d,0) = true:=by simp [z9]; omega
attribute [local irreducible] zz zg AW AL AO QY qh z_ rsA Opd xh vA gvA zy qb slA jl ipA rpA EqK LnK IxK LdK FaK FdK
section
variable {w h : Int} {l : List zj} {x y : Int} {b : Bool} (h1 : yx w h l x y b true = true)
include h1
theorem z0g (k a : Int) (hk : k = 3 ∨ k = 4 ∨ k = 5 ∨ k = 6) (ha : 1 ≤ a ∧ a ≤ 80) : zsf T0 w h l x y b true (k,a,0,0) (inM (if k = 5 then x + a else if k = 6 then x - a else x) (w - 1)) (inM (if k = 3 then y - a else if k = 4 then y + a else y) (h - 1)) false l:=by
 obtain ⟨hw,hx,hl,hl2,hm,hg,hl3⟩:=zbl h1
 have c1 : AP Tryz.prog T0 63 [zad w h l x y b true] (B true):=(vy w h l x y b true).to (by rw [h1])
 have c2 : AP Tryz.prog T0 65 [yw (k,a,0,0)] (B true):=(wi (k,a,0,0)).to (by rw [z5_ hk ha])
 have co:=zd3 (T0:=T0) w h l x y b true (by omega)
 have c3 : True:=trivial
 have ct : True:=trivial
 have cl : True:=trivial
 rcases hk with rfl | rfl | rfl | rfl
 ·replace c2 : AP Tryz.prog T0 65 [qb [I 3,I a,I 0,R 0]] (B true):=c2
  show zsf T0 w h l x y b true (3,a,0,0) (inM x (w - 1)) (inM (y - a) (h - 1)) false l
  show AF _ _ _ [_,qb [I 3,I a,I 0,R 0]] _ _
  refine za Tryz.func19 rfl (by decide) Tryz.ntmps19 rfl ?_
  repeat' (first
  |(apply zt rfl rfl rfl rfl (c:=co)
    case ha=>exact os_
    rintro _ _ ⟨u,rfl,rfl⟩; refine qq (List.Mem.head _) fun hu1 hu2 => ?_)
   |(apply j9 rfl rfl rfl rfl (c:=ct _ _)
     case ha=>exact os_
     case hM=>exact zf
     case hM2=>exact zf
     rintro _ _ rfl
     simp only [List.cons_append,List.nil_append,List.append_eq])
   |(apply zb rfl rfl rfl rfl (c:=cl _)
     case ha=>exact os_
     case hM=>exact zf
     rintro _ _ rfl
     simp only [List.cons_append,List.nil_append,List.append_eq])
  |refine zxm ?_
   |refine jd ?_ (hy:=by first | (apply ze rfl; exact oo_; done) | (apply ze rfl; exact ql; done)
                                 |(apply zn rfl; exact oo_; exact oo_) | (apply zx rfl; exact oo_; exact oo_) | fail)
  |refine zxl ?_
   |refine qj ?_ (hy:=by intro hk hk2; first | (apply ze rfl; exact oo_; done) | (apply ze rfl; exact ql; done)
                                               |(apply zn rfl; exact oo_; exact oo_) | (apply zx rfl; exact oo_; exact oo_) | fail)
  |refine sw_ ?_ | (refine zd ?_ ?_ <;> intro hb <;> try exact no_) | (refine sx_ ?_ <;> intro bb) | (refine su_ ?_ <;> intro u hu1 hu2) | fail)
  all_goals first | exact e6_ | skip
 ·replace c2 : AP Tryz.prog T0 65 [qb [I 4,I a,I 0,R 0]] (B true):=c2
  show zsf T0 w h l x y b true (4,a,0,0) (inM x (w - 1)) (inM (y + a) (h - 1)) false l
  show AF _ _ _ [_,qb [I 4,I a,I 0,R 0]] _ _
  refine za Tryz.func19 rfl (by decide) Tryz.ntmps19 rfl ?_
  repeat' (first
  |(apply zt rfl rfl rfl rfl (c:=co)
    case ha=>exact os_
    rintro _ _ ⟨u,rfl,rfl⟩; refine qq (List.Mem.head _) fun hu1 hu2 => ?_)
   |(apply j9 rfl rfl rfl rfl (c:=ct _ _)
     case ha=>exact os_
     case hM=>exact zf
     case hM2=>exact zf
     rintro _ _ rfl
     simp only [List.cons_append,List.nil_append,List.append_eq])
   |(apply zb rfl rfl rfl rfl (c:=cl _)
     case ha=>exact os_
     case hM=>exact zf
     rintro _ _ rfl
     simp only [List.cons_append,List.nil_append,List.append_eq])
  |refine zxm ?_
   |refine jd ?_ (hy:=by first | (apply ze rfl; exact oo_; done) | (apply ze rfl; exact ql; done)
                                 |(apply zn rfl; exact oo_; exact oo_) | (apply zx rfl; exact oo_; exact oo_) | fail)
  |refine zxl ?_
   |refine qj ?_ (hy:=by intro hk hk2; first | (apply ze rfl; exact oo_; done) | (apply ze rfl; exact ql; done)
                                               |(apply zn rfl; exact oo_; exact oo_) | (apply zx rfl; exact oo_; exact oo_) | fail)
  |refine sw_ ?_ | (refine zd ?_ ?_ <;> intro hb <;> try exact no_) | (refine sx_ ?_ <;> intro bb) | (refine su_ ?_ <;> intro u hu1 hu2) | fail)
  all_goals first | exact e6_ | skip
 ·replace c2 : AP Tryz.prog T0 65 [qb [I 5,I a,I 0,R 0]] (B true):=c2
  show zsf T0 w h l x y b true (5,a,0,0) (inM (x + a) (w - 1)) (inM y (h - 1)) false l
  show AF _ _ _ [_,qb [I 5,I a,I 0,R 0]] _ _
  refine za Tryz.func19 rfl (by decide) Tryz.ntmps19 rfl ?_
  repeat' (first
  |(apply zt rfl rfl rfl rfl (c:=co)
    case ha=>exact os_
    rintro _ _ ⟨u,rfl,rfl⟩; refine qq (List.Mem.head _) fun hu1 hu2 => ?_)
   |(apply j9 rfl rfl rfl rfl (c:=ct _ _)
     case ha=>exact os_
     case hM=>exact zf
     case hM2=>exact zf
     rintro _ _ rfl
     simp only [List.cons_append,List.nil_append,List.append_eq])
   |(apply zb rfl rfl rfl rfl (c:=cl _)
     case ha=>exact os_
     case hM=>exact zf
     rintro _ _ rfl
     simp only [List.cons_append,List.nil_append,List.append_eq])
  |refine zxm ?_
   |refine jd ?_ (hy:=by first | (apply ze rfl; exact oo_; done) | (apply ze rfl; exact ql; done)
                                 |(apply zn rfl; exact oo_; exact oo_) | (apply zx rfl; exact oo_; exact oo_) | fail)
  |refine zxl ?_
   |refine qj ?_ (hy:=by intro hk hk2; first | (apply ze rfl; exact oo_; done) | (apply ze rfl; exact ql; done)
                                               |(apply zn rfl; exact oo_; exact oo_) | (apply zx rfl; exact oo_; exact oo_) | fail)
  |refine sw_ ?_ | (refine zd ?_ ?_ <;> intro hb <;> try exact no_) | (refine sx_ ?_ <;> intro bb) | (refine su_ ?_ <;> intro u hu1 hu2) | fail)
  all_goals first | exact e6_ | skip
 ·replace c2 : AP Tryz.prog T0 65 [qb [I 6,I a,I 0,R 0]] (B true):=c2
  show zsf T0 w h l x y b true (6,a,0,0) (inM (x - a) (w - 1)) (inM y (h - 1)) false l
  show AF _ _ _ [_,qb [I 6,I a,I 0,R 0]] _ _
  refine za Tryz.func19 rfl (by decide) Tryz.ntmps19 rfl ?_
  repeat' (first
  |(apply zt rfl rfl rfl rfl (c:=co)
    case ha=>exact os_
    rintro _ _ ⟨u,rfl,rfl⟩; refine qq (List.Mem.head _) fun hu1 hu2 => ?_)
   |(apply j9 rfl rfl rfl rfl (c:=ct _ _)
     case ha=>exact os_
     case hM=>exact zf
     case hM2=>exact zf
     rintro _ _ rfl
     simp only [List.cons_append,List.nil_append,List.append_eq])
   |(apply zb rfl rfl rfl rfl (c:=cl _)
     case ha=>exact os_
     case hM=>exact zf
     rintro _ _ rfl
     simp only [List.cons_append,List.nil_append,List.append_eq])
  |refine zxm ?_
   |refine jd ?_ (hy:=by first | (apply ze rfl; exact oo_; done) | (apply ze rfl; exact ql; done)
                                 |(apply zn rfl; exact oo_; exact oo_) | (apply zx rfl; exact oo_; exact oo_) | fail)
  |refine zxl ?_
   |refine qj ?_ (hy:=by intro hk hk2; first | (apply ze rfl; exact oo_; done) | (apply ze rfl; exact ql; done)
                                               |(apply zn rfl; exact oo_; exact oo_) | (apply zx rfl; exact oo_; exact oo_) | fail)
  |refine sw_ ?_ | (refine zd ?_ ?_ <;> intro hb <;> try exact no_) | (refine sx_ ?_ <;> intro bb) | (refine su_ ?_ <;> intro u hu1 hu2) | fail)
  all_goals first | exact e6_ | skip
theorem zrr (r : Int) (hs : ja r = true) : zsf T0 w h l x y b true (1,0,0,r) (yj w h x y b (1,0,0,r)).1 (yj w h x y b (1,0,0,r)).2.1 (yj w h x y b (1,0,0,r)).2.2 (j_ w.toNat h.toNat l x.toNat y.toNat b (1,0,0,r)):=by
 obtain ⟨hw,hx,hl,hl2,hm,hg,hl3⟩:=zbl h1
 have c1 : AP Tryz.prog T0 63 [zad w h l x y b true] (B true):=(vy w h l x y b true).to (by rw [h1])
 have c2 : AP Tryz.prog T0 65 [yw (1,0,0,r)] (B true):=(wi (1,0,0,r)).to (by rw [show z9 (1,0,0,r) = true by simp [z9,hs]])
 have co:=zd3 (T0:=T0) w h l x y b true (by omega)
 have c3 : True:=trivial
 have cl : True:=trivial
 have ct:=fun p u=>z0e (T0:=T0) p w h u l x y b r h1 hs
 generalize j_ w.toNat h.toNat l x.toNat y.toNat b (1,0,0,r) = L at *
 generalize yj w h x y b (1,0,0,r) = z at *
 obtain ⟨X,Y,Z⟩:=z
 dsimp only at ct ⊢
 refine za Tryz.func19 rfl (by decide) Tryz.ntmps19 rfl ?_
 repeat' (first
 |(apply zt rfl rfl rfl rfl (c:=co)
   case ha=>exact os_
   rintro _ _ ⟨u,rfl,rfl⟩; refine qq (List.Mem.head _) fun hu1 hu2 => ?_)
  |(apply j9 rfl rfl rfl rfl (c:=ct _ _)
    case ha=>exact os_
    case hM=>exact zf
    case hM2=>exact zf
    rintro _ _ rfl
    simp only [List.cons_append,List.nil_append,List.append_eq])
  |(apply zb rfl rfl rfl rfl (c:=cl _)
    case ha=>exact os_
    case hM=>exact zf
    rintro _ _ rfl
    simp only [List.cons_append,List.nil_append,List.append_eq])
 |refine zxm ?_
  |refine jd ?_ (hy:=by first | (apply ze rfl; exact oo_; done) | (apply ze rfl; exact ql; done)
                                |(apply zn rfl; exact oo_; exact oo_) | (apply zx rfl; exact oo_; exact oo_) | fail)
 |refine zxl ?_
  |refine qj ?_ (hy:=by intro hk hk2; first | (apply ze rfl; exact oo_; done) | (apply ze rfl; exact ql; done)
                                              |(apply zn rfl; exact oo_; exact oo_) | (apply zx rfl; exact oo_; exact oo_) | fail)
 |refine sw_ ?_ | (refine zd ?_ ?_ <;> intro hb <;> try exact no_) | (refine sx_ ?_ <;> intro bb) | (refine su_ ?_ <;> intro u hu1 hu2) | fail)
 all_goals first | exact e6_ | skip
theorem z4m (k : Int) (hk : k = 7 ∨ k = 8 ∨ k = 9 ∨ k = 10 ∨ k = 11) : zsf T0 w h l x y b true (k,0,0,0) (yj w h x y b (k,0,0,0)).1 (yj w h x y b (k,0,0,0)).2.1 false (j_ w.toNat h.toNat l x.toNat y.toNat b (k,0,0,0)):=by
 obtain ⟨hw,hx,hl,hl2,hm,hg,hl3⟩:=zbl h1
 have c1 : AP Tryz.prog T0 63 [zad w h l x y b true] (B true):=(vy w h l x y b true).to (by rw [h1])
 have c2 : AP Tryz.prog T0 65 [yw (k,0,0,0)] (B true):=(wi (k,0,0,0)).to (by rw [show z9 (k,0,0,0) = true by rcases hk with rfl | rfl | rfl | rfl | rfl <;> rfl])
 have co:=zd3 (T0:=T0) w h l x y b true (by omega)
 have e1:=zav hx.1 (show x ≤ w - 1 by omega)
 have e2:=zav hx.2.2.1 (show y ≤ h - 1 by omega)
 have hlen:=Int.toNat_of_nonneg (show 0 ≤ w by omega)
 have hlen2:=Int.toNat_of_nonneg (show 0 ≤ h by omega)
 have hlx:=Int.toNat_of_nonneg hx.1
 have hly:=Int.toNat_of_nonneg hx.2.2.1
 have hat:=zi9 (w:=w) (x:=x) (y:=y) (by omega) (by omega) (by omega)
 have hri:=zbt (h:=h.toNat) (w:=w.toNat) (y:=y.toNat) (x:=x.toNat) (n:=w.toNat - x.toNat) (by omega) (by omega)
 rcases hk with rfl | rfl | rfl | rfl | rfl
 ·have ct : True:=trivial
  have c3:=zvj (T0:=T0) (w - x) (by omega) (by omega)
  have cl:=fun u=>(zfp (T0:=T0) w h u l x y false true (y * w + x) (List.replicate (w - x).toNat (32,0)) (by omega) (by omega) (by omega) (by omega) (by
   have : (y * w + x).toNat + (w.toNat - x.toNat) ≤ l.length:=by rw [hat,hl3]; exact hri
   simp; omega) (by
   rw [hat,List.length_replicate,show (w - x).toNat = w.toNat - x.toNat by omega]
   exact zjt (h:=h.toNat) hl3 hri)).toL (L':=[gsO u (j_ w.toNat h.toNat l x.toNat y.toNat b (7,0,0,0))]) (by
   show _ = [gsO u (yi w.toNat l (y.toNat * w.toNat + x.toNat) (List.replicate (w.toNat - x.toNat) (32,0)))]
   rw [hat,show (w - x).toNat = w.toNat - x.toNat by omega])
  generalize j_ w.toNat h.toNat l x.toNat y.toNat b (7,0,0,0) = L at *
  refine znv (X:=inM x (w - 1)) (Y:=inM y (h - 1)) ?_ e1 e2
  clear hri hat
  refine za Tryz.func19 rfl (by decide) Tryz.ntmps19 rfl ?_
  repeat' (first
  |(apply zt rfl rfl rfl rfl (c:=co)
    case ha=>exact os_
    rintro _ _ ⟨u,rfl,rfl⟩; refine qq (List.Mem.head _) fun hu1 hu2 => ?_)
   |(apply j9 rfl rfl rfl rfl (c:=ct _ _)
     case ha=>exact os_
     case hM=>exact zf
     case hM2=>exact zf
     rintro _ _ rfl
     simp only [List.cons_append,List.nil_append,List.append_eq])
   |(apply zb rfl rfl rfl rfl (c:=cl _)
     case ha=>exact os_
     case hM=>exact zf
     rintro _ _ rfl
     simp only [List.cons_append,List.nil_append,List.append_eq])
  |refine zxm ?_
   |refine jd ?_ (hy:=by first | (apply ze rfl; exact oo_; done) | (apply ze rfl; exact ql; done)
                                 |(apply zn rfl; exact oo_; exact oo_) | (apply zx rfl; exact oo_; exact oo_) | fail)
  |refine zxl ?_
   |refine qj ?_ (hy:=by intro hk hk2; first | (apply ze rfl; exact oo_; done) | (apply ze rfl; exact ql; done)
                                               |(apply zn rfl; exact oo_; exact oo_) | (apply zx rfl; exact oo_; exact oo_) | fail)
  |refine sw_ ?_ | (refine zd ?_ ?_ <;> intro hb <;> try exact no_) | (refine sx_ ?_ <;> intro bb) | (refine su_ ?_ <;> intro u hu1 hu2) | fail)
  all_goals first | exact e6_ | skip
 ·have ct : True:=trivial
  have hp : (y * w + x).toNat ≤ l.length:=by rw [hat,hl3]; omega
  have c3:=zvj (T0:=T0) (l.length - (y * w + x)) (by omega) (by omega)
  have cl:=fun u=>(zfp (T0:=T0) w h u l x y false true (y * w + x) (List.replicate ((l.length : Int) - (y * w + x)).toNat (32,0)) (by omega) (by omega) (by omega) (by omega) (by simp; omega) (by
   rw [List.length_replicate]
   refine zjt (h:=h.toNat) hl3 ?_
   omega)).toL (L':=[gsO u (j_ w.toNat h.toNat l x.toNat y.toNat b (8,0,0,0))]) (by
   show _ = [gsO u (yi w.toNat l (y.toNat * w.toNat + x.toNat) (List.replicate (l.length - (y.toNat * w.toNat + x.toNat)) (32,0)))]
   rw [← hat,show ((l.length : Int) - (y * w + x)).toNat = l.length - (y * w + x).toNat by omega])
  generalize j_ w.toNat h.toNat l x.toNat y.toNat b (8,0,0,0) = L at *
  refine znv (X:=inM x (w - 1)) (Y:=inM y (h - 1)) ?_ e1 e2
  clear hri hat
  refine za Tryz.func19 rfl (by decide) Tryz.ntmps19 rfl ?_
  repeat' (first
  |(apply zt rfl rfl rfl rfl (c:=co)
    case ha=>exact os_
    rintro _ _ ⟨u,rfl,rfl⟩; refine qq (List.Mem.head _) fun hu1 hu2 => ?_)
   |(apply j9 rfl rfl rfl rfl (c:=ct _ _)
     case ha=>exact os_
     case hM=>exact zf
     case hM2=>exact zf
     rintro _ _ rfl
     simp only [List.cons_append,List.nil_append,List.append_eq])
   |(apply zb rfl rfl rfl rfl (c:=cl _)
     case ha=>exact os_
     case hM=>exact zf
     rintro _ _ rfl
     simp only [List.cons_append,List.nil_append,List.append_eq])
  |refine zxm ?_
   |refine jd ?_ (hy:=by first | (apply ze rfl; exact oo_; done) | (apply ze rfl; exact ql; done)
                                 |(apply zn rfl; exact oo_; exact oo_) | (apply zx rfl; exact oo_; exact oo_) | fail)
  |refine zxl ?_
   |refine qj ?_ (hy:=by intro hk hk2; first | (apply ze rfl; exact oo_; done) | (apply ze rfl; exact ql; done)
                                               |(apply zn rfl; exact oo_; exact oo_) | (apply zx rfl; exact oo_; exact oo_) | fail)
  |refine sw_ ?_ | (refine zd ?_ ?_ <;> intro hb <;> try exact no_) | (refine sx_ ?_ <;> intro bb) | (refine su_ ?_ <;> intro u hu1 hu2) | fail)
  all_goals first | exact e6_ | skip
 ·have ct : True:=trivial
  have c3 : True:=trivial
  have cl : True:=trivial
  show zsf T0 w h l x y b true (9,0,0,0) (inM 0 (w - 1)) (inM y (h - 1)) false l
  refine za Tryz.func19 rfl (by decide) Tryz.ntmps19 rfl ?_
  repeat' (first
  |(apply zt rfl rfl rfl rfl (c:=co)
    case ha=>exact os_
    rintro _ _ ⟨u,rfl,rfl⟩; refine qq (List.Mem.head _) fun hu1 hu2 => ?_)
   |(apply j9 rfl rfl rfl rfl (c:=ct _ _)
     case ha=>exact os_
     case hM=>exact zf
     case hM2=>exact zf
     rintro _ _ rfl
     simp only [List.cons_append,List.nil_append,List.append_eq])
   |(apply zb rfl rfl rfl rfl (c:=cl _)
     case ha=>exact os_
     case hM=>exact zf
     rintro _ _ rfl
     simp only [List.cons_append,List.nil_append,List.append_eq])
  |refine zxm ?_
   |refine jd ?_ (hy:=by first | (apply ze rfl; exact oo_; done) | (apply ze rfl; exact ql; done)
                                 |(apply zn rfl; exact oo_; exact oo_) | (apply zx rfl; exact oo_; exact oo_) | fail)
  |refine zxl ?_
   |refine qj ?_ (hy:=by intro hk hk2; first | (apply ze rfl; exact oo_; done) | (apply ze rfl; exact ql; done)
                                               |(apply zn rfl; exact oo_; exact oo_) | (apply zx rfl; exact oo_; exact oo_) | fail)
  |refine sw_ ?_ | (refine zd ?_ ?_ <;> intro hb <;> try exact no_) | (refine sx_ ?_ <;> intro bb) | (refine su_ ?_ <;> intro u hu1 hu2) | fail)
  all_goals first | exact e6_ | skip
 ·have c3 : True:=trivial
  have cl : True:=trivial
  have hdy : 0 ≤ yf h y ∧ yf h y < h:=by unfold yf; split <;> omega
  have ct:=fun p u=>zpw (T0:=T0) p w h u l x y false true hw hl ⟨hx.2.2.1,hx.2.2.2⟩
  have eL : j_ w.toNat h.toNat l x.toNat y.toNat b (10,0,0,0) = zhd w h l y:=by
   show (if y.toNat + 1 < h.toNat then l else upB w.toNat l) = _
   unfold zhd
   by_cases e : y = h - 1
   ·rw [if_pos e,if_neg (by omega)]
   ·rw [if_neg e,if_pos (by omega)]
  have eY : (kj w h [] y).2 = yf h y:=by unfold kj yf; split <;> rfl
  rw [eL]
  show zsf T0 w h l x y b true (10,0,0,0) x (kj w h [] y).2 false _
  rw [eY]
  generalize zhd w h l y = L at *
  generalize yf h y = Y at *
  refine znv (X:=inM x (w - 1)) (Y:=inM Y (h - 1)) ?_ e1 (zav hdy.1 (by omega))
  clear hri hat
  refine za Tryz.func19 rfl (by decide) Tryz.ntmps19 rfl ?_
  repeat' (first
  |(apply zt rfl rfl rfl rfl (c:=co)
    case ha=>exact os_
    rintro _ _ ⟨u,rfl,rfl⟩; refine qq (List.Mem.head _) fun hu1 hu2 => ?_)
   |(apply j9 rfl rfl rfl rfl (c:=ct _ _)
     case ha=>exact os_
     case hM=>exact zf
     case hM2=>exact zf
     rintro _ _ rfl
     simp only [List.cons_append,List.nil_append,List.append_eq])
   |(apply zb rfl rfl rfl rfl (c:=cl _)
     case ha=>exact os_
     case hM=>exact zf
     rintro _ _ rfl
     simp only [List.cons_append,List.nil_append,List.append_eq])
  |refine zxm ?_
   |refine jd ?_ (hy:=by first | (apply ze rfl; exact oo_; done) | (apply ze rfl; exact ql; done)
                                 |(apply zn rfl; exact oo_; exact oo_) | (apply zx rfl; exact oo_; exact oo_) | fail)
  |refine zxl ?_
   |refine qj ?_ (hy:=by intro hk hk2; first | (apply ze rfl; exact oo_; done) | (apply ze rfl; exact ql; done)
                                               |(apply zn rfl; exact oo_; exact oo_) | (apply zx rfl; exact oo_; exact oo_) | fail)
  |refine sw_ ?_ | (refine zd ?_ ?_ <;> intro hb <;> try exact no_) | (refine sx_ ?_ <;> intro bb) | (refine su_ ?_ <;> intro u hu1 hu2) | fail)
  all_goals first | exact e6_ | skip
 ·have ct : True:=trivial
  have c3 : True:=trivial
  have cl : True:=trivial
  show zsf T0 w h l x y b true (11,0,0,0) (inM (x - 1) (w - 1)) (inM y (h - 1)) false l
  refine za Tryz.func19 rfl (by decide) Tryz.ntmps19 rfl ?_
  repeat' (first
  |(apply zt rfl rfl rfl rfl (c:=co)
    case ha=>exact os_
    rintro _ _ ⟨u,rfl,rfl⟩; refine qq (List.Mem.head _) fun hu1 hu2 => ?_)
   |(apply j9 rfl rfl rfl rfl (c:=ct _ _)
     case ha=>exact os_
     case hM=>exact zf
     case hM2=>exact zf
     rintro _ _ rfl
     simp only [List.cons_append,List.nil_append,List.append_eq])
   |(apply zb rfl rfl rfl rfl (c:=cl _)
     case ha=>exact os_
     case hM=>exact zf
     rintro _ _ rfl
     simp only [List.cons_append,List.nil_append,List.append_eq])
  |refine zxm ?_
   |refine jd ?_ (hy:=by first | (apply ze rfl; exact oo_; done) | (apply ze rfl; exact ql; done)
                                 |(apply zn rfl; exact oo_; exact oo_) | (apply zx rfl; exact oo_; exact oo_) | fail)
  |refine zxl ?_
   |refine qj ?_ (hy:=by intro hk hk2; first | (apply ze rfl; exact oo_; done) | (apply ze rfl; exact ql; done)
                                               |(apply zn rfl; exact oo_; exact oo_) | (apply zx rfl; exact oo_; exact oo_) | fail)
  |refine sw_ ?_ | (refine zd ?_ ?_ <;> intro hb <;> try exact no_) | (refine sx_ ?_ <;> intro bb) | (refine su_ ?_ <;> intro u hu1 hu2) | fail)
  all_goals first | exact e6_ | skip
end
end Go.Proofs.YtgfmjmfphmjdkaaGreatDoor
