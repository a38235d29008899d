/- Layer 28 (motion): what leads there, by the program. No condition. -/
import Derived.Test.YtgfmjmfphmjdkaaGreatDoorR3B1
import Derived.Test.YtgfmjmfphmjdkaaGreatDoorR3H1
import Derived.Test.YtgfmjmfphmjdkaaGreatDoorR3O2
set_option linter.unusedSimpArgs false
set_option linter.unusedVariables false
set_option linter.unusedSectionVars false
namespace Go.Proofs.YtgfmjmfphmjdkaaGreatDoor
set_option maxHeartbeats 4000000
open Go Go.RowKit
variable {T0 : Gh} [TabS T0]
attribute [local irreducible] zz zg AW AL AO QY qh z_ rsA Opd xh vA gvA zy qb slA jl ipA rpA EqK LnK IxK LdK FaK FdK
set_option maxRecDepth 100000
theorem z_e {α : Type _} (r a b c d e : α) : List.Perm [r,a,b,c,d,e] [a,b,c,r,d,e]:=(List.perm_middle (l₁:=[a,b,c]) (a:=r) (l₂:=[d,e])).symm
theorem zvp (w h : Int) (l : List zj) (x y : Int) (b s : Bool) (X Y : Int) (hn : ¬ (yx w h l x y b s = true ∧ 0 ≤ X ∧ X < w ∧ 0 ≤ Y ∧ Y < h)) : AP Tryz.prog T0 54 [zad w h l x y b s,I X,I Y] (zy [yw (0,0,0,0),I 1]):=by
 have ci:=vy (T0:=T0) w h l x y b s
 generalize yx w h l x y b s = ok at *
 refine za Tryz.func54 rfl (by decide) Tryz.ntmps54 rfl ?_
 repeat' (first
 |refine z_4 ?_ | (refine zd ?_ ?_ <;> intro hb <;> try exact no_) | (refine sx_ ?_ <;> intro bb) | (refine su_ ?_ <;> intro u hu1 hu2) | fail)
 all_goals first | exact ⟨_,[],rl_,List.nil_sublist _,Sub.refl _,rfl⟩ | (exfalso; rename_i hb0; simp at hb0; exact hn ⟨hb0.1.1.1.1,hb0.1.1.1.2,hb0.1.1.2,hb0.1.2,hb0.2⟩) | (exfalso; rename_i hb0 hb1; simp at hb0; exact hn ⟨hb0.1.1.1.1,hb0.1.1.1.2,hb0.1.1.2,hb0.1.2,hb0.2⟩) | skip
theorem zvo (w h : Int) (l : List zj) (x y : Int) (b s : Bool) (X Y : Int) (hn : yx w h l x y b s = true ∧ 0 ≤ X ∧ X < w ∧ 0 ≤ Y ∧ Y < h) (hs : s = false) : AP Tryz.prog T0 54 [zad w h l x y b s,I X,I Y] (zy [yw (goC X Y),I 0]):=by
 have ci:=vy (T0:=T0) w h l x y b s
 obtain ⟨ho,h1,h2,h3,h4⟩:=hn
 rw [ho] at ci
 subst hs
 refine za Tryz.func54 rfl (by decide) Tryz.ntmps54 rfl ?_
 repeat' (first
 |refine z_4 ?_ | (refine zd ?_ ?_ <;> intro hb <;> try exact no_) | (refine sx_ ?_ <;> intro bb) | (refine su_ ?_ <;> intro u hu1 hu2) | fail)
 all_goals first | exact ⟨_,[],rl_,List.nil_sublist _,Sub.refl _,rfl⟩ | (exfalso; simp at hb; omega) | skip
theorem zvn (w h : Int) (l : List zj) (x y : Int) (b s : Bool) (X Y : Int) (hn : yx w h l x y b s = true ∧ 0 ≤ X ∧ X < w ∧ 0 ≤ Y ∧ Y < h) (hs : s = true) (ht : x = X ∧ y = Y ∧ b = false) : AP Tryz.prog T0 54 [zad w h l x y b s,I X,I Y] (zy [yw (0,0,0,0),I 7]):=by
 have ci:=vy (T0:=T0) w h l x y b s
 obtain ⟨ho,h1,h2,h3,h4⟩:=hn
 rw [ho] at ci
 obtain ⟨rfl,rfl,rfl⟩:=ht
 subst hs
 refine za Tryz.func54 rfl (by decide) Tryz.ntmps54 rfl ?_
 repeat' (first
 |refine z_4 ?_ | (refine zd ?_ ?_ <;> intro hb <;> try exact no_) | (refine sx_ ?_ <;> intro bb) | (refine su_ ?_ <;> intro u hu1 hu2) | fail)
 all_goals first | exact ⟨_,[],rl_,List.nil_sublist _,Sub.refl _,rfl⟩ | (exfalso; simp at hb; omega) | (exfalso; simp at hb; done) | skip
theorem zhi (c : Cmd) : qr [c] = jb c:=by simp [qr]
theorem zvm (w h : Int) (l : List zj) (x y : Int) (b s : Bool) (X Y : Int) (hn : yx w h l x y b s = true ∧ 0 ≤ X ∧ X < w ∧ 0 ≤ Y ∧ Y < h) (hs : s = true) (ht : ¬ (x = X ∧ y = Y ∧ b = false)) : AP Tryz.prog T0 54 [zad w h l x y b s,I X,I Y] (zy [yw (ya (vx h x y X Y) (goC X Y)),I 0]):=by
 have ci:=vy (T0:=T0) w h l x y b s
 have cv1 : True:=trivial
 have cv2 : True:=trivial
 obtain ⟨ho,h1,h2,h3,h4⟩:=hn
 rw [ho] at ci
 obtain ⟨w',h',e1,e2,w2,w3,w4,w5,hl,hk,p1,p2⟩:=qn.1 ho
 obtain ⟨q1,q2,q3,q4,q5⟩:=p1 hs
 have hx:=fun b3 b4 b5=>z2s w h l x y b s X Y b3 b4 b5 (by omega) (by omega) (by omega) (by omega) (by omega)
 subst hs
 generalize vx h x y X Y = ML at *
 refine zmq Tryz.func54 rfl (by decide) Tryz.ntmps54 rfl ?_
 refine zcb ?_
 repeat' (first
 |(apply zt rfl rfl rfl rfl (c:=zb7 w h l x y b true X Y)
   case ha=>exact os_
   rintro _ _ ⟨b3,b4,b5,rfl,rfl⟩)
 |refine z33 ?_ | (refine zd ?_ ?_ <;> intro hb <;> try exact no_) | (refine sx_ ?_ <;> intro bb) | (refine su_ ?_ <;> intro u hu1 hu2) | fail)
 refine zcb ?_
 repeat' (first
 |(apply zt rfl rfl rfl rfl (c:=zb7 w h l x y b true X Y)
   case ha=>exact os_
   rintro _ _ ⟨b3,b4,b5,rfl,rfl⟩)
 |refine z33 ?_ | (refine zd ?_ ?_ <;> intro hb <;> try exact no_) | (refine sx_ ?_ <;> intro bb) | (refine su_ ?_ <;> intro u hu1 hu2) | fail)
 refine zcb ?_
 repeat' (first
 |(apply zt rfl rfl rfl rfl (c:=zb7 w h l x y b true X Y)
   case ha=>exact os_
   rintro _ _ ⟨b3,b4,b5,rfl,rfl⟩)
 |refine z33 ?_ | (refine zd ?_ ?_ <;> intro hb <;> try exact no_) | (refine sx_ ?_ <;> intro bb) | (refine su_ ?_ <;> intro u hu1 hu2) | fail)
 all_goals first | (exfalso; omega) | (exfalso; simp at hb; omega) | (exfalso; exact ht ⟨hb.1.1,hb.1.2,hb.2⟩) | (exfalso; simp at hb; exact ht ⟨hb.1.1,hb.1.2,hb.2⟩) | skip
 refine zp_ ?_
 refine zcb ?_
 repeat' (first
 |(apply zt rfl rfl rfl rfl (c:=zb7 w h l x y b true X Y)
   case ha=>exact os_
   rintro _ _ ⟨b3,b4,b5,rfl,rfl⟩)
 |refine z33 ?_ | (refine zd ?_ ?_ <;> intro hb <;> try exact no_) | (refine sx_ ?_ <;> intro bb) | (refine su_ ?_ <;> intro u hu1 hu2) | fail)
 refine zml ?_
 rename_i a3 a6 _
 refine zmk (fun _=>True) (fun _=>False) (fun pre=>[qh bb 35 [I (ya pre (goC X Y)).1,I (ya pre (goC X Y)).2.1,I (ya pre (goC X Y)).2.2.1,R (ya pre (goC X Y)).2.2.2]]) (fun _=>[]) [_,_,_] [_,_] trivial (z_e _ _ _ _ _ _) rfl (hx _ _ _) rfl ?_ ?_ ?_
 ·intro lo pre c t hpr _
  obtain ⟨k1,a1,e1,r1⟩:=c
  have hsn:=zr3 pre (k1,a1,e1,r1) (goC X Y)
  obtain ⟨⟨k2,a2,e2,r2⟩,hbe⟩ : ∃ z,z = ya pre (goC X Y):=⟨_,rfl⟩
  rw [← hbe] at hsn
  have cv1:=zbc (T0:=T0) [(k1,a1,e1,r1)] (by simp)
  have cv2:=zbc (T0:=T0) [(k2,a2,e2,r2)] (by simp)
  rw [zhi] at cv1 cv2
  by_cases hlt : jb (k1,a1,e1,r1) < jb (k2,a2,e2,r2)
  ·rw [if_pos hlt] at hsn
   rw [hsn,← hbe]
   repeat' (first
   |(apply zt rfl rfl rfl rfl (c:=zb7 w h l x y b true X Y)
     case ha=>exact os_
     rintro _ _ ⟨b3,b4,b5,rfl,rfl⟩)
   |refine zn7 ?_ | refine zhp ?_ | refine zca rfl (by (repeat' (first | refine zqv ?_ | refine zqw ?_)); first | exact ud | exact zij) ?_ | refine zb_ rfl (by kernel_rfl) rfl (by (repeat' (first | refine zqv ?_ | refine zqw ?_)); first | exact ud | exact zij) ?_ | refine zko ?_ | refine zn8 ?_ | (refine zkp rfl ?_ ?_ <;> intro hb) | refine z33 ?_ | (refine zd ?_ ?_ <;> intro hb <;> try exact no_) | (refine sx_ ?_ <;> intro bb) | (refine su_ ?_ <;> intro u hu1 hu2) | fail)
   all_goals first | (exfalso; simp at hb; omega) | exact ⟨trivial,List.Sublist.cons _ (List.Sublist.refl _)⟩ | skip
  ·rw [if_neg hlt] at hsn
   rw [hsn,← hbe]
   repeat' (first
   |(apply zt rfl rfl rfl rfl (c:=zb7 w h l x y b true X Y)
     case ha=>exact os_
     rintro _ _ ⟨b3,b4,b5,rfl,rfl⟩)
   |refine zn7 ?_ | refine zhp ?_ | refine zca rfl (by (repeat' (first | refine zqv ?_ | refine zqw ?_)); first | exact ud | exact zij) ?_ | refine zb_ rfl (by kernel_rfl) rfl (by (repeat' (first | refine zqv ?_ | refine zqw ?_)); first | exact ud | exact zij) ?_ | refine zko ?_ | refine zn8 ?_ | (refine zkp rfl ?_ ?_ <;> intro hb) | refine z33 ?_ | (refine zd ?_ ?_ <;> intro hb <;> try exact no_) | (refine sx_ ?_ <;> intro bb) | (refine su_ ?_ <;> intro u hu1 hu2) | fail)
   all_goals first | (exfalso; simp at hb; omega) | exact ⟨trivial,List.Sublist.cons _ (List.Sublist.refl _)⟩ | skip
 ·intro d _
  refine z7a (z2m ?_)
  generalize ya ML (goC X Y) = z at *
  repeat' (first
  |(apply zt rfl rfl rfl rfl (c:=zb7 w h l x y b true X Y)
    case ha=>exact os_
    rintro _ _ ⟨b3,b4,b5,rfl,rfl⟩)
  |refine z33 ?_ | (refine zd ?_ ?_ <;> intro hb <;> try exact no_) | (refine sx_ ?_ <;> intro bb) | (refine su_ ?_ <;> intro u hu1 hu2) | fail)
  exact zcj rl_ (List.nil_sublist _) ⟨Sub.refl _,rfl⟩
 ·intro d pre t _ hf
  exact hf.elim
theorem zpu (w h : Int) (l : List zj) (x y : Int) (b s : Bool) (X Y : Int) : AP Tryz.prog T0 54 [zad w h l x y b s,I X,I Y] (zy [yw (xc (w,h,l,x,y,b,s) X Y).1,I (xc (w,h,l,x,y,b,s) X Y).2]):=by
 by_cases hn : yx w h l x y b s = true ∧ 0 ≤ X ∧ X < w ∧ 0 ≤ Y ∧ Y < h
 ·cases s with
  |false =>
   have e : xc (w,h,l,x,y,b,false) X Y = (goC X Y,0):=by unfold xc; rw [if_neg (fun z=>z hn),if_pos rfl]
   rw [e]; exact zvo w h l x y b false X Y hn rfl
  |true =>
   by_cases ht : x = X ∧ y = Y ∧ b = false
   ·have e : xc (w,h,l,x,y,b,true) X Y = ((0,0,0,0),7):=by unfold xc; rw [if_neg (fun z=>z hn),if_neg (fun z=>absurd (show true = false from z) (by decide)),if_pos ht]
    rw [e]; exact zvn w h l x y b true X Y hn rfl ht
   ·have e : xc (w,h,l,x,y,b,true) X Y = (ya (vx h x y X Y) (goC X Y),0):=by unfold xc; rw [if_neg (fun z=>z hn),if_neg (fun z=>absurd (show true = false from z) (by decide)),if_neg ht]
    rw [e]; exact zvm w h l x y b true X Y hn rfl ht
 ·have e : xc (w,h,l,x,y,b,s) X Y = ((0,0,0,0),1):=by unfold xc; rw [if_pos hn]
  rw [e]; exact zvp w h l x y b s X Y hn
end Go.Proofs.YtgfmjmfphmjdkaaGreatDoor
