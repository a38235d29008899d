/- Several texts in one: see the comment ahead of each. No condition. -/
import Derived.Test.YtgfmjmfphmjdkaaGreatDoorR1ZM
import Derived.Test.YtgfmjmfphmjdkaaGreatDoorR1ZS
set_option linter.unusedSimpArgs false
set_option linter.unusedVariables false
set_option linter.unusedSectionVars false
namespace Go.Proofs.YtgfmjmfphmjdkaaGreatDoor
set_option maxHeartbeats 4000000
section
open Go Go.RowKit
set_option maxRecDepth 200000
noncomputable def zz0 (t : Tm) (l : List Cmd) : Tm:=l.foldl (fun t c=>(doT t c).1) t
theorem zu6 (t : Tm) (l : List Cmd) (k : Nat) (h : k < l.length) : zz0 t (l.take (k + 1)) = (doT (zz0 t (l.take k)) l[k]).1:=by
 rw [zz0,zz0,List.take_succ_eq_append_getElem h,List.foldl_append]; rfl
noncomputable def zic (t : Tm) (s : List UInt8) : Tm × List UInt8 × Int:=if znb t = true then (if (y0 s).2.2 = 0 then (zz0 t (y0 s).1,(y0 s).2.1,0) else (noT,[],(y0 s).2.2)) else (noT,[],1)
theorem zlj {n : Int} {s : List UInt8} : Sub (zt [z0 [I 0,I 0,vA (.slice none 0 0),I 0,I 0,B false],SA s,I n]) (zt [xp 0 0 [] 0 0 false,SA s,I n]):=ka (qb (vx (qb (Sub.refl _) (qb (Sub.refl _) (qb zck (qb (Sub.refl _) (qb (Sub.refl _) (qb (Sub.refl _) vj))))))) (qb (Sub.refl _) (qb (Sub.refl _) vj)))
abbrev tmC (t : Tm) : List AV:=[I t.1,I t.2.1,slA qg t.2.2.1,I t.2.2.2.1,I t.2.2.2.2.1,B t.2.2.2.2.2]
variable {T0 : Gh} [TabS T0]
attribute [local irreducible] z_ zg AW AL AO QY qd zx rsA Opd xi vA gvA zt z0 slA jc ipA rpA EqK LnK IxK LdK FaK FdK
theorem ziy [TabU T0] (w h : Int) (l : List zp) (x y : Int) (b : Bool) (s : List UInt8) (hs : s.length ≤ 80000) : AP Tryz.prog T0 44 [xp w h l x y b,SA s] (zt [tmA (zic (w,h,l,x,y,b) s).1,SA (zic (w,h,l,x,y,b) s).2.1,I (zic (w,h,l,x,y,b) s).2.2]):=by
 have c1:=zkg (T0:=T0) w h l x y b
 have c2:=zwz (T0:=T0) s (by omega)
 cases hok : okT w h l x y b with
 |false =>
  rw [hok] at c1
  have e : zic (w,h,l,x,y,b) s = (noT,[],1):=if_neg (by rw [show znb (w,h,l,x,y,b) = okT w h l x y b from rfl,hok]; decide)
  rw [e]
  have c2 : True:=trivial
  have c3 : True:=trivial
  refine za Tryz.func44 rfl (by decide) Tryz.ntmps44 rfl ?_
  repeat' (first
  |refine zh3 ?_ | (refine zb ?_ ?_ <;> intro hb <;> try exact no_) | (refine sx_ ?_ <;> intro bb) | (refine su_ ?_ <;> intro u hu1 hu2) | fail)
  all_goals first | (exfalso; simp at hb; done) | exact ⟨_,[],rl_,List.nil_sublist _,zlj,rfl⟩
 |true =>
  rw [hok] at c1
  have c3 : True:=trivial
  rcases zf0 s with he | he
  ·have e : zic (w,h,l,x,y,b) s = (zz0 (w,h,l,x,y,b) (y0 s).1,(y0 s).2.1,0):=by rw [zic,if_pos hok,if_pos he]
   rw [e]
   have hle:=z2b s
   obtain ⟨⟨cs,rest,er⟩,hx⟩ : ∃ z,z = y0 s:=⟨_,rfl⟩
   rw [← hx] at c2 he hle ⊢
   simp only at c2 he hle ⊢
   subst he
   clear e hx
   obtain ⟨t0,ht0⟩ : ∃ t0 : Tm,t0 = (w,h,l,x,y,b):=⟨_,rfl⟩
   rw [← ht0]
   refine za Tryz.func44 rfl (by decide) Tryz.ntmps44 rfl ?_
   repeat' (first
   |refine zh3 ?_ | (refine zb ?_ ?_ <;> intro hb <;> try exact no_) | (refine sx_ ?_ <;> intro bb) | (refine su_ ?_ <;> intro u hu1 hu2) | fail)
   all_goals first | exact e2_ | skip
   refine zig (σ:=Nat × Tm) (fun z=>[(28,I z.1)]) (fun z=>tmC z.2) (fun z=>z.1 ≤ cs.length ∧ z.2 = zz0 t0 (cs.take z.1)) (fun z=>cs.length - z.1) (0,w,h,l,x,y,b) ⟨Nat.zero_le _,ht0.symm⟩ rfl ?_
   rintro ⟨k,w',h',l',x',y',b'⟩ ⟨i1,i2⟩
   simp only at i1 i2 ⊢
   clear c1 c2
   have c1 : True:=trivial
   have c2 : True:=trivial
   by_cases hlt : k < cs.length
   ·have hget : cs[k]? = some cs[k]:=List.getElem?_eq_getElem hlt
    have hn:=zu6 t0 cs k hlt
    rw [← i2] at hn
    generalize cs[k] = c at hget hn
    clear c3
    have c3:=z1c (T0:=T0) w' h' l' x' y' b' c
    obtain ⟨⟨⟨w2,h2,l2,x2,y2,b2⟩,er2⟩,hz⟩ : ∃ z,z = doT (w',h',l',x',y',b') c:=⟨_,rfl⟩
    rw [← hz] at c3 hn
    simp only at c3 hn
    clear hz
    repeat' (first
    |(apply uj 8 9; (case hN=>decide +kernel); (case hD=>decide +kernel); (case hB=>kernel_rfl); (case hm=>kernel_rfl); (case hod=>rfl); (case hl=>rfl); (case hn=>rfl); (case hsd=>rfl); (case hb=>rfl)) | (apply zxt; (case h2=>exact zml)) | (apply aw_regionS; (case h2=>rfl); (case hD=>decide +kernel); (case hB=>decide +kernel); (case hg=>decide +kernel); (case hm=>kernel_rfl); (case hoL=>rfl); (case hod=>rfl)) | refine endS_ ?_ | (apply qa; (case hn=>rfl); (case hm=>kernel_rfl)) | refine zc3 ?_ | (apply jk; (case hL=>rfl); (case hne=>rfl)) | exact jm | apply xh | (apply zdf; (case ho=>rfl)) | (apply xf; exact vn) | (apply jh; (case h=>exact zcb); (case hk=>exact wk_); (case hc=>rfl)) | refine z26 ?_ | (apply zm (by rfl) (by kernel_rfl) (by kernel_rfl)) | refine zh3 ?_ | (refine zb ?_ ?_ <;> intro hb <;> try exact no_) | (refine sx_ ?_ <;> intro bb) | (refine su_ ?_ <;> intro u hu1 hu2) | fail)
    all_goals first | (exfalso; omega) | exact ⟨(k + 1,w2,h2,l2,x2,y2,b2),⟨by simp only; omega,hn.symm⟩,by simp only; omega,wx_,sl_⟩
   ·rw [List.take_of_length_le (by omega)] at i2
    rw [← i2]
    repeat' (first
    |refine zh3 ?_ | (refine zb ?_ ?_ <;> intro hb <;> try exact no_) | (refine sx_ ?_ <;> intro bb) | (refine su_ ?_ <;> intro u hu1 hu2) | fail)
    all_goals first | (exfalso; omega) | exact ⟨_,[],rl_,List.nil_sublist _,Sub.refl _,rfl⟩
  ·have e : zic (w,h,l,x,y,b) s = (noT,[],2):=by rw [zic,if_pos hok,he]; rfl
   rw [e]
   rw [he] at c2
   refine za Tryz.func44 rfl (by decide) Tryz.ntmps44 rfl ?_
   repeat' (first
   |refine zh3 ?_ | (refine zb ?_ ?_ <;> intro hb <;> try exact no_) | (refine sx_ ?_ <;> intro bb) | (refine su_ ?_ <;> intro u hu1 hu2) | fail)
   all_goals first | (exfalso; simp at hb; done) | exact ⟨_,[],rl_,List.nil_sublist _,zlj,rfl⟩
end
section
open Go Go.RowKit
set_option maxRecDepth 200000
def z_1 (w h : Int) (l : List zp) (x y r : Int) : (Int × Int × List zp) × Int:=if (okB w h l = true ∧ 0 ≤ x ∧ x < w ∧ 0 ≤ y ∧ y < h) ∧ xq r = true ∧ x + (zh r).length ≤ w then ((w,h,zak l (y.toNat * w.toNat + x.toNat) (zh r)),0) else ((0,0,[]),1)
theorem z7v (w h : Int) (l : List zp) (x y r : Int) : zlo w h l x y r = z_1 w h l x y r:=by unfold zlo z_1; rw [zqc]
def zrr (w h : Int) (l : List zp) (a b : Int) : (Int × Int × List zp) × Int:=if okB w h l = true ∧ 0 ≤ a ∧ a ≤ b ∧ b ≤ l.length then ((w,h,zak l a.toNat (List.replicate (b - a).toNat (32,0))),0) else ((0,0,[]),1)
theorem zrq (w h : Int) (l : List zp) (a b : Int) : ji w h l a b = zrr w h l a b:=by unfold ji zrr; rw [zqc]
def znp (w h : Int) (l : List zp) : List zp:=if okB w h l = true then l.drop w.toNat ++ List.replicate w.toNat (32,0) else l
theorem zu2 (w h : Int) (l : List zp) : vz w h l = znp w h l:=by unfold vz znp; rw [zqc]
def ztp (w h : Int) (l : List zp) (y : Int) : List zp × Int:=if y = h - 1 then (znp w h l,y) else (l,y + 1)
theorem zxw (w h : Int) (l : List zp) (y : Int) : kg w h l y = ztp w h l y:=by unfold kg ztp; rw [zu2]
def zjp (w h : Int) (l : List zp) (x y r : Int) : Tm:=(w,h,(z_1 w h l x y r).1.2.2,inM (x + (zh r).length) (w - 1),y,decide (x + (zh r).length = w))
theorem zpu (w h : Int) (l : List zp) (x y r : Int) : zbi w h l x y r = zjp w h l x y r:=by unfold zbi zjp; rw [z7v]
def zus (w h : Int) (l : List zp) (x y : Int) (b : Bool) (r : Int) : Tm :=
 if b = true ∨ w < x + (zh r).length then zjp w h (ztp w h l y).1 0 (ztp w h l y).2 r else zjp w h l x y r
theorem z38 (w h : Int) (l : List zp) (x y : Int) (b : Bool) (r : Int) : v9 w h l x y b r = zus w h l x y b r:=by unfold v9 zus; rw [zpu,zpu,zxw]
def z_f (w h : Int) (l : List zp) (x y : Int) (b : Bool) (c : Cmd) : Tm :=
 if c.1 = 1 then zus w h l x y b c.2.2.2
 else if c.1 = 12 then (w,h,l,x,y,b)
 else if c.1 = 2 then goK w h l c.2.2.1 c.2.1
 else if c.1 = 3 then goK w h l x (y - c.2.1)
 else if c.1 = 4 then goK w h l x (y + c.2.1)
 else if c.1 = 5 then goK w h l (x + c.2.1) y
 else if c.1 = 6 then goK w h l (x - c.2.1) y
 else if c.1 = 7 then (w,h,(zrr w h l (y * w + x) ((y + 1) * w)).1.2.2,x,y,false)
 else if c.1 = 8 then (w,h,(zrr w h l (y * w + x) l.length).1.2.2,x,y,false)
 else if c.1 = 9 then goK w h l 0 y
 else if c.1 = 10 then (w,h,(ztp w h l y).1,x,(ztp w h l y).2,false)
 else goK w h l (x - 1) y
theorem z9e (w h : Int) (l : List zp) (x y : Int) (b : Bool) (c : Cmd) : doK w h l x y b c = z_f w h l x y b c:=by unfold doK z_f; rw [z38,zrq,zrq,zxw]
def z71 (w h : Int) (l : List zp) (x y : Int) (b : Bool) : Bool:=okB w h l && decide (0 ≤ x ∧ x < w ∧ 0 ≤ y ∧ y < h) && (!b || decide (x = w - 1))
theorem z4z (w h : Int) (l : List zp) (x y : Int) (b : Bool) : okT w h l x y b = z71 w h l x y b:=by unfold okT z71; rw [zqc]
def z_e (t : Tm) (c : Cmd) : Tm × Int:=if z71 t.1 t.2.1 t.2.2.1 t.2.2.2.1 t.2.2.2.2.1 t.2.2.2.2.2 = true ∧ z9 c = true then (z_f t.1 t.2.1 t.2.2.1 t.2.2.2.1 t.2.2.2.2.1 t.2.2.2.2.2 c,0) else (noT,1)
theorem qbc (t : Tm) (c : Cmd) : doT t c = z_e t c:=by unfold doT z_e; rw [z4z,z9e]
def z4j (t : Tm) (l : List Cmd) : Tm:=l.foldl (fun t c=>(z_e t c).1) t
theorem z7r (t : Tm) (l : List Cmd) : zz0 t l = z4j t l:=by
 unfold zz0 z4j
 have : (fun (t : Tm) (c : Cmd)=>(doT t c).1) = fun t c=>(z_e t c).1:=funext fun t=>funext fun c=>by rw [qbc]
 rw [this]
def zq0 (t : Tm) (s : List UInt8) : Tm × List UInt8 × Int:=if z71 t.1 t.2.1 t.2.2.1 t.2.2.2.1 t.2.2.2.2.1 t.2.2.2.2.2 = true then (if (y0 s).2.2 = 0 then (z4j t (y0 s).1,(y0 s).2.1,0) else (noT,[],(y0 s).2.2)) else (noT,[],1)
theorem zwu (t : Tm) (s : List UInt8) : zic t s = zq0 t s:=by unfold zic zq0 znb; rw [z4z,z7r]
variable {T0 : Gh} [TabS T0]
attribute [local irreducible] z_ zg AW AL AO QY qd zx rsA Opd xi vA gvA zt z0 slA jc ipA rpA EqK LnK IxK LdK FaK FdK
end
end Go.Proofs.YtgfmjmfphmjdkaaGreatDoor
