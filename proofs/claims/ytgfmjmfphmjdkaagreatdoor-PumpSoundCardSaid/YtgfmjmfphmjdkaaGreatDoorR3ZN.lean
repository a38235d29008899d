/- Several texts in one: see the comment ahead of each. No condition. -/
import Derived.Test.YtgfmjmfphmjdkaaGreatDoorR3ZM
import Derived.Test.YtgfmjmfphmjdkaaGreatDoorR3ZS
set_option linter.unusedSimpArgs false
set_option linter.unusedVariables false
set_option linter.unusedSectionVars false
namespace Go.Proofs.YtgfmjmfphmjdkaaGreatDoor
set_option maxHeartbeats 4000000
section
open Go Go.RowKit
set_option maxRecDepth 200000
noncomputable def zae (t : Tm) (l : List Cmd) : Tm:=l.foldl (fun t c=>(doT t c).1) t
theorem ztd (t : Tm) (l : List Cmd) (k : Nat) (h : k < l.length) : zae t (l.take (k + 1)) = (doT (zae t (l.take k)) l[k]).1:=by
 rw [zae,zae,List.take_succ_eq_append_getElem h,List.foldl_append]; rfl
noncomputable def km (t : Tm) (s : List UInt8) : Tm × List UInt8 × Int:=if yt t = true then (if (v9 s).2.2 = 0 then (zae t (v9 s).1,(v9 s).2.1,0) else (noT,[],(v9 s).2.2)) else (noT,[],1)
noncomputable def wb (t : Tm) (W H : Int) : Tm × Int:=if yt t = true then (if xl W H = true then ((W,H,zfm t.1.toNat t.2.1.toNat t.2.2.1 W.toNat H.toNat (min H.toNat t.2.1.toNat),inM t.2.2.2.1 (W - 1),inM t.2.2.2.2.1 (H - 1),false),0) else (noT,4)) else (noT,1)
theorem zk8 {n : Int} {s : List UInt8} : Sub (zy [qb [I 0,I 0,vA (.slice none 0 0),I 0,I 0,B false],SA s,I n]) (zy [vg 0 0 [] 0 0 false,SA s,I n]):=wa (qu (un (qu (Sub.refl _) (qu (Sub.refl _) (qu zjc (qu (Sub.refl _) (qu (Sub.refl _) (qu (Sub.refl _) y4))))))) (qu (Sub.refl _) (qu (Sub.refl _) y4)))
abbrev tmC (t : Tm) : List AV:=[I t.1,I t.2.1,slA qs t.2.2.1,I t.2.2.2.1,I t.2.2.2.2.1,B t.2.2.2.2.2]
variable {T0 : Gh} [TabS T0]
attribute [local irreducible] zz zg AW AL AO QY qh z_ rsA Opd xh vA gvA zy qb slA jl ipA rpA EqK LnK IxK LdK FaK FdK
theorem wo [TabU T0] (w h : Int) (l : List zp) (x y : Int) (b : Bool) (s : List UInt8) (hs : s.length ≤ 80000) : AP Tryz.prog T0 44 [vg w h l x y b,SA s] (zy [tmA (km (w,h,l,x,y,b) s).1,SA (km (w,h,l,x,y,b) s).2.1,I (km (w,h,l,x,y,b) s).2.2]):=by
 have c1:=zbd (T0:=T0) w h l x y b
 have c2:=zl0 (T0:=T0) s (by omega)
 cases hok : okT w h l x y b with
 |false =>
  rw [hok] at c1
  have e : km (w,h,l,x,y,b) s = (noT,[],1):=if_neg (by rw [show yt (w,h,l,x,y,b) = okT w h l x y b from rfl,hok]; decide)
  rw [e]
  have c2 : True:=trivial
  have c3 : True:=trivial
  refine za Tryz.func44 rfl (by decide) Tryz.ntmps44 rfl ?_
  repeat' (first
  |refine z7m ?_ | (refine zd ?_ ?_ <;> intro hb <;> try exact no_) | (refine sx_ ?_ <;> intro bb) | (refine su_ ?_ <;> intro u hu1 hu2) | fail)
  all_goals first | (exfalso; simp at hb; done) | exact ⟨_,[],rl_,List.nil_sublist _,zk8,rfl⟩
 |true =>
  rw [hok] at c1
  have c3 : True:=trivial
  rcases zfu s with he | he
  ·have e : km (w,h,l,x,y,b) s = (zae (w,h,l,x,y,b) (v9 s).1,(v9 s).2.1,0):=by rw [km,if_pos hok,if_pos he]
   rw [e]
   have hle:=z1c s
   obtain ⟨⟨cs,rest,er⟩,hx⟩ : ∃ z,z = v9 s:=⟨_,rfl⟩
   rw [← hx] at c2 he hle ⊢
   simp only at c2 he hle ⊢
   subst he
   clear e hx
   obtain ⟨t0,ht0⟩ : ∃ t0 : Tm,t0 = (w,h,l,x,y,b):=⟨_,rfl⟩
   rw [← ht0]
   refine za Tryz.func44 rfl (by decide) Tryz.ntmps44 rfl ?_
   repeat' (first
   |refine z7m ?_ | (refine zd ?_ ?_ <;> intro hb <;> try exact no_) | (refine sx_ ?_ <;> intro bb) | (refine su_ ?_ <;> intro u hu1 hu2) | fail)
   all_goals first | exact e2_ | skip
   refine zr_ (σ:=Nat × Tm) (fun z=>[(28,I z.1)]) (fun z=>tmC z.2) (fun z=>z.1 ≤ cs.length ∧ z.2 = zae t0 (cs.take z.1)) (fun z=>cs.length - z.1) (0,w,h,l,x,y,b) ⟨Nat.zero_le _,ht0.symm⟩ rfl ?_
   rintro ⟨k,w',h',l',x',y',b'⟩ ⟨i1,i2⟩
   simp only at i1 i2 ⊢
   clear c1 c2
   have c1 : True:=trivial
   have c2 : True:=trivial
   by_cases hlt : k < cs.length
   ·have hget : cs[k]? = some cs[k]:=List.getElem?_eq_getElem hlt
    have hn:=ztd t0 cs k hlt
    rw [← i2] at hn
    generalize cs[k] = c at hget hn
    clear c3
    have c3:=zz9 (T0:=T0) w' h' l' x' y' b' c
    obtain ⟨⟨⟨w2,h2,l2,x2,y2,b2⟩,er2⟩,hz⟩ : ∃ z,z = doT (w',h',l',x',y',b') c:=⟨_,rfl⟩
    rw [← hz] at c3 hn
    simp only at c3 hn
    clear hz
    repeat' (first
    |(apply uk 8 9; (case hN=>decide +kernel); (case hD=>decide +kernel); (case hB=>kernel_rfl); (case hm=>kernel_rfl); (case hod=>rfl); (case hl=>rfl); (case hn=>rfl); (case hsd=>rfl); (case hb=>rfl)) | (apply zv4; (case h2=>exact zl5)) | (apply qt; (case h2=>rfl); (case hD=>decide +kernel); (case hB=>decide +kernel); (case hg=>decide +kernel); (case hm=>kernel_rfl); (case hoL=>rfl); (case hod=>rfl)) | refine zrt ?_ | (apply qe; (case hn=>rfl); (case hm=>kernel_rfl)) | refine g6_ ?_ | (apply jx; (case hL=>rfl); (case hne=>rfl)) | exact jy | apply xr | (apply ze7; (case ho=>rfl)) | (apply xp; exact wg) | (apply jv; (case h=>exact zel); (case hk=>exact wk_); (case hc=>rfl)) | refine z14 ?_ | (apply zw (by rfl) (by kernel_rfl) (by kernel_rfl)) | refine z7m ?_ | (refine zd ?_ ?_ <;> intro hb <;> try exact no_) | (refine sx_ ?_ <;> intro bb) | (refine su_ ?_ <;> intro u hu1 hu2) | fail)
    all_goals first | (exfalso; omega) | exact ⟨(k + 1,w2,h2,l2,x2,y2,b2),⟨by simp only; omega,hn.symm⟩,by simp only; omega,wx_,sl_⟩
   ·rw [List.take_of_length_le (by omega)] at i2
    rw [← i2]
    repeat' (first
    |refine z7m ?_ | (refine zd ?_ ?_ <;> intro hb <;> try exact no_) | (refine sx_ ?_ <;> intro bb) | (refine su_ ?_ <;> intro u hu1 hu2) | fail)
    all_goals first | (exfalso; omega) | exact ⟨_,[],rl_,List.nil_sublist _,Sub.refl _,rfl⟩
  ·have e : km (w,h,l,x,y,b) s = (noT,[],2):=by rw [km,if_pos hok,he]; rfl
   rw [e]
   rw [he] at c2
   refine za Tryz.func44 rfl (by decide) Tryz.ntmps44 rfl ?_
   repeat' (first
   |refine z7m ?_ | (refine zd ?_ ?_ <;> intro hb <;> try exact no_) | (refine sx_ ?_ <;> intro bb) | (refine su_ ?_ <;> intro u hu1 hu2) | fail)
   all_goals first | (exfalso; simp at hb; done) | exact ⟨_,[],rl_,List.nil_sublist _,zk8,rfl⟩
end
section
open Go Go.RowKit
set_option maxRecDepth 200000
def z_b (w h : Int) (l : List zp) (x y r : Int) : (Int × Int × List zp) × Int:=if (okB w h l = true ∧ 0 ≤ x ∧ x < w ∧ 0 ≤ y ∧ y < h) ∧ ja r = true ∧ x + (zh r).length ≤ w then ((w,h,zbq l (y.toNat * w.toNat + x.toNat) (zh r)),0) else ((0,0,[]),1)
theorem z6p (w h : Int) (l : List zp) (x y r : Int) : zm_ w h l x y r = z_b w h l x y r:=by unfold zm_ z_b; rw [zo1]
def zp6 (w h : Int) (l : List zp) (a b : Int) : (Int × Int × List zp) × Int:=if okB w h l = true ∧ 0 ≤ a ∧ a ≤ b ∧ b ≤ l.length then ((w,h,zbq l a.toNat (List.replicate (b - a).toNat (32,0))),0) else ((0,0,[]),1)
theorem zp5 (w h : Int) (l : List zp) (a b : Int) : jq w h l a b = zp6 w h l a b:=by unfold jq zp6; rw [zo1]
def zm5 (w h : Int) (l : List zp) : List zp:=if okB w h l = true then l.drop w.toNat ++ List.replicate w.toNat (32,0) else l
theorem ztb (w h : Int) (l : List zp) : wc w h l = zm5 w h l:=by unfold wc zm5; rw [zo1]
def zrx (w h : Int) (l : List zp) (y : Int) : List zp × Int:=if y = h - 1 then (zm5 w h l,y) else (l,y + 1)
theorem zv7 (w h : Int) (l : List zp) (y : Int) : kj w h l y = zrx w h l y:=by unfold kj zrx; rw [ztb]
def zi_ (w h : Int) (l : List zp) (x y r : Int) : Tm:=(w,h,(z_b w h l x y r).1.2.2,inM (x + (zh r).length) (w - 1),y,decide (x + (zh r).length = w))
theorem zom (w h : Int) (l : List zp) (x y r : Int) : zbs w h l x y r = zi_ w h l x y r:=by unfold zbs zi_; rw [z6p]
def zsz (w h : Int) (l : List zp) (x y : Int) (b : Bool) (r : Int) : Tm :=
 if b = true ∨ w < x + (zh r).length then zi_ w h (zrx w h l y).1 0 (zrx w h l y).2 r else zi_ w h l x y r
theorem z2y (w h : Int) (l : List zp) (x y : Int) (b : Bool) (r : Int) : v_ w h l x y b r = zsz w h l x y b r:=by unfold v_ zsz; rw [zom,zom,zv7]
def z9j (w h : Int) (l : List zp) (x y : Int) (b : Bool) (c : Cmd) : Tm :=
 if c.1 = 1 then zsz w h l x y b c.2.2.2
 else if c.1 = 12 then (w,h,l,x,y,b)
 else if c.1 = 2 then goK w h l c.2.2.1 c.2.1
 else if c.1 = 3 then goK w h l x (y - c.2.1)
 else if c.1 = 4 then goK w h l x (y + c.2.1)
 else if c.1 = 5 then goK w h l (x + c.2.1) y
 else if c.1 = 6 then goK w h l (x - c.2.1) y
 else if c.1 = 7 then (w,h,(zp6 w h l (y * w + x) ((y + 1) * w)).1.2.2,x,y,false)
 else if c.1 = 8 then (w,h,(zp6 w h l (y * w + x) l.length).1.2.2,x,y,false)
 else if c.1 = 9 then goK w h l 0 y
 else if c.1 = 10 then (w,h,(zrx w h l y).1,x,(zrx w h l y).2,false)
 else goK w h l (x - 1) y
theorem z8g (w h : Int) (l : List zp) (x y : Int) (b : Bool) (c : Cmd) : doK w h l x y b c = z9j w h l x y b c:=by unfold doK z9j; rw [z2y,zp5,zp5,zv7]
def z6u (w h : Int) (l : List zp) (x y : Int) (b : Bool) : Bool:=okB w h l && decide (0 ≤ x ∧ x < w ∧ 0 ≤ y ∧ y < h) && (!b || decide (x = w - 1))
theorem z3m (w h : Int) (l : List zp) (x y : Int) (b : Bool) : okT w h l x y b = z6u w h l x y b:=by unfold okT z6u; rw [zo1]
def z9i (t : Tm) (c : Cmd) : Tm × Int:=if z6u t.1 t.2.1 t.2.2.1 t.2.2.2.1 t.2.2.2.2.1 t.2.2.2.2.2 = true ∧ z9 c = true then (z9j t.1 t.2.1 t.2.2.1 t.2.2.2.1 t.2.2.2.2.1 t.2.2.2.2.2 c,0) else (noT,1)
theorem qaj (t : Tm) (c : Cmd) : doT t c = z9i t c:=by unfold doT z9i; rw [z3m,z8g]
def z2_ (t : Tm) (l : List Cmd) : Tm:=l.foldl (fun t c=>(z9i t c).1) t
theorem z6j (t : Tm) (l : List Cmd) : zae t l = z2_ t l:=by
 unfold zae z2_
 have : (fun (t : Tm) (c : Cmd)=>(doT t c).1) = fun t c=>(z9i t c).1:=funext fun t=>funext fun c=>by rw [qaj]
 rw [this]
def zpk (t : Tm) (s : List UInt8) : Tm × List UInt8 × Int:=if z6u t.1 t.2.1 t.2.2.1 t.2.2.2.1 t.2.2.2.2.1 t.2.2.2.2.2 = true then (if (v9 s).2.2 = 0 then (z2_ t (v9 s).1,(v9 s).2.1,0) else (noT,[],(v9 s).2.2)) else (noT,[],1)
theorem zvb (t : Tm) (s : List UInt8) : km t s = zpk t s:=by unfold km zpk yt; rw [z3m,z6j]
variable {T0 : Gh} [TabS T0]
attribute [local irreducible] zz zg AW AL AO QY qh z_ rsA Opd xh vA gvA zy qb slA jl ipA rpA EqK LnK IxK LdK FaK FdK
theorem zlz (w h : Int) (l : List zp) (x y : Int) (b : Bool) (W H : Int) : AP Tryz.prog T0 48 [vg w h l x y b,I W,I H] (zy [tmA (wb (w,h,l,x,y,b) W H).1,I (wb (w,h,l,x,y,b) W H).2]):=by
 have c1:=zbd (T0:=T0) w h l x y b
 cases hok : okT w h l x y b with
 |false =>
  rw [hok] at c1
  have e : wb (w,h,l,x,y,b) W H = (noT,1):=if_neg (by rw [show yt (w,h,l,x,y,b) = okT w h l x y b from rfl,hok]; decide)
  rw [e]
  have c2 : True:=trivial
  have ct : True:=trivial
  refine za Tryz.func48 rfl (by decide) Tryz.ntmps48 rfl ?_
  repeat' (first
  |(apply zb rfl rfl rfl rfl (c:=ct _)
    case ha=>exact os_
    case hM=>exact zf
    rintro _ _ rfl
    simp only [List.cons_append,List.nil_append,List.append_eq])
  |refine z_7 ?_ | (refine zd ?_ ?_ <;> intro hb <;> try exact no_) | (refine sx_ ?_ <;> intro bb) | (refine su_ ?_ <;> intro u hu1 hu2) | fail)
  all_goals first | (exfalso; simp at hb; done) | exact ⟨_,[],rl_,List.nil_sublist _,jm,rfl⟩
 |true =>
  rw [hok] at c1
  obtain ⟨h1,⟨h2,h3,h4,h5⟩,h6⟩:=qp.1 hok
  have hg:=xk h1
  cases hs : xl W H with
  |true =>
   have e : wb (w,h,l,x,y,b) W H = ((W,H,zfm w.toNat h.toNat l W.toNat H.toNat (min H.toNat h.toNat),inM x (W - 1),inM y (H - 1),false),0):=by rw [wb,if_pos hok,if_pos hs]
   rw [e]
   obtain ⟨l2,hl2⟩ : ∃ z,z = zfm w.toNat h.toNat l W.toNat H.toNat (min H.toNat h.toNat):=⟨_,rfl⟩
   have e2 : zmt w h l W H = ((W,H,l2),0):=by rw [zmt,if_pos h1,if_pos hs,← hl2]
   have c2 : AP Tryz.prog T0 105 [xx w h l,I W,I H] (zy [xx W H l2,I 0]):=(z75 w h W H l (by omega)).to (by rw [e2]; rfl)
   rw [← hl2]
   have hr : 2 ≤ W ∧ W ≤ 80 ∧ 1 ≤ H ∧ H ≤ 24:=by simpa [xl,and_assoc] using hs
   have ct:=fun p=>zxq (T0:=T0) p W H l2 0 0 false x y hr
   clear e e2 hl2
   refine za Tryz.func48 rfl (by decide) Tryz.ntmps48 rfl ?_
   repeat' (first
   |(apply zb rfl rfl rfl rfl (c:=ct _)
     case ha=>exact os_
     case hM=>exact zf
     rintro _ _ rfl
     simp only [List.cons_append,List.nil_append,List.append_eq])
   |refine z_7 ?_ | (refine zd ?_ ?_ <;> intro hb <;> try exact no_) | (refine sx_ ?_ <;> intro bb) | (refine su_ ?_ <;> intro u hu1 hu2) | fail)
   all_goals first | (exfalso; simp at hb; done) | exact ⟨_,[],rl_,List.nil_sublist _,Sub.refl _,rfl⟩
  |false =>
   have e : wb (w,h,l,x,y,b) W H = (noT,4):=by rw [wb,if_pos hok,if_neg (by rw [hs]; decide)]
   rw [e]
   have c2 : AP Tryz.prog T0 105 [xx w h l,I W,I H] (zy [xx 0 0 [],I 4]):=(z75 w h W H l (by omega)).to (by rw [zmt,if_pos h1,if_neg (by rw [hs]; decide)]; rfl)
   have ct : True:=trivial
   refine za Tryz.func48 rfl (by decide) Tryz.ntmps48 rfl ?_
   repeat' (first
   |(apply zb rfl rfl rfl rfl (c:=ct _)
     case ha=>exact os_
     case hM=>exact zf
     rintro _ _ rfl
     simp only [List.cons_append,List.nil_append,List.append_eq])
   |refine z_7 ?_ | (refine zd ?_ ?_ <;> intro hb <;> try exact no_) | (refine sx_ ?_ <;> intro bb) | (refine su_ ?_ <;> intro u hu1 hu2) | fail)
   all_goals first | (exfalso; simp at hb; done) | exact ⟨_,[],rl_,List.nil_sublist _,jm,rfl⟩
theorem zns (w h : Int) (l : List zp) (x y : Int) (b : Bool) (w' h' : Int) (l' : List zp) (x' y' : Int) (b' : Bool) : AP Tryz.prog T0 45 [vg w h l x y b,vg w' h' l' x' y' b'] (B (decide ((w,h,l,x,y,b) = (w',h',l',x',y',b')))):=by
 refine za Tryz.func45 rfl (by decide) Tryz.ntmps45 rfl ?_
 repeat' (first
 |refine sa_ ?_ | refine qd ?_ (c:=by first | exact zg2 _ _ _ _ _ _ | fail) | refine j0 ?_ | refine zr ?_ (c:=by intro hk hk2; first | exact zg2 _ _ _ _ _ _ | fail) | refine sw_ ?_ | (refine zd ?_ ?_ <;> intro hb <;> try exact no_) | (refine sx_ ?_ <;> intro bb) | (refine su_ ?_ <;> intro u hu1 hu2) | fail)
 refine ⟨_,[],rl_,List.nil_sublist _,Sub.eq (congrArg B ?_),rfl⟩
 rw [Bool.eq_iff_iff]; simp only [Bool.and_eq_true,decide_eq_true_eq,Prod.mk.injEq,beq_iff_eq]
 constructor
 ·rintro ⟨⟨⟨⟨a,c,d⟩,e⟩,f⟩,g⟩; exact ⟨a,c,d,e,f,g⟩
 ·rintro ⟨a,c,d,e,f,g⟩; exact ⟨⟨⟨⟨a,c,d⟩,e⟩,f⟩,g⟩
end
end Go.Proofs.YtgfmjmfphmjdkaaGreatDoor
