/- Several texts in one: see the comment ahead of each. No condition. -/
import Derived.Test.YtgfmjmfphmjdkaaGreatDoorR1ZG
import Derived.Test.YtgfmjmfphmjdkaaGreatDoorR1ZS
import Derived.Test.YtgfmjmfphmjdkaaGreatDoorR1ZB
set_option linter.unusedSimpArgs false
set_option linter.unusedVariables false
set_option linter.unusedSectionVars false
namespace Go.Proofs.YtgfmjmfphmjdkaaGreatDoor
set_option maxHeartbeats 4000000
section
open Go Go.RowKit
set_option maxRecDepth 100000
theorem zbp : Tryz.prog.underlying 29 = some (.struct #[{ name := "G",type:=27,offset:=0,embedded:=false,tag := "",pkgPath := "",byteOffset:=0 },{ name := "X",type:=3,offset:=3,embedded:=false,tag := "",pkgPath := "",byteOffset:=40 },{ name := "Y",type:=3,offset:=4,embedded:=false,tag := "",pkgPath := "",byteOffset:=48 },{ name := "Wrap",type:=4,offset:=5,embedded:=false,tag := "",pkgPath := "",byteOffset:=56 }]):=Tryz.underlying29
abbrev xp (w h : Int) (l : List zp) (x y : Int) (b : Bool) : AV:=z0 [I w,I h,slA qg l,I x,I y,B b]
instance qem : StC 29 [I 0,I 0,vA (.slice none 0 0),I 0,I 0,B false] [(0,3),(3,1),(4,1),(5,1)]:=⟨StT.mk' _ [.int .i64 0,.int .i64 0,.slice none 0 0,.int .i64 0,.int .i64 0,.bool false] zbp (by kernel_rfl) (by kernel_rfl)⟩
instance qct : FldC 29 0 0 27:=⟨_,_,zbp,rfl,rfl,rfl⟩
instance qcs : FldC 29 1 3 3:=⟨_,_,zbp,rfl,rfl,rfl⟩
instance qcr : FldC 29 2 4 3:=⟨_,_,zbp,rfl,rfl,rfl⟩
instance qcq : FldC 29 3 5 4:=⟨_,_,zbp,rfl,rfl,rfl⟩
instance qfq : AggC 29 true:=⟨ku (by kernel_rfl)⟩
instance qea : SzC 29 6:=⟨xc (by kernel_rfl)⟩
instance qeu : SpC 29:=⟨jo (n:=5) (by kernel_rfl)⟩
instance qfh : AlC 29 (.agg #[.int .i64 0,.int .i64 0,.slice none 0 0,.int .i64 0,.int .i64 0,.bool false]) [.int .i64 0,.int .i64 0,.slice none 0 0,.int .i64 0,.int .i64 0,.bool false] [I 0,I 0,vA (.slice none 0 0),I 0,I 0,B false]:=⟨by kernel_rfl,rfl,rfl⟩
instance qbi : SzC 4 1:=⟨xc (by kernel_rfl)⟩
theorem z2j : Tryz.prog.underlying 107 = some (.struct #[{ name := "t",type:=29,offset:=0,embedded:=false,tag := "",pkgPath := "typebar/term",byteOffset:=0 }]):=Tryz.underlying107
instance qeo : StC 107 [I 0,I 0,vA (.slice none 0 0),I 0,I 0,B false] [(0,6)]:=⟨StT.mk' _ [.int .i64 0,.int .i64 0,.slice none 0 0,.int .i64 0,.int .i64 0,.bool false] z2j (by kernel_rfl) (by kernel_rfl)⟩
instance qcw : FldC 107 0 0 29:=⟨_,_,z2j,rfl,rfl,rfl⟩
instance qec : SzC 107 6:=⟨xc (by kernel_rfl)⟩
instance qfj : AlC 107 (.agg #[.int .i64 0,.int .i64 0,.slice none 0 0,.int .i64 0,.int .i64 0,.bool false]) [.int .i64 0,.int .i64 0,.slice none 0 0,.int .i64 0,.int .i64 0,.bool false] [I 0,I 0,vA (.slice none 0 0),I 0,I 0,B false]:=⟨by kernel_rfl,rfl,rfl⟩
abbrev scO (p : Nat) (w h : Int) (l : List zp) (x y : Int) (b : Bool) : Own:=qd p 107 [I w,I h,slA qg l,I x,I y,B b]
abbrev Tm:=Int × Int × List zp × Int × Int × Bool
abbrev tmA (t : Tm) : AV:=xp t.1 t.2.1 t.2.2.1 t.2.2.2.1 t.2.2.2.2.1 t.2.2.2.2.2
noncomputable def okT (w h : Int) (l : List zp) (x y : Int) (b : Bool) : Bool:=okG w h l && decide (0 ≤ x ∧ x < w ∧ 0 ≤ y ∧ y < h) && (!b || decide (x = w - 1))
theorem xe {w h : Int} {l : List zp} {x y : Int} {b : Bool} : okT w h l x y b = true ↔ okG w h l = true ∧ (0 ≤ x ∧ x < w ∧ 0 ≤ y ∧ y < h) ∧ (b = true → x = w - 1):=by
 simp only [okT,Bool.and_eq_true,decide_eq_true_eq,Bool.or_eq_true,Bool.not_eq_true']
 cases b <;> simp [and_assoc]
def inM (n most : Int) : Int:=max 0 (min n most)
theorem zn8 {n most : Int} (h : 0 ≤ most) : 0 ≤ inM n most ∧ inM n most ≤ most:=by unfold inM; omega
theorem xg {n most : Int} (h1 : 0 ≤ n) (h2 : n ≤ most) : inM n most = n:=by unfold inM; omega
noncomputable def kg (w h : Int) (l : List zp) (y : Int) : List zp × Int:=if y = h - 1 then (vz w h l,y) else (l,y + 1)
noncomputable def zbi (w h : Int) (l : List zp) (x y r : Int) : Tm:=(w,h,(zlo w h l x y r).1.2.2,inM (x + (zh r).length) (w - 1),y,decide (x + (zh r).length = w))
noncomputable def v9 (w h : Int) (l : List zp) (x y : Int) (b : Bool) (r : Int) : Tm :=
 if b = true ∨ w < x + (zh r).length then zbi w h (kg w h l y).1 0 (kg w h l y).2 r else zbi w h l x y r
def goK (w h : Int) (l : List zp) (x y : Int) : Tm:=(w,h,l,inM x (w - 1),inM y (h - 1),false)
noncomputable def doK (w h : Int) (l : List zp) (x y : Int) (b : Bool) (c : Cmd) : Tm :=
 if c.1 = 1 then v9 w h l x y b c.2.2.2
 else if c.1 = 12 then (w,h,l,x,y,b)
 else if c.1 = 2 then goK w h l c.2.2.1 c.2.1
 else if c.1 = 3 then goK w h l x (y - c.2.1)
 else if c.1 = 4 then goK w h l x (y + c.2.1)
 else if c.1 = 5 then goK w h l (x + c.2.1) y
 else if c.1 = 6 then goK w h l (x - c.2.1) y
 else if c.1 = 7 then (w,h,(ji w h l (y * w + x) ((y + 1) * w)).1.2.2,x,y,false)
 else if c.1 = 8 then (w,h,(ji w h l (y * w + x) l.length).1.2.2,x,y,false)
 else if c.1 = 9 then goK w h l 0 y
 else if c.1 = 10 then (w,h,(kg w h l y).1,x,(kg w h l y).2,false)
 else goK w h l (x - 1) y
def noT : Tm:=(0,0,[],0,0,false)
noncomputable def doT (t : Tm) (c : Cmd) : Tm × Int:=if okT t.1 t.2.1 t.2.2.1 t.2.2.2.1 t.2.2.2.2.1 t.2.2.2.2.2 = true ∧ z9 c = true then (doK t.1 t.2.1 t.2.2.1 t.2.2.2.1 t.2.2.2.2.1 t.2.2.2.2.2 c,0) else (noT,1)
noncomputable abbrev znb (t : Tm) : Bool:=okT t.1 t.2.1 t.2.2.1 t.2.2.2.1 t.2.2.2.2.1 t.2.2.2.2.2
theorem zxx {t : Tm} {c : Cmd} (h1 : znb t = true) (h2 : z9 c = true) : doT t c = (doK t.1 t.2.1 t.2.2.1 t.2.2.2.1 t.2.2.2.2.1 t.2.2.2.2.2 c,0):=if_pos ⟨h1,h2⟩
theorem z3e {t : Tm} {c : Cmd} (h : ¬ (znb t = true ∧ z9 c = true)) : doT t c = (noT,1):=if_neg h
theorem x9 {w h : Int} {l : List zp} (hok : okG w h l = true) : (l.length : Int) = w * h ∧ l.length ≤ 1920 ∧ 2 ≤ w ∧ w ≤ 80 ∧ 1 ≤ h ∧ h ≤ 24:=by
 obtain ⟨w',h',rfl,rfl,h1,h2,h3,h4,h5,_⟩:=jd hok
 have : w' * h' ≤ 80 * 24:=Nat.mul_le_mul h2 h4
 exact ⟨by rw [h5]; simp,by omega,by omega,by omega,by omega,by omega⟩
theorem zfv {w h : Int} {l : List zp} {y : Int} (hok : okG w h l = true) (hy : 0 ≤ y ∧ y < h) : okG w h (kg w h l y).1 = true ∧ 0 ≤ (kg w h l y).2 ∧ (kg w h l y).2 < h:=by
 unfold kg
 split
 ·exact ⟨(zjv w h l hok).2,hy.1,hy.2⟩
 ·exact ⟨hok,by simp only; omega,by simp only; omega⟩
theorem j6 {r : Int} (hs : xq r = true) : 1 ≤ (zh r).length ∧ (zh r).length ≤ 2:=by
 rw [kh hs]; split <;> simp
theorem y9 {w h : Int} {l : List zp} {x y r : Int} (hok : okG w h l = true) (hx : 0 ≤ x ∧ x < w) (hy : 0 ≤ y ∧ y < h) (hs : xq r = true) (hk : x + (zh r).length ≤ w) : zlo w h l x y r = ((w,h,zak l (y.toNat * w.toNat + x.toNat) (zh r)),0) ∧ okG w h (zak l (y.toNat * w.toNat + x.toNat) (zh r)) = true:=by
 have e : zlo w h l x y r = ((w,h,zak l (y.toNat * w.toNat + x.toNat) (zh r)),0):=if_pos ⟨⟨hok,hx.1,hx.2,hy.1,hy.2⟩,hs,hk⟩
 have:=z4s w h l x y r (by rw [e])
 rw [e] at this
 exact ⟨e,this⟩
theorem zli {w h : Int} {l : List zp} {x y r : Int} (hok : okG w h l = true) (hx : 0 ≤ x ∧ x < w) (hy : 0 ≤ y ∧ y < h) (hs : xq r = true) (hk : x + (zh r).length ≤ w) : znb (zbi w h l x y r) = true:=by
 obtain ⟨e1,e2⟩:=y9 hok hx hy hs hk
 have hl:=j6 hs
 have hg:=x9 hok
 have hi:=zn8 (n:=x + (zh r).length) (most:=w - 1) (by omega)
 have : okT w h (zak l (y.toNat * w.toNat + x.toNat) (zh r)) (inM (x + (zh r).length) (w - 1)) y (decide (x + (zh r).length = w)) = true :=
  xe.2 ⟨e2,⟨hi.1,by omega,hy.1,hy.2⟩,fun h=>by have:=of_decide_eq_true h; unfold inM; omega⟩
 unfold zbi
 rw [e1]
 exact this
theorem zpt {w h : Int} {l : List zp} {x y : Int} {b : Bool} {r : Int} (hok : okT w h l x y b = true) (hs : xq r = true) : znb (v9 w h l x y b r) = true:=by
 obtain ⟨h1,⟨h2,h3,h4,h5⟩,h6⟩:=xe.1 hok
 have hl:=j6 hs
 have hg:=x9 h1
 unfold v9
 split
 ·obtain ⟨d1,d2,d3⟩:=zfv h1 ⟨h4,h5⟩
  exact zli d1 ⟨by omega,by omega⟩ ⟨d2,d3⟩ hs (by omega)
 ·exact zli h1 ⟨h2,h3⟩ ⟨h4,h5⟩ hs (by omega)
theorem z8e {w h : Int} {l : List zp} (hok : okG w h l = true) (x y : Int) : znb (goK w h l x y) = true:=by
 have hg:=x9 hok
 unfold goK
 have h1:=zn8 (n:=x) (most:=w - 1) (by omega)
 have h2:=zn8 (n:=y) (most:=h - 1) (by omega)
 have : okT w h l (inM x (w - 1)) (inM y (h - 1)) false = true:=xe.2 ⟨hok,⟨h1.1,by omega,h2.1,by omega⟩,fun h=>by cases h⟩
 exact this
theorem z15 {w h x y : Int} (hx : 0 ≤ x ∧ x < w) (hy : 0 ≤ y ∧ y < h) : 0 ≤ y * w + x ∧ y * w + x < (y + 1) * w ∧ (y + 1) * w ≤ w * h:=by
 obtain ⟨w',rfl⟩:=Int.eq_ofNat_of_zero_le (show 0 ≤ w by omega)
 obtain ⟨h',rfl⟩:=Int.eq_ofNat_of_zero_le (show 0 ≤ h by omega)
 obtain ⟨x',rfl⟩:=Int.eq_ofNat_of_zero_le hx.1
 obtain ⟨y',rfl⟩:=Int.eq_ofNat_of_zero_le hy.1
 have h1 : (y' + 1) * w' ≤ h' * w':=Nat.mul_le_mul_right w' (by omega)
 have h2 : (y' + 1) * w' = y' * w' + w':=Nat.succ_mul y' w'
 have h3 : w' * h' = h' * w':=Nat.mul_comm _ _
 refine ⟨by omega, ?_, ?_⟩
 ·have : (((y' + 1) * w' : Nat) : Int) = ((y' : Int) + 1) * w':=by simp
  have e2 : ((y' * w' : Nat) : Int) = (y' : Int) * w':=by simp
  omega
 ·have : (((y' + 1) * w' : Nat) : Int) = ((y' : Int) + 1) * w':=by simp
  have e2 : ((w' * h' : Nat) : Int) = (w' : Int) * h':=by simp
  omega
theorem zat {w h : Int} {l : List zp} {a b : Int} (hok : okG w h l = true) (h1 : 0 ≤ a) (h2 : a ≤ b) (h3 : b ≤ l.length) : ji w h l a b = ((w,h,zak l a.toNat (List.replicate (b - a).toNat (32,0))),0) ∧ okG w h (zak l a.toNat (List.replicate (b - a).toNat (32,0))) = true:=by
 have e : ji w h l a b = ((w,h,zak l a.toNat (List.replicate (b - a).toNat (32,0))),0):=if_pos ⟨hok,h1,h2,h3⟩
 have:=zyc w h l a b (by rw [e])
 rw [e] at this
 exact ⟨e,this⟩
theorem wx {c : Cmd} (h : z9 c = true) : (∃ r,c = (1,0,0,r) ∧ xq r = true) ∨ (∃ a b,c = (2,a,b,0) ∧ 0 ≤ a ∧ a < 24 ∧ 0 ≤ b ∧ b < 80) ∨ (∃ k a,c = (k,a,0,0) ∧ (k = 3 ∨ k = 4 ∨ k = 5 ∨ k = 6) ∧ 1 ≤ a ∧ a ≤ 80) ∨ (∃ k,c = (k,0,0,0) ∧ (k = 7 ∨ k = 8 ∨ k = 9 ∨ k = 10 ∨ k = 11 ∨ k = 12)):=by
 have hs:=zzu h
 generalize xy c = l at hs
 cases hs with
 |text n hs=>exact .inl ⟨_,rfl,hs⟩
 |go a b ha hb=>exact .inr (.inl ⟨_,_,rfl,by omega,by omega,by omega,by omega⟩)
 |one k hk=>exact .inr (.inr (.inl ⟨_,_,rfl,by omega,by omega,by omega⟩))
 |move k a hk ha=>exact .inr (.inr (.inl ⟨_,_,rfl,by omega,by omega,by omega⟩))
 |form k hk=>exact .inr (.inr (.inr ⟨_,rfl,by omega⟩))
theorem z9d {w h : Int} {l : List zp} {x y : Int} {b : Bool} {c : Cmd} (hok : okT w h l x y b = true) (hc : z9 c = true) : znb (doK w h l x y b c) = true:=by
 obtain ⟨h1,⟨h2,h3,h4,h5⟩,h6⟩:=xe.1 hok
 have hg:=x9 h1
 have hat:=z15 ⟨h2,h3⟩ ⟨h4,h5⟩
 have go:=z8e h1
 rcases wx hc with ⟨r,rfl,hs⟩ | ⟨a,d,rfl,_⟩ | ⟨k,a,rfl,hk,_⟩ | ⟨k,rfl,hk⟩
 ·exact zpt hok hs
 ·exact go _ _
 ·rcases hk with rfl | rfl | rfl | rfl <;> exact go _ _
 ·rcases hk with rfl | rfl | rfl | rfl | rfl | rfl
  ·obtain ⟨e1,e2⟩:=zat (a:=y * w + x) (b:=(y + 1) * w) h1 hat.1 (by omega) (by omega)
   show znb (w,h,(ji w h l (y * w + x) ((y + 1) * w)).1.2.2,x,y,false) = true
   rw [e1]; exact xe.2 ⟨e2,⟨h2,h3,h4,h5⟩,fun h=>by cases h⟩
  ·obtain ⟨e1,e2⟩:=zat (a:=y * w + x) (b:=l.length) h1 hat.1 (by omega) (by omega)
   show znb (w,h,(ji w h l (y * w + x) l.length).1.2.2,x,y,false) = true
   rw [e1]; exact xe.2 ⟨e2,⟨h2,h3,h4,h5⟩,fun h=>by cases h⟩
  ·exact go _ _
  ·obtain ⟨d1,d2,d3⟩:=zfv h1 ⟨h4,h5⟩
   exact xe.2 ⟨d1,⟨h2,h3,d2,d3⟩,fun h=>by cases h⟩
  ·exact go _ _
  ·exact hok
end
section
open Go Go.RowKit
variable {T0 : Gh} [TabS T0]
set_option maxRecDepth 200000
attribute [local irreducible] z_ zg AW AL AO QY qd zx rsA Opd xi vA gvA zt z0 slA jc ipA rpA EqK LnK IxK LdK FaK FdK
theorem zwx (w h : Int) : AP Tryz.prog T0 61 [I w,I h] (zt [xp (zb_ w h).1.1 (zb_ w h).1.2.1 (zb_ w h).1.2.2 0 0 false,I (zb_ w h).2]):=by
 have c1 : AP Tryz.prog T0 114 [I w,I h] (zt [qp (zb_ w h).1.1 (zb_ w h).1.2.1 (zb_ w h).1.2.2,I (zb_ w h).2]):=ztn w h
 refine za Tryz.func61 rfl (by decide) Tryz.ntmps61 rfl ?_
 repeat' (first
 |(apply qa; (case hn=>rfl); (case hm=>kernel_rfl)) | refine zc3 ?_ | (apply jk; (case hL=>rfl); (case hne=>rfl)) | exact jm | apply xh | (apply zdf; (case ho=>rfl)) | (apply xf; exact vn) | (apply jh; (case h=>exact zcb); (case hk=>exact wk_); (case hc=>rfl)) | refine z05 ?_
  |refine xr ?_ (hy:=by first | (apply ze rfl; exact oo_; done) | (apply ze rfl; exact qe; done)
                                |(apply zn rfl; exact oo_; exact oo_) | (apply zz rfl; exact oo_; exact oo_) | fail)
 |refine z04 ?_
  |refine qc ?_ (hy:=by intro hk hk2; first | (apply ze rfl; exact oo_; done) | (apply ze rfl; exact qe; done)
                                              |(apply zn rfl; exact oo_; exact oo_) | (apply zz rfl; exact oo_; exact oo_) | fail)
 |refine sw_ ?_ | (refine zb ?_ ?_ <;> intro hb <;> try exact no_) | (refine sx_ ?_ <;> intro bb) | (refine su_ ?_ <;> intro u hu1 hu2) | fail)
 exact ⟨_,[],rl_,List.nil_sublist _,Sub.refl _,rfl⟩
theorem zs8 (w h : Int) : AP Tryz.prog T0 181 [I w,I h] (zt [xp (zb_ w h).1.1 (zb_ w h).1.2.1 (zb_ w h).1.2.2 0 0 false,I (zb_ w h).2]):=by
 have c1 : AP Tryz.prog T0 193 [I w,I h] (zt [qp (zb_ w h).1.1 (zb_ w h).1.2.1 (zb_ w h).1.2.2,I (zb_ w h).2]):=zs9 w h
 unfold zb_ at c1 ⊢
 split at c1
 ·rename_i e; rw [if_pos e]
  refine za Tryz.func181 rfl (by decide) Tryz.ntmps181 rfl ?_
  repeat' (first
  |(apply qa; (case hn=>rfl); (case hm=>kernel_rfl)) | refine zc3 ?_ | (apply jk; (case hL=>rfl); (case hne=>rfl)) | exact jm | apply xh | (apply zdf; (case ho=>rfl)) | (apply xf; exact vn) | (apply jh; (case h=>exact zcb); (case hk=>exact wk_); (case hc=>rfl)) | refine z05 ?_
   |refine xr ?_ (hy:=by first | (apply ze rfl; exact oo_; done) | (apply ze rfl; exact qe; done)
                                 |(apply zn rfl; exact oo_; exact oo_) | (apply zz rfl; exact oo_; exact oo_) | fail)
  |refine z04 ?_
   |refine qc ?_ (hy:=by intro hk hk2; first | (apply ze rfl; exact oo_; done) | (apply ze rfl; exact qe; done)
                                               |(apply zn rfl; exact oo_; exact oo_) | (apply zz rfl; exact oo_; exact oo_) | fail)
  |refine sw_ ?_ | (refine zb ?_ ?_ <;> intro hb <;> try exact no_) | (refine sx_ ?_ <;> intro bb) | (refine su_ ?_ <;> intro u hu1 hu2) | fail)
  all_goals first | (exfalso; simp at hb; done) | exact ⟨_,[],rl_,List.nil_sublist _,Sub.refl _,rfl⟩
 ·rename_i e; rw [if_neg e]
  refine za Tryz.func181 rfl (by decide) Tryz.ntmps181 rfl ?_
  repeat' (first
  |(apply qa; (case hn=>rfl); (case hm=>kernel_rfl)) | refine zc3 ?_ | (apply jk; (case hL=>rfl); (case hne=>rfl)) | exact jm | apply xh | (apply zdf; (case ho=>rfl)) | (apply xf; exact vn) | (apply jh; (case h=>exact zcb); (case hk=>exact wk_); (case hc=>rfl)) | refine z05 ?_
   |refine xr ?_ (hy:=by first | (apply ze rfl; exact oo_; done) | (apply ze rfl; exact qe; done)
                                 |(apply zn rfl; exact oo_; exact oo_) | (apply zz rfl; exact oo_; exact oo_) | fail)
  |refine z04 ?_
   |refine qc ?_ (hy:=by intro hk hk2; first | (apply ze rfl; exact oo_; done) | (apply ze rfl; exact qe; done)
                                               |(apply zn rfl; exact oo_; exact oo_) | (apply zz rfl; exact oo_; exact oo_) | fail)
  |refine sw_ ?_ | (refine zb ?_ ?_ <;> intro hb <;> try exact no_) | (refine sx_ ?_ <;> intro bb) | (refine su_ ?_ <;> intro u hu1 hu2) | fail)
  all_goals first | (exfalso; simp at hb; done) | exact ⟨_,[],rl_,List.nil_sublist _,ka (qb (vx (qb (Sub.refl _) (qb (Sub.refl _) (qb zck (qb (Sub.refl _) (qb (Sub.refl _) (qb (Sub.refl _) vj))))))) (qb (Sub.refl _) vj)),rfl⟩
theorem zqb (w h : Int) (l : List zp) (x y : Int) (b : Bool) : okT w h l x y b = (okG w h l && decide (0 ≤ x) && decide (x < w) && decide (0 ≤ y) && decide (y < h) && (!b || decide (x = w - 1))):=by
 rw [Bool.eq_iff_iff]
 simp only [okT,Bool.and_eq_true,decide_eq_true_eq,and_assoc]
theorem zkg (w h : Int) (l : List zp) (x y : Int) (b : Bool) : AP Tryz.prog T0 46 [xp w h l x y b] (B (okT w h l x y b)):=by
 cases hg : okG w h l with
 |false =>
  have c1 : AP Tryz.prog T0 104 [qp w h l] (B false):=hg ▸ zo1 w h l
  have e : okT w h l x y b = false:=by rw [okT,hg]; rfl
  rw [e]
  refine za Tryz.func46 rfl (by decide) Tryz.ntmps46 rfl ?_
  repeat' (first
  |(apply qa; (case hn=>rfl); (case hm=>kernel_rfl)) | refine zc3 ?_ | (apply jk; (case hL=>rfl); (case hne=>rfl)) | exact jm | apply xh | (apply zdf; (case ho=>rfl)) | (apply xf; exact vn) | (apply jh; (case h=>exact zcb); (case hk=>exact wk_); (case hc=>rfl)) | refine z05 ?_
   |refine xr ?_ (hy:=by first | (apply ze rfl; exact oo_; done) | (apply ze rfl; exact qe; done)
                                 |(apply zn rfl; exact oo_; exact oo_) | (apply zz rfl; exact oo_; exact oo_) | fail)
  |refine z04 ?_
   |refine qc ?_ (hy:=by intro hk hk2; first | (apply ze rfl; exact oo_; done) | (apply ze rfl; exact qe; done)
                                               |(apply zn rfl; exact oo_; exact oo_) | (apply zz rfl; exact oo_; exact oo_) | fail)
  |refine sw_ ?_ | (refine zb ?_ ?_ <;> intro hb <;> try exact no_) | (refine sx_ ?_ <;> intro bb) | (refine su_ ?_ <;> intro u hu1 hu2) | fail)
  all_goals first | exact ⟨_,[],rl_,List.nil_sublist _,Sub.refl _,rfl⟩ | (exfalso; simp at hb; done)
 |true =>
  have c1 : AP Tryz.prog T0 104 [qp w h l] (B true):=hg ▸ zo1 w h l
  have hl:=x9 hg
  refine za Tryz.func46 rfl (by decide) Tryz.ntmps46 rfl ?_
  repeat' (first
  |(apply qa; (case hn=>rfl); (case hm=>kernel_rfl)) | refine zc3 ?_ | (apply jk; (case hL=>rfl); (case hne=>rfl)) | exact jm | apply xh | (apply zdf; (case ho=>rfl)) | (apply xf; exact vn) | (apply jh; (case h=>exact zcb); (case hk=>exact wk_); (case hc=>rfl)) | refine z05 ?_
   |refine xr ?_ (hy:=by first | (apply ze rfl; exact oo_; done) | (apply ze rfl; exact qe; done)
                                 |(apply zn rfl; exact oo_; exact oo_) | (apply zz rfl; exact oo_; exact oo_) | fail)
  |refine z04 ?_
   |refine qc ?_ (hy:=by intro hk hk2; first | (apply ze rfl; exact oo_; done) | (apply ze rfl; exact qe; done)
                                               |(apply zn rfl; exact oo_; exact oo_) | (apply zz rfl; exact oo_; exact oo_) | fail)
  |refine sw_ ?_ | (refine zb ?_ ?_ <;> intro hb <;> try exact no_) | (refine sx_ ?_ <;> intro bb) | (refine su_ ?_ <;> intro u hu1 hu2) | fail)
  all_goals first | (exfalso; simp at hb; done) | (refine ⟨_,[],rl_,List.nil_sublist _,Sub.eq (congrArg B ?_),rfl⟩; rw [zqb,hg]; first | (simp; omega) | (cases b <;> simp <;> omega))
theorem zmc (w h : Int) (l : List zp) (x y : Int) (b : Bool) : AP Tryz.prog T0 107 [xp w h l x y b] (B (okT w h l x y b)):=by
 rw [zqb]
 cases hg : okG w h l with
 |false =>
  have c1 : AP Tryz.prog T0 144 [qp w h l] (B false):=hg ▸ v6 w h l
  refine za Tryz.func107 rfl (by decide) Tryz.ntmps107 rfl ?_
  repeat' (first
  |(apply qa; (case hn=>rfl); (case hm=>kernel_rfl)) | refine zc3 ?_ | (apply jk; (case hL=>rfl); (case hne=>rfl)) | exact jm | apply xh | (apply zdf; (case ho=>rfl)) | (apply xf; exact vn) | (apply jh; (case h=>exact zcb); (case hk=>exact wk_); (case hc=>rfl)) | refine sa_ ?_ | refine zw ?_ (c:=by first | exact c1 | exact zo1 _ _ _ | exact v6 _ _ _ | fail) | refine xr ?_ (hy:=by first | (apply zkw rfl; exact qe; exact qe; done) | fail) | refine x5 ?_ | refine zk ?_ (c:=by intro hk hk2; first | exact c1 | exact zo1 _ _ _ | exact v6 _ _ _ | fail) | refine qc ?_ (hy:=by intro hk hk2; first | (apply zkw rfl; exact qe; exact qe; done) | fail) | refine sw_ ?_ | (refine zb ?_ ?_ <;> intro hb <;> try exact no_) | (refine sx_ ?_ <;> intro bb) | (refine su_ ?_ <;> intro u hu1 hu2) | fail)
  all_goals first | exact ⟨_,[],rl_,List.nil_sublist _,Sub.refl _,rfl⟩ | exact ⟨_,[],rl_,List.nil_sublist _,Sub.eq (congrArg B (by simp)),rfl⟩
 |true =>
  have c1 : AP Tryz.prog T0 144 [qp w h l] (B true):=hg ▸ v6 w h l
  have hl:=x9 hg
  refine za Tryz.func107 rfl (by decide) Tryz.ntmps107 rfl ?_
  repeat' (first
  |(apply qa; (case hn=>rfl); (case hm=>kernel_rfl)) | refine zc3 ?_ | (apply jk; (case hL=>rfl); (case hne=>rfl)) | exact jm | apply xh | (apply zdf; (case ho=>rfl)) | (apply xf; exact vn) | (apply jh; (case h=>exact zcb); (case hk=>exact wk_); (case hc=>rfl)) | refine z05 ?_
   |refine xr ?_ (hy:=by first | (apply ze rfl; exact oo_; done) | (apply ze rfl; exact qe; done)
                                 |(apply zn rfl; exact oo_; exact oo_) | (apply zz rfl; exact oo_; exact oo_) | fail)
  |refine z04 ?_
   |refine qc ?_ (hy:=by intro hk hk2; first | (apply ze rfl; exact oo_; done) | (apply ze rfl; exact qe; done)
                                               |(apply zn rfl; exact oo_; exact oo_) | (apply zz rfl; exact oo_; exact oo_) | fail)
  |refine sw_ ?_ | (refine zb ?_ ?_ <;> intro hb <;> try exact no_) | (refine sx_ ?_ <;> intro bb) | (refine su_ ?_ <;> intro u hu1 hu2) | fail)
  all_goals first | exact ⟨_,[],rl_,List.nil_sublist _,Sub.refl _,rfl⟩ | exact ⟨_,[],rl_,List.nil_sublist _,Sub.eq (congrArg B (by simp)),rfl⟩
theorem z1b (p : Nat) (w h : Int) (l : List zp) (x y : Int) (b : Bool) (X Y : Int) (hr : 2 ≤ w ∧ w ≤ 80 ∧ 1 ≤ h ∧ h ≤ 24) : AF Tryz.prog T0 106 [ptA p,I X,I Y] [scO p w h l x y b] (fun _ M'=>M' = [scO p w h l (inM X (w - 1)) (inM Y (h - 1)) b]):=by
 have c1 : True:=trivial
 refine za Tryz.func106 rfl (by decide) Tryz.ntmps106 rfl ?_
 repeat' (first
 |(apply qa; (case hn=>rfl); (case hm=>kernel_rfl)) | refine zc3 ?_ | (apply jk; (case hL=>rfl); (case hne=>rfl)) | exact jm | apply xh | (apply zdf; (case ho=>rfl)) | (apply xf; exact vn) | (apply jh; (case h=>exact zcb); (case hk=>exact wk_); (case hc=>rfl)) | refine z05 ?_
  |refine xr ?_ (hy:=by first | (apply ze rfl; exact oo_; done) | (apply ze rfl; exact qe; done)
                                |(apply zn rfl; exact oo_; exact oo_) | (apply zz rfl; exact oo_; exact oo_) | fail)
 |refine z04 ?_
  |refine qc ?_ (hy:=by intro hk hk2; first | (apply ze rfl; exact oo_; done) | (apply ze rfl; exact qe; done)
                                              |(apply zn rfl; exact oo_; exact oo_) | (apply zz rfl; exact oo_; exact oo_) | fail)
 |refine sw_ ?_ | (refine zb ?_ ?_ <;> intro hb <;> try exact no_) | (refine sx_ ?_ <;> intro bb) | (refine su_ ?_ <;> intro u hu1 hu2) | fail)
 exact ⟨_,_,rl_,sl_,rfl⟩
theorem ziz (p : Nat) (w h : Int) (l : List zp) (x y : Int) (b : Bool) (c : Cmd) (hg : okG w h l = true) (hy : 0 ≤ y ∧ y < h) : AF Tryz.prog T0 81 [ptA p,vi c] [scO p w h l x y b] (fun _ M'=>M' = [scO p w h (kg w h l y).1 x (kg w h l y).2 b]):=by
 have hl:=x9 hg
 have c1:=z1o (T0:=T0) w h l (by omega)
 by_cases e : y = h - 1
 ·rw [kg,if_pos e]
  refine za Tryz.func81 rfl (by decide) Tryz.ntmps81 rfl ?_
  repeat' (first
  |(apply qa; (case hn=>rfl); (case hm=>kernel_rfl)) | refine zc3 ?_ | (apply jk; (case hL=>rfl); (case hne=>rfl)) | exact jm | apply xh | (apply zdf; (case ho=>rfl)) | (apply xf; exact vn) | (apply jh; (case h=>exact zcb); (case hk=>exact wk_); (case hc=>rfl)) | refine z05 ?_
   |refine xr ?_ (hy:=by first | (apply ze rfl; exact oo_; done) | (apply ze rfl; exact qe; done)
                                 |(apply zn rfl; exact oo_; exact oo_) | (apply zz rfl; exact oo_; exact oo_) | fail)
  |refine z04 ?_
   |refine qc ?_ (hy:=by intro hk hk2; first | (apply ze rfl; exact oo_; done) | (apply ze rfl; exact qe; done)
                                               |(apply zn rfl; exact oo_; exact oo_) | (apply zz rfl; exact oo_; exact oo_) | fail)
  |refine sw_ ?_ | (refine zb ?_ ?_ <;> intro hb <;> try exact no_) | (refine sx_ ?_ <;> intro bb) | (refine su_ ?_ <;> intro u hu1 hu2) | fail)
  all_goals first | (exfalso; omega) | exact ⟨_,_,rl_,.cons _ (.refl _),rfl⟩
 ·rw [kg,if_neg e]
  refine za Tryz.func81 rfl (by decide) Tryz.ntmps81 rfl ?_
  repeat' (first
  |(apply qa; (case hn=>rfl); (case hm=>kernel_rfl)) | refine zc3 ?_ | (apply jk; (case hL=>rfl); (case hne=>rfl)) | exact jm | apply xh | (apply zdf; (case ho=>rfl)) | (apply xf; exact vn) | (apply jh; (case h=>exact zcb); (case hk=>exact wk_); (case hc=>rfl)) | refine z05 ?_
   |refine xr ?_ (hy:=by first | (apply ze rfl; exact oo_; done) | (apply ze rfl; exact qe; done)
                                 |(apply zn rfl; exact oo_; exact oo_) | (apply zz rfl; exact oo_; exact oo_) | fail)
  |refine z04 ?_
   |refine qc ?_ (hy:=by intro hk hk2; first | (apply ze rfl; exact oo_; done) | (apply ze rfl; exact qe; done)
                                               |(apply zn rfl; exact oo_; exact oo_) | (apply zz rfl; exact oo_; exact oo_) | fail)
  |refine sw_ ?_ | (refine zb ?_ ?_ <;> intro hb <;> try exact no_) | (refine sx_ ?_ <;> intro bb) | (refine su_ ?_ <;> intro u hu1 hu2) | fail)
  all_goals first | (exfalso; omega) | exact ⟨_,_,rl_,.cons _ (.refl _),rfl⟩
end
section
open Go Go.RowKit
variable {T0 : Gh} [TabS T0]
set_option maxRecDepth 200000
theorem AF.toM {f : FuncId} {As : List AV} {M : List Own} {m m' : Own} (h : AF Tryz.prog T0 f As M (fun _ M'=>M' = [m])) (e : m = m') : AF Tryz.prog T0 f As M (fun _ M'=>M' = [m']):=e ▸ h
attribute [local irreducible] z_ zg AW AL AO QY qd zx rsA Opd xi vA gvA zt z0 slA jc ipA rpA EqK LnK IxK LdK FaK FdK
theorem zs2 (p : Nat) (w h : Int) (l : List zp) (x y : Int) (b : Bool) (k a d r : Int) (hok : okT w h l x y b = true) (hs : xq r = true) : AF Tryz.prog T0 72 [ptA p,vi (k,a,d,r)] [scO p w h l x y b]
  (fun _ M'=>M' = [scO p w h (v9 w h l x y b r).2.2.1 (v9 w h l x y b r).2.2.2.1 (v9 w h l x y b r).2.2.2.2.1 (v9 w h l x y b r).2.2.2.2.2]):=by
 obtain ⟨h1,⟨h2,h3,h4,h5⟩,h6⟩:=xe.1 hok
 have hl:=j6 hs
 have hg:=x9 h1
 by_cases hw : b = true ∨ w < x + (zh r).length
 ·obtain ⟨d1,d2,d3⟩:=zfv h1 ⟨h4,h5⟩
  have hg2:=x9 d1
  have cd:=ziz (T0:=T0) p w h l x y b (k,a,d,r) h1 ⟨h4,h5⟩
  rw [v9,if_pos hw]
  obtain ⟨⟨l1,y1⟩,e1⟩ : ∃ z,z = kg w h l y:=⟨_,rfl⟩
  rw [← e1] at cd d1 d2 d3 hg2 ⊢
  simp only at cd d1 d2 d3 hg2 ⊢
  obtain ⟨e2,e3⟩:=y9 (l:=l1) (x:=0) (y:=y1) (r:=r) d1 ⟨by omega,by omega⟩ ⟨d2,d3⟩ hs (by omega)
  obtain ⟨l2,hl2⟩ : ∃ z,z = zak l1 (y1.toNat * w.toNat + (0 : Int).toNat) (zh r):=⟨_,rfl⟩
  rw [← hl2] at e2 e3
  have c1 : AP Tryz.prog T0 124 [qp w h l1,I 0,I y1,R r] (zt [qp w h l2,I 0]):=(z83 w h l1 0 y1 r (by omega)).to (by rw [e2]; rfl)
  have ct : AF Tryz.prog T0 106 [ptA p,I (0 + (zh r).length : Int),I y1] [scO p w h l2 0 y1 b] (fun _ M'=>M' = [scO p w h l2 (inM (0 + (zh r).length) (w - 1)) y1 b]):=(z1b p w h l2 0 y1 b (0 + (zh r).length) y1 (by omega)).toM (by rw [xg d2 (by omega)])
  rw [zbi,e2]
  simp only
  have cw:=zb1 (T0:=T0) r
  generalize (zh r).length = n at *
  clear e2 e3 hl2 e1
  refine za Tryz.func72 rfl (by decide) Tryz.ntmps72 rfl ?_
  repeat' (first
  |(apply zd rfl rfl rfl rfl (c:=cd)
    case ha=>exact os_
    case hM=>exact zf
    rintro _ _ rfl
    simp only [List.cons_append,List.nil_append,List.append_eq])
   |(apply zd rfl rfl rfl rfl (c:=ct)
     case ha=>exact os_
     case hM=>exact zf
     rintro _ _ rfl
     simp only [List.cons_append,List.nil_append,List.append_eq])
  |(apply uj 21 25; (case hN=>decide +kernel); (case hD=>decide +kernel); (case hB=>kernel_rfl); (case hm=>kernel_rfl); (case hod=>rfl); (case hl=>rfl); (case hn=>rfl); (case hsd=>rfl); (case hb=>rfl)) | (apply zxt; (case h2=>exact zml)) | (apply aw_regionS; (case h2=>rfl); (case hD=>decide +kernel); (case hB=>decide +kernel); (case hg=>decide +kernel); (case hm=>kernel_rfl); (case hoL=>rfl); (case hod=>rfl)) | refine endS_ ?_ | (apply qa; (case hn=>rfl); (case hm=>kernel_rfl)) | refine zc3 ?_ | (apply jk; (case hL=>rfl); (case hne=>rfl)) | exact jm | apply xh | (apply zdf; (case ho=>rfl)) | (apply xf; exact vn) | (apply jh; (case h=>exact zcb); (case hk=>exact wk_); (case hc=>rfl)) | refine z26 ?_ | (apply zm (by rfl) (by kernel_rfl) (by kernel_rfl)) | refine qb3 ?_ | (refine zb ?_ ?_ <;> intro hb <;> try exact no_) | (refine sx_ ?_ <;> intro bb) | (refine su_ ?_ <;> intro u hu1 hu2) | fail)
  all_goals first | (exfalso; omega) | exact absurd hb hw | (exfalso; rcases hw with e | e <;> simp [e] at hb; done) | (exfalso; simp at hb; omega) | (refine ⟨_,_,rl_,(List.Sublist.cons_cons _ (List.nil_sublist _)), ?_⟩; first | rfl | (simp; done))
 ·rw [v9,if_neg hw]
  have hk : x + (zh r).length ≤ w:=by omega
  obtain ⟨e2,e3⟩:=y9 (l:=l) (x:=x) (y:=y) (r:=r) h1 ⟨h2,h3⟩ ⟨h4,h5⟩ hs hk
  obtain ⟨l2,hl2⟩ : ∃ z,z = zak l (y.toNat * w.toNat + x.toNat) (zh r):=⟨_,rfl⟩
  rw [← hl2] at e2 e3
  have c1 : AP Tryz.prog T0 124 [qp w h l,I x,I y,R r] (zt [qp w h l2,I 0]):=(z83 w h l x y r (by omega)).to (by rw [e2]; rfl)
  have ct : AF Tryz.prog T0 106 [ptA p,I (x + (zh r).length),I y] [scO p w h l2 x y b] (fun _ M'=>M' = [scO p w h l2 (inM (x + (zh r).length) (w - 1)) y b]):=(z1b p w h l2 x y b (x + (zh r).length) y (by omega)).toM (by rw [xg h4 (by omega)])
  have cd : True:=trivial
  rw [zbi,e2]
  simp only
  have cw:=zb1 (T0:=T0) r
  generalize (zh r).length = n at *
  clear e2 e3 hl2
  refine za Tryz.func72 rfl (by decide) Tryz.ntmps72 rfl ?_
  repeat' (first
  |(apply zd rfl rfl rfl rfl (c:=cd)
    case ha=>exact os_
    case hM=>exact zf
    rintro _ _ rfl
    simp only [List.cons_append,List.nil_append,List.append_eq])
   |(apply zd rfl rfl rfl rfl (c:=ct)
     case ha=>exact os_
     case hM=>exact zf
     rintro _ _ rfl
     simp only [List.cons_append,List.nil_append,List.append_eq])
  |(apply uj 21 25; (case hN=>decide +kernel); (case hD=>decide +kernel); (case hB=>kernel_rfl); (case hm=>kernel_rfl); (case hod=>rfl); (case hl=>rfl); (case hn=>rfl); (case hsd=>rfl); (case hb=>rfl)) | (apply zxt; (case h2=>exact zml)) | (apply aw_regionS; (case h2=>rfl); (case hD=>decide +kernel); (case hB=>decide +kernel); (case hg=>decide +kernel); (case hm=>kernel_rfl); (case hoL=>rfl); (case hod=>rfl)) | refine endS_ ?_ | (apply qa; (case hn=>rfl); (case hm=>kernel_rfl)) | refine zc3 ?_ | (apply jk; (case hL=>rfl); (case hne=>rfl)) | exact jm | apply xh | (apply zdf; (case ho=>rfl)) | (apply xf; exact vn) | (apply jh; (case h=>exact zcb); (case hk=>exact wk_); (case hc=>rfl)) | refine z26 ?_ | (apply zm (by rfl) (by kernel_rfl) (by kernel_rfl)) | refine qb3 ?_ | (refine zb ?_ ?_ <;> intro hb <;> try exact no_) | (refine sx_ ?_ <;> intro bb) | (refine su_ ?_ <;> intro u hu1 hu2) | fail)
  all_goals first | (exfalso; omega) | exact absurd hb hw | (exfalso; rcases hw with e | e <;> simp [e] at hb; done) | (exfalso; simp at hb; omega) | (refine ⟨_,_,rl_,(List.Sublist.cons_cons _ (List.nil_sublist _)), ?_⟩; first | rfl | (simp; done))
end
section
open Go Go.RowKit
variable {T0 : Gh} [TabS T0]
set_option maxRecDepth 200000
theorem yw {w h y : Int} (hw : 2 ≤ w ∧ w ≤ 80) (hh : h ≤ 24) (hy : 0 ≤ y ∧ y < h) : 0 ≤ y * w ∧ y * w ≤ 1920 ∧ 0 ≤ (y + 1) * w ∧ (y + 1) * w ≤ 1920:=by
 obtain ⟨w',rfl⟩:=Int.eq_ofNat_of_zero_le (show 0 ≤ w by omega)
 obtain ⟨y',rfl⟩:=Int.eq_ofNat_of_zero_le hy.1
 have h1 : (y' + 1) * w' ≤ 24 * 80:=Nat.mul_le_mul (by omega) (by omega)
 have h2 : (y' + 1) * w' = y' * w' + w':=Nat.succ_mul y' w'
 have e1 : (((y' + 1) * w' : Nat) : Int) = ((y' : Int) + 1) * w':=by simp
 have e2 : ((y' * w' : Nat) : Int) = (y' : Int) * w':=by simp
 omega
attribute [local irreducible] z_ zg AW AL AO QY qd zx rsA Opd xi vA gvA zt z0 slA jc ipA rpA EqK LnK IxK LdK FaK FdK
theorem zg5 (p : Nat) (w h : Int) (l : List zp) (x y : Int) (b : Bool) (n : Int) (hg : okG w h l = true) (hx : 0 ≤ x ∧ x < w) (hy : 0 ≤ y ∧ y < h) (h1 : y * w + x ≤ n) (h2 : n ≤ l.length) : AF Tryz.prog T0 125 [ptA p,I n] [scO p w h l x y b]
  (fun _ M'=>M' = [scO p w h (ji w h l (y * w + x) n).1.2.2 x y b]):=by
 have hl:=x9 hg
 have hm:=yw (y:=y) (h:=h) ⟨hl.2.2.1,hl.2.2.2.1⟩ hl.2.2.2.2.2 hy
 obtain ⟨e1,e2⟩:=zat (a:=y * w + x) (b:=n) hg (by omega) h1 h2
 obtain ⟨l2,hl2⟩ : ∃ z,z = zak l (y * w + x).toNat (List.replicate (n - (y * w + x)).toNat (32,0)):=⟨_,rfl⟩
 rw [← hl2] at e1
 have c1 : AP Tryz.prog T0 164 [qp w h l,I (y * w + x),I n] (zt [qp w h l2,I 0]):=(z55 w h l (y * w + x) n (by omega)).to (by rw [e1]; rfl)
 have ct : True:=trivial
 rw [e1]
 clear e1 e2 hl2
 refine za Tryz.func125 rfl (by decide) Tryz.ntmps125 rfl ?_
 repeat' (first
 |(apply zd rfl rfl rfl rfl (c:=ct)
   case ha=>exact os_
   case hM=>exact zf
   rintro _ _ rfl
   simp only [List.cons_append,List.nil_append,List.append_eq])
 |(apply uj 28 32; (case hN=>decide +kernel); (case hD=>decide +kernel); (case hB=>kernel_rfl); (case hm=>kernel_rfl); (case hod=>rfl); (case hl=>rfl); (case hn=>rfl); (case hsd=>rfl); (case hb=>rfl)) | (apply zxt; (case h2=>exact zml)) | (apply aw_regionS; (case h2=>rfl); (case hD=>decide +kernel); (case hB=>decide +kernel); (case hg=>decide +kernel); (case hm=>kernel_rfl); (case hoL=>rfl); (case hod=>rfl)) | refine endS_ ?_ | (apply qa; (case hn=>rfl); (case hm=>kernel_rfl)) | refine zc3 ?_ | (apply jk; (case hL=>rfl); (case hne=>rfl)) | exact jm | apply xh | (apply zdf; (case ho=>rfl)) | (apply xf; exact vn) | (apply jh; (case h=>exact zcb); (case hk=>exact wk_); (case hc=>rfl)) | refine z26 ?_ | (apply zm (by rfl) (by kernel_rfl) (by kernel_rfl)) | refine zza ?_ | (refine zb ?_ ?_ <;> intro hb <;> try exact no_) | (refine sx_ ?_ <;> intro bb) | (refine su_ ?_ <;> intro u hu1 hu2) | fail)
 all_goals exact ⟨_,_,rl_,.refl _,rfl⟩
section
variable (p : Nat) (w h : Int) (l : List zp) (x y : Int) (b : Bool) (hok : okT w h l x y b = true)
include hok
theorem z8w (a d : Int) : AF Tryz.prog T0 73 [ptA p,z0 [I 2,I a,I d,R 0]] [scO p w h l x y b] (fun _ M'=>M' = [scO p w h l (inM d (w - 1)) (inM a (h - 1)) b]):=by
 obtain ⟨h1,⟨h2,h3,h4,h5⟩,h6⟩:=xe.1 hok
 have hg:=x9 h1
 have ct:=z1b (T0:=T0) p w h l x y b d a (by omega)
 refine za Tryz.func73 rfl (by decide) Tryz.ntmps73 rfl ?_
 repeat' (first
 |(apply zd rfl rfl rfl rfl (c:=ct)
   case ha=>exact os_
   case hM=>exact zf
   rintro _ _ rfl
   simp only [List.cons_append,List.nil_append,List.append_eq])
 |(apply qa; (case hn=>rfl); (case hm=>kernel_rfl)) | refine zc3 ?_ | (apply jk; (case hL=>rfl); (case hne=>rfl)) | exact jm | apply xh | (apply zdf; (case ho=>rfl)) | (apply xf; exact vn) | (apply jh; (case h=>exact zcb); (case hk=>exact wk_); (case hc=>rfl)) | refine zza ?_ | (refine zb ?_ ?_ <;> intro hb <;> try exact no_) | (refine sx_ ?_ <;> intro bb) | (refine su_ ?_ <;> intro u hu1 hu2) | fail)
 all_goals exact ⟨_,_,rl_,(List.Sublist.cons_cons _ (List.nil_sublist _)),rfl⟩
theorem qd3 (a : Int) (ha : 1 ≤ a ∧ a ≤ 80) : AF Tryz.prog T0 74 [ptA p,z0 [I 3,I a,I 0,R 0]] [scO p w h l x y b] (fun _ M'=>M' = [scO p w h l (inM x (w - 1)) (inM (y - a) (h - 1)) b]):=by
 obtain ⟨h1,⟨h2,h3,h4,h5⟩,h6⟩:=xe.1 hok
 have hg:=x9 h1
 have ct:=z1b (T0:=T0) p w h l x y b x (y - a) (by omega)
 refine za Tryz.func74 rfl (by decide) Tryz.ntmps74 rfl ?_
 repeat' (first
 |(apply zd rfl rfl rfl rfl (c:=ct)
   case ha=>exact os_
   case hM=>exact zf
   rintro _ _ rfl
   simp only [List.cons_append,List.nil_append,List.append_eq])
 |(apply qa; (case hn=>rfl); (case hm=>kernel_rfl)) | refine zc3 ?_ | (apply jk; (case hL=>rfl); (case hne=>rfl)) | exact jm | apply xh | (apply zdf; (case ho=>rfl)) | (apply xf; exact vn) | (apply jh; (case h=>exact zcb); (case hk=>exact wk_); (case hc=>rfl)) | refine zza ?_ | (refine zb ?_ ?_ <;> intro hb <;> try exact no_) | (refine sx_ ?_ <;> intro bb) | (refine su_ ?_ <;> intro u hu1 hu2) | fail)
 all_goals exact ⟨_,_,rl_,(List.Sublist.cons_cons _ (List.nil_sublist _)),rfl⟩
theorem z5w (a : Int) (ha : 1 ≤ a ∧ a ≤ 80) : AF Tryz.prog T0 75 [ptA p,z0 [I 4,I a,I 0,R 0]] [scO p w h l x y b] (fun _ M'=>M' = [scO p w h l (inM x (w - 1)) (inM (y + a) (h - 1)) b]):=by
 obtain ⟨h1,⟨h2,h3,h4,h5⟩,h6⟩:=xe.1 hok
 have hg:=x9 h1
 have ct:=z1b (T0:=T0) p w h l x y b x (y + a) (by omega)
 refine za Tryz.func75 rfl (by decide) Tryz.ntmps75 rfl ?_
 repeat' (first
 |(apply zd rfl rfl rfl rfl (c:=ct)
   case ha=>exact os_
   case hM=>exact zf
   rintro _ _ rfl
   simp only [List.cons_append,List.nil_append,List.append_eq])
 |(apply qa; (case hn=>rfl); (case hm=>kernel_rfl)) | refine zc3 ?_ | (apply jk; (case hL=>rfl); (case hne=>rfl)) | exact jm | apply xh | (apply zdf; (case ho=>rfl)) | (apply xf; exact vn) | (apply jh; (case h=>exact zcb); (case hk=>exact wk_); (case hc=>rfl)) | refine zza ?_ | (refine zb ?_ ?_ <;> intro hb <;> try exact no_) | (refine sx_ ?_ <;> intro bb) | (refine su_ ?_ <;> intro u hu1 hu2) | fail)
 all_goals exact ⟨_,_,rl_,(List.Sublist.cons_cons _ (List.nil_sublist _)),rfl⟩
theorem z5t (a : Int) (ha : 1 ≤ a ∧ a ≤ 80) : AF Tryz.prog T0 76 [ptA p,z0 [I 5,I a,I 0,R 0]] [scO p w h l x y b] (fun _ M'=>M' = [scO p w h l (inM (x + a) (w - 1)) (inM y (h - 1)) b]):=by
 obtain ⟨h1,⟨h2,h3,h4,h5⟩,h6⟩:=xe.1 hok
 have hg:=x9 h1
 have ct:=z1b (T0:=T0) p w h l x y b (x + a) y (by omega)
 refine za Tryz.func76 rfl (by decide) Tryz.ntmps76 rfl ?_
 repeat' (first
 |(apply zd rfl rfl rfl rfl (c:=ct)
   case ha=>exact os_
   case hM=>exact zf
   rintro _ _ rfl
   simp only [List.cons_append,List.nil_append,List.append_eq])
 |(apply qa; (case hn=>rfl); (case hm=>kernel_rfl)) | refine zc3 ?_ | (apply jk; (case hL=>rfl); (case hne=>rfl)) | exact jm | apply xh | (apply zdf; (case ho=>rfl)) | (apply xf; exact vn) | (apply jh; (case h=>exact zcb); (case hk=>exact wk_); (case hc=>rfl)) | refine zza ?_ | (refine zb ?_ ?_ <;> intro hb <;> try exact no_) | (refine sx_ ?_ <;> intro bb) | (refine su_ ?_ <;> intro u hu1 hu2) | fail)
 all_goals exact ⟨_,_,rl_,(List.Sublist.cons_cons _ (List.nil_sublist _)),rfl⟩
theorem z8u (a : Int) (ha : 1 ≤ a ∧ a ≤ 80) : AF Tryz.prog T0 77 [ptA p,z0 [I 6,I a,I 0,R 0]] [scO p w h l x y b] (fun _ M'=>M' = [scO p w h l (inM (x - a) (w - 1)) (inM y (h - 1)) b]):=by
 obtain ⟨h1,⟨h2,h3,h4,h5⟩,h6⟩:=xe.1 hok
 have hg:=x9 h1
 have ct:=z1b (T0:=T0) p w h l x y b (x - a) y (by omega)
 refine za Tryz.func77 rfl (by decide) Tryz.ntmps77 rfl ?_
 repeat' (first
 |(apply zd rfl rfl rfl rfl (c:=ct)
   case ha=>exact os_
   case hM=>exact zf
   rintro _ _ rfl
   simp only [List.cons_append,List.nil_append,List.append_eq])
 |(apply qa; (case hn=>rfl); (case hm=>kernel_rfl)) | refine zc3 ?_ | (apply jk; (case hL=>rfl); (case hne=>rfl)) | exact jm | apply xh | (apply zdf; (case ho=>rfl)) | (apply xf; exact vn) | (apply jh; (case h=>exact zcb); (case hk=>exact wk_); (case hc=>rfl)) | refine zza ?_ | (refine zb ?_ ?_ <;> intro hb <;> try exact no_) | (refine sx_ ?_ <;> intro bb) | (refine su_ ?_ <;> intro u hu1 hu2) | fail)
 all_goals exact ⟨_,_,rl_,(List.Sublist.cons_cons _ (List.nil_sublist _)),rfl⟩
theorem z8v : AF Tryz.prog T0 80 [ptA p,z0 [I 9,I 0,I 0,R 0]] [scO p w h l x y b] (fun _ M'=>M' = [scO p w h l (inM 0 (w - 1)) (inM y (h - 1)) b]):=by
 obtain ⟨h1,⟨h2,h3,h4,h5⟩,h6⟩:=xe.1 hok
 have hg:=x9 h1
 have ct:=z1b (T0:=T0) p w h l x y b 0 y (by omega)
 refine za Tryz.func80 rfl (by decide) Tryz.ntmps80 rfl ?_
 repeat' (first
 |(apply zd rfl rfl rfl rfl (c:=ct)
   case ha=>exact os_
   case hM=>exact zf
   rintro _ _ rfl
   simp only [List.cons_append,List.nil_append,List.append_eq])
 |(apply qa; (case hn=>rfl); (case hm=>kernel_rfl)) | refine zc3 ?_ | (apply jk; (case hL=>rfl); (case hne=>rfl)) | exact jm | apply xh | (apply zdf; (case ho=>rfl)) | (apply xf; exact vn) | (apply jh; (case h=>exact zcb); (case hk=>exact wk_); (case hc=>rfl)) | refine zza ?_ | (refine zb ?_ ?_ <;> intro hb <;> try exact no_) | (refine sx_ ?_ <;> intro bb) | (refine su_ ?_ <;> intro u hu1 hu2) | fail)
 all_goals exact ⟨_,_,rl_,(List.Sublist.cons_cons _ (List.nil_sublist _)),rfl⟩
theorem z81 : AF Tryz.prog T0 82 [ptA p,z0 [I 11,I 0,I 0,R 0]] [scO p w h l x y b] (fun _ M'=>M' = [scO p w h l (inM (x - 1) (w - 1)) (inM y (h - 1)) b]):=by
 obtain ⟨h1,⟨h2,h3,h4,h5⟩,h6⟩:=xe.1 hok
 have hg:=x9 h1
 have ct:=z1b (T0:=T0) p w h l x y b (x - 1) y (by omega)
 refine za Tryz.func82 rfl (by decide) Tryz.ntmps82 rfl ?_
 repeat' (first
 |(apply zd rfl rfl rfl rfl (c:=ct)
   case ha=>exact os_
   case hM=>exact zf
   rintro _ _ rfl
   simp only [List.cons_append,List.nil_append,List.append_eq])
 |(apply qa; (case hn=>rfl); (case hm=>kernel_rfl)) | refine zc3 ?_ | (apply jk; (case hL=>rfl); (case hne=>rfl)) | exact jm | apply xh | (apply zdf; (case ho=>rfl)) | (apply xf; exact vn) | (apply jh; (case h=>exact zcb); (case hk=>exact wk_); (case hc=>rfl)) | refine zza ?_ | (refine zb ?_ ?_ <;> intro hb <;> try exact no_) | (refine sx_ ?_ <;> intro bb) | (refine su_ ?_ <;> intro u hu1 hu2) | fail)
 all_goals exact ⟨_,_,rl_,(List.Sublist.cons_cons _ (List.nil_sublist _)),rfl⟩
theorem zww : AF Tryz.prog T0 78 [ptA p,z0 [I 7,I 0,I 0,R 0]] [scO p w h l x y b] (fun _ M'=>M' = [scO p w h (ji w h l (y * w + x) ((y + 1) * w)).1.2.2 x y b]):=by
 obtain ⟨h1,⟨h2,h3,h4,h5⟩,h6⟩:=xe.1 hok
 have hg:=x9 h1
 have hat:=z15 ⟨h2,h3⟩ ⟨h4,h5⟩
 have hm:=yw (y:=y) (h:=h) ⟨hg.2.2.1,hg.2.2.2.1⟩ hg.2.2.2.2.2 ⟨h4,h5⟩
 have ct:=zg5 (T0:=T0) p w h l x y b ((y + 1) * w) h1 ⟨h2,h3⟩ ⟨h4,h5⟩ (by omega) (by omega)
 generalize ji w h l (y * w + x) ((y + 1) * w) = z at *
 refine za Tryz.func78 rfl (by decide) Tryz.ntmps78 rfl ?_
 repeat' (first
 |(apply zd rfl rfl rfl rfl (c:=ct)
   case ha=>exact os_
   case hM=>exact zf
   rintro _ _ rfl
   simp only [List.cons_append,List.nil_append,List.append_eq])
 |(apply qa; (case hn=>rfl); (case hm=>kernel_rfl)) | refine zc3 ?_ | (apply jk; (case hL=>rfl); (case hne=>rfl)) | exact jm | apply xh | (apply zdf; (case ho=>rfl)) | (apply xf; exact vn) | (apply jh; (case h=>exact zcb); (case hk=>exact wk_); (case hc=>rfl)) | refine zza ?_ | (refine zb ?_ ?_ <;> intro hb <;> try exact no_) | (refine sx_ ?_ <;> intro bb) | (refine su_ ?_ <;> intro u hu1 hu2) | fail)
 all_goals exact ⟨_,_,rl_,(List.Sublist.cons_cons _ (List.nil_sublist _)),rfl⟩
theorem zwy : AF Tryz.prog T0 79 [ptA p,z0 [I 8,I 0,I 0,R 0]] [scO p w h l x y b] (fun _ M'=>M' = [scO p w h (ji w h l (y * w + x) l.length).1.2.2 x y b]):=by
 obtain ⟨h1,⟨h2,h3,h4,h5⟩,h6⟩:=xe.1 hok
 have hg:=x9 h1
 have hat:=z15 ⟨h2,h3⟩ ⟨h4,h5⟩
 have ct:=zg5 (T0:=T0) p w h l x y b l.length h1 ⟨h2,h3⟩ ⟨h4,h5⟩ (by omega) (by omega)
 generalize ji w h l (y * w + x) l.length = z at *
 refine za Tryz.func79 rfl (by decide) Tryz.ntmps79 rfl ?_
 repeat' (first
 |(apply zd rfl rfl rfl rfl (c:=ct)
   case ha=>exact os_
   case hM=>exact zf
   rintro _ _ rfl
   simp only [List.cons_append,List.nil_append,List.append_eq])
 |(apply qa; (case hn=>rfl); (case hm=>kernel_rfl)) | refine zc3 ?_ | (apply jk; (case hL=>rfl); (case hne=>rfl)) | exact jm | apply xh | (apply zdf; (case ho=>rfl)) | (apply xf; exact vn) | (apply jh; (case h=>exact zcb); (case hk=>exact wk_); (case hc=>rfl)) | refine zza ?_ | (refine zb ?_ ?_ <;> intro hb <;> try exact no_) | (refine sx_ ?_ <;> intro bb) | (refine su_ ?_ <;> intro u hu1 hu2) | fail)
 all_goals exact ⟨_,_,rl_,(List.Sublist.cons_cons _ (List.nil_sublist _)),rfl⟩
end
end
section
open Go Go.RowKit
variable {T0 : Gh} [TabS T0]
set_option maxRecDepth 200000
section
variable {P : Program} {N : Fz} {Q : kw} {fr : Fr} {M M' : List Own} {ops : Array Oper} {o : Oper} {rest : List Oper} {x0 : Nat}
theorem jl {T0 : Gh} {x : Operand} {f : FuncId} {args : Array Operand} {ts : Array TypeId} {As : List AV} {m : Own} {K : AV → List Own → Prop} (hg : o.guard = none) (hd : o.dst = some x0) (hN : Nat.blt x0 N.n = true) (ho : o.op = .call { callee:=.value x,args:=args,argTypes:=ts }) (hx : Opd T0 fr x (vA (.func (.func f) #[] #[]))) (ha : OpdAll T0 fr args.toList As) (c : AF P T0 f As [m] K) (hM : Pick m M M')
  (h : ∀ A M1,K A M1 → AL P T0 N false ops Q rest ((x0,A) :: fr) (M1 ++ M')) : AL P T0 N false ops Q (o :: rest) fr M:=by
 refine zr2 (zda hM.perm) ?_
 refine zbg hg (z18 (Cs:=[]) (caps:=[]) ho hx (fun _=>trivial) ha (by rw [List.append_nil]; exact c) rfl) hd hN (fun _ _ h=>by obtain ⟨_,_,h⟩:=h; exact h.elim) ?_
 rintro A _ ⟨M1,rfl,k⟩
 exact h A M1 k
end
def fnV : Option Nat → Value
 |some f=>.func (.func f) #[] #[]
 |none=>.nilFunc
def fnT : Ty (Option Nat):={ enc:=fun x=>[fnV x],k:=1,len:=fun _=>rfl }
theorem z57 : El Tryz.prog fnT 109 none 8 (fun x=>vA (fnV x)):=⟨⟨.nilFunc,by kernel_rfl,rfl⟩,by decide,fun x v hv=>by simp [fnT] at hv; subst hv; cases x <;> rfl,.inr ⟨yt (by kernel_rfl),rfl,fun x v h=>by simp [fnT] at h; rw [← h]⟩⟩
instance qfg : ElC 109 fnT none 8 (fun x=>vA (fnV x)):=⟨z57⟩
theorem zuo : Tryz.prog.underlying 111 = some (.slice 109):=by kernel_rfl
instance qcf : UnC 111 (.slice 109):=⟨zuo⟩
def z9c : List (Option Nat):=[none,none,some 73,some 74,some 75,some 76,some 77,some 78,some 79,some 80,some 81,some 82]
theorem j9 {n : Int} : Sub (zt [z0 [I 0,I 0,vA (.slice none 0 0),I 0,I 0,B false],I n]) (zt [xp 0 0 [] 0 0 false,I n]):=ka (qb (vx (qb (Sub.refl _) (qb (Sub.refl _) (qb zck (qb (Sub.refl _) (qb (Sub.refl _) (qb (Sub.refl _) vj))))))) (qb (Sub.refl _) vj))
theorem zsj {w h : Int} {l : List zp} {x y : Int} {b : Bool} (h1 : okT w h l x y b = true) : okT w h l x y false = true:=by
 obtain ⟨a,c,_⟩:=xe.1 h1
 exact xe.2 ⟨a,c,fun h=>by cases h⟩
attribute [local irreducible] z_ zg AW AL AO QY qd zx rsA Opd xi vA gvA zt z0 slA jc ipA rpA EqK LnK IxK LdK FaK FdK
theorem z1c (w h : Int) (l : List zp) (x y : Int) (b : Bool) (c : Cmd) : AP Tryz.prog T0 20 [xp w h l x y b,vi c] (zt [tmA (doT (w,h,l,x,y,b) c).1,I (doT (w,h,l,x,y,b) c).2]):=by
 have c1:=zkg (T0:=T0) w h l x y b
 have c2:=wt (T0:=T0) c
 by_cases hh : okT w h l x y b = true ∧ z9 c = true
 ·obtain ⟨hok,hc⟩:=hh
  rw [zxx hok hc]
  rw [hok] at c1
  rw [hc] at c2
  have hok2:=zsj hok
  obtain ⟨h1,⟨h2,h3,h4,h5⟩,h6⟩:=xe.1 hok
  rcases wx hc with ⟨r,rfl,hs⟩ | ⟨a,d,rfl,_⟩ | ⟨k,a,rfl,hk,ha⟩ | ⟨k,rfl,hk⟩
  ·have ct:=fun p=>zs2 (T0:=T0) p w h l x y b 1 0 0 r hok hs
   have ck : True:=trivial
   have hg:=zpt hok hs
   show AP _ _ _ _ (zt [tmA (v9 w h l x y b r),I 0])
   have hw : (v9 w h l x y b r).1 = w ∧ (v9 w h l x y b r).2.1 = h:=by unfold v9; split <;> exact ⟨rfl,rfl⟩
   obtain ⟨⟨w',h',l',x',y',b'⟩,hz⟩ : ∃ z,z = v9 w h l x y b r:=⟨_,rfl⟩
   rw [← hz] at ct hw ⊢
   simp only at ct hw ⊢
   obtain ⟨rfl,rfl⟩:=hw
   refine za Tryz.func20 rfl (by decide) Tryz.ntmps20 rfl ?_
   repeat' (first
   |(apply zd rfl rfl rfl rfl (c:=ct _)
     case ha=>exact os_
     case hM=>exact zf
     rintro _ _ rfl
     simp only [List.cons_append,List.nil_append,List.append_eq])
    |(apply jl rfl rfl rfl rfl (c:=ck _)
      case hx=>exact oo_
      case ha=>exact os_
      case hM=>exact zf
      rintro _ _ rfl
      simp only [List.cons_append,List.nil_append,List.append_eq])
   |refine zqt ?_ | (refine zb ?_ ?_ <;> intro hb <;> try exact no_) | (refine sx_ ?_ <;> intro bb) | (refine su_ ?_ <;> intro u hu1 hu2) | fail)
   all_goals first | (exfalso; simp at hb; done) | exact ⟨_,[],rl_,List.nil_sublist _,Sub.refl _,rfl⟩ | exact ⟨_,[],rl_,List.nil_sublist _,j9,rfl⟩
  ·have ct : True:=trivial
   have ck:=fun p=>z8w (T0:=T0) p w h l x y false hok2 a d
   show AP _ _ _ _ (zt [xp w h l (inM d (w - 1)) (inM a (h - 1)) false,I 0])
   refine za Tryz.func20 rfl (by decide) Tryz.ntmps20 rfl ?_
   repeat' (first
   |(apply zd rfl rfl rfl rfl (c:=ct _)
     case ha=>exact os_
     case hM=>exact zf
     rintro _ _ rfl
     simp only [List.cons_append,List.nil_append,List.append_eq])
    |(apply jl rfl rfl rfl rfl (c:=ck _)
      case hx=>exact oo_
      case ha=>exact os_
      case hM=>exact zf
      rintro _ _ rfl
      simp only [List.cons_append,List.nil_append,List.append_eq])
   |refine zqt ?_ | (refine zb ?_ ?_ <;> intro hb <;> try exact no_) | (refine sx_ ?_ <;> intro bb) | (refine su_ ?_ <;> intro u hu1 hu2) | fail)
   all_goals first | (exfalso; simp at hb; done) | exact ⟨_,[],rl_,List.nil_sublist _,Sub.refl _,rfl⟩ | exact ⟨_,[],rl_,List.nil_sublist _,j9,rfl⟩
  ·have ct : True:=trivial
   rcases hk with rfl | rfl | rfl | rfl
   ·have ck:=fun p=>qd3 (T0:=T0) p w h l x y false hok2 a ha
    show AP _ _ _ _ (zt [xp w h l (inM (x) (w - 1)) (inM (y - a) (h - 1)) false,I 0])
    refine za Tryz.func20 rfl (by decide) Tryz.ntmps20 rfl ?_
    repeat' (first
    |(apply zd rfl rfl rfl rfl (c:=ct _)
      case ha=>exact os_
      case hM=>exact zf
      rintro _ _ rfl
      simp only [List.cons_append,List.nil_append,List.append_eq])
     |(apply jl rfl rfl rfl rfl (c:=ck _)
       case hx=>exact oo_
       case ha=>exact os_
       case hM=>exact zf
       rintro _ _ rfl
       simp only [List.cons_append,List.nil_append,List.append_eq])
    |refine zqt ?_ | (refine zb ?_ ?_ <;> intro hb <;> try exact no_) | (refine sx_ ?_ <;> intro bb) | (refine su_ ?_ <;> intro u hu1 hu2) | fail)
    all_goals first | (exfalso; simp at hb; done) | exact ⟨_,[],rl_,List.nil_sublist _,Sub.refl _,rfl⟩ | exact ⟨_,[],rl_,List.nil_sublist _,j9,rfl⟩
   ·have ck:=fun p=>z5w (T0:=T0) p w h l x y false hok2 a ha
    show AP _ _ _ _ (zt [xp w h l (inM (x) (w - 1)) (inM (y + a) (h - 1)) false,I 0])
    refine za Tryz.func20 rfl (by decide) Tryz.ntmps20 rfl ?_
    repeat' (first
    |(apply zd rfl rfl rfl rfl (c:=ct _)
      case ha=>exact os_
      case hM=>exact zf
      rintro _ _ rfl
      simp only [List.cons_append,List.nil_append,List.append_eq])
     |(apply jl rfl rfl rfl rfl (c:=ck _)
       case hx=>exact oo_
       case ha=>exact os_
       case hM=>exact zf
       rintro _ _ rfl
       simp only [List.cons_append,List.nil_append,List.append_eq])
    |refine zqt ?_ | (refine zb ?_ ?_ <;> intro hb <;> try exact no_) | (refine sx_ ?_ <;> intro bb) | (refine su_ ?_ <;> intro u hu1 hu2) | fail)
    all_goals first | (exfalso; simp at hb; done) | exact ⟨_,[],rl_,List.nil_sublist _,Sub.refl _,rfl⟩ | exact ⟨_,[],rl_,List.nil_sublist _,j9,rfl⟩
   ·have ck:=fun p=>z5t (T0:=T0) p w h l x y false hok2 a ha
    show AP _ _ _ _ (zt [xp w h l (inM (x + a) (w - 1)) (inM (y) (h - 1)) false,I 0])
    refine za Tryz.func20 rfl (by decide) Tryz.ntmps20 rfl ?_
    repeat' (first
    |(apply zd rfl rfl rfl rfl (c:=ct _)
      case ha=>exact os_
      case hM=>exact zf
      rintro _ _ rfl
      simp only [List.cons_append,List.nil_append,List.append_eq])
     |(apply jl rfl rfl rfl rfl (c:=ck _)
       case hx=>exact oo_
       case ha=>exact os_
       case hM=>exact zf
       rintro _ _ rfl
       simp only [List.cons_append,List.nil_append,List.append_eq])
    |refine zqt ?_ | (refine zb ?_ ?_ <;> intro hb <;> try exact no_) | (refine sx_ ?_ <;> intro bb) | (refine su_ ?_ <;> intro u hu1 hu2) | fail)
    all_goals first | (exfalso; simp at hb; done) | exact ⟨_,[],rl_,List.nil_sublist _,Sub.refl _,rfl⟩ | exact ⟨_,[],rl_,List.nil_sublist _,j9,rfl⟩
   ·have ck:=fun p=>z8u (T0:=T0) p w h l x y false hok2 a ha
    show AP _ _ _ _ (zt [xp w h l (inM (x - a) (w - 1)) (inM (y) (h - 1)) false,I 0])
    refine za Tryz.func20 rfl (by decide) Tryz.ntmps20 rfl ?_
    repeat' (first
    |(apply zd rfl rfl rfl rfl (c:=ct _)
      case ha=>exact os_
      case hM=>exact zf
      rintro _ _ rfl
      simp only [List.cons_append,List.nil_append,List.append_eq])
     |(apply jl rfl rfl rfl rfl (c:=ck _)
       case hx=>exact oo_
       case ha=>exact os_
       case hM=>exact zf
       rintro _ _ rfl
       simp only [List.cons_append,List.nil_append,List.append_eq])
    |refine zqt ?_ | (refine zb ?_ ?_ <;> intro hb <;> try exact no_) | (refine sx_ ?_ <;> intro bb) | (refine su_ ?_ <;> intro u hu1 hu2) | fail)
    all_goals first | (exfalso; simp at hb; done) | exact ⟨_,[],rl_,List.nil_sublist _,Sub.refl _,rfl⟩ | exact ⟨_,[],rl_,List.nil_sublist _,j9,rfl⟩
  ·rcases hk with rfl | rfl | rfl | rfl | rfl | rfl
   ·have ct : True:=trivial
    have ck:=fun p=>zww (T0:=T0) p w h l x y false hok2
    show AP _ _ _ _ (zt [xp w h (ji w h l (y * w + x) ((y + 1) * w)).1.2.2 x y false,I 0])
    refine za Tryz.func20 rfl (by decide) Tryz.ntmps20 rfl ?_
    repeat' (first
    |(apply zd rfl rfl rfl rfl (c:=ct _)
      case ha=>exact os_
      case hM=>exact zf
      rintro _ _ rfl
      simp only [List.cons_append,List.nil_append,List.append_eq])
     |(apply jl rfl rfl rfl rfl (c:=ck _)
       case hx=>exact oo_
       case ha=>exact os_
       case hM=>exact zf
       rintro _ _ rfl
       simp only [List.cons_append,List.nil_append,List.append_eq])
    |refine zqt ?_ | (refine zb ?_ ?_ <;> intro hb <;> try exact no_) | (refine sx_ ?_ <;> intro bb) | (refine su_ ?_ <;> intro u hu1 hu2) | fail)
    all_goals first | (exfalso; simp at hb; done) | exact ⟨_,[],rl_,List.nil_sublist _,Sub.refl _,rfl⟩ | exact ⟨_,[],rl_,List.nil_sublist _,j9,rfl⟩
   ·have ct : True:=trivial
    have ck:=fun p=>zwy (T0:=T0) p w h l x y false hok2
    show AP _ _ _ _ (zt [xp w h (ji w h l (y * w + x) l.length).1.2.2 x y false,I 0])
    refine za Tryz.func20 rfl (by decide) Tryz.ntmps20 rfl ?_
    repeat' (first
    |(apply zd rfl rfl rfl rfl (c:=ct _)
      case ha=>exact os_
      case hM=>exact zf
      rintro _ _ rfl
      simp only [List.cons_append,List.nil_append,List.append_eq])
     |(apply jl rfl rfl rfl rfl (c:=ck _)
       case hx=>exact oo_
       case ha=>exact os_
       case hM=>exact zf
       rintro _ _ rfl
       simp only [List.cons_append,List.nil_append,List.append_eq])
    |refine zqt ?_ | (refine zb ?_ ?_ <;> intro hb <;> try exact no_) | (refine sx_ ?_ <;> intro bb) | (refine su_ ?_ <;> intro u hu1 hu2) | fail)
    all_goals first | (exfalso; simp at hb; done) | exact ⟨_,[],rl_,List.nil_sublist _,Sub.refl _,rfl⟩ | exact ⟨_,[],rl_,List.nil_sublist _,j9,rfl⟩
   ·have ct : True:=trivial
    have ck:=fun p=>z8v (T0:=T0) p w h l x y false hok2
    show AP _ _ _ _ (zt [xp w h l (inM 0 (w - 1)) (inM y (h - 1)) false,I 0])
    refine za Tryz.func20 rfl (by decide) Tryz.ntmps20 rfl ?_
    repeat' (first
    |(apply zd rfl rfl rfl rfl (c:=ct _)
      case ha=>exact os_
      case hM=>exact zf
      rintro _ _ rfl
      simp only [List.cons_append,List.nil_append,List.append_eq])
     |(apply jl rfl rfl rfl rfl (c:=ck _)
       case hx=>exact oo_
       case ha=>exact os_
       case hM=>exact zf
       rintro _ _ rfl
       simp only [List.cons_append,List.nil_append,List.append_eq])
    |refine zqt ?_ | (refine zb ?_ ?_ <;> intro hb <;> try exact no_) | (refine sx_ ?_ <;> intro bb) | (refine su_ ?_ <;> intro u hu1 hu2) | fail)
    all_goals first | (exfalso; simp at hb; done) | exact ⟨_,[],rl_,List.nil_sublist _,Sub.refl _,rfl⟩ | exact ⟨_,[],rl_,List.nil_sublist _,j9,rfl⟩
   ·have ct : True:=trivial
    have ck:=fun p=>ziz (T0:=T0) p w h l x y false (10,0,0,0) h1 ⟨h4,h5⟩
    show AP _ _ _ _ (zt [xp w h (kg w h l y).1 x (kg w h l y).2 false,I 0])
    refine za Tryz.func20 rfl (by decide) Tryz.ntmps20 rfl ?_
    repeat' (first
    |(apply zd rfl rfl rfl rfl (c:=ct _)
      case ha=>exact os_
      case hM=>exact zf
      rintro _ _ rfl
      simp only [List.cons_append,List.nil_append,List.append_eq])
     |(apply jl rfl rfl rfl rfl (c:=ck _)
       case hx=>exact oo_
       case ha=>exact os_
       case hM=>exact zf
       rintro _ _ rfl
       simp only [List.cons_append,List.nil_append,List.append_eq])
    |refine zqt ?_ | (refine zb ?_ ?_ <;> intro hb <;> try exact no_) | (refine sx_ ?_ <;> intro bb) | (refine su_ ?_ <;> intro u hu1 hu2) | fail)
    all_goals first | (exfalso; simp at hb; done) | exact ⟨_,[],rl_,List.nil_sublist _,Sub.refl _,rfl⟩ | exact ⟨_,[],rl_,List.nil_sublist _,j9,rfl⟩
   ·have ct : True:=trivial
    have ck:=fun p=>z81 (T0:=T0) p w h l x y false hok2
    show AP _ _ _ _ (zt [xp w h l (inM (x - 1) (w - 1)) (inM y (h - 1)) false,I 0])
    refine za Tryz.func20 rfl (by decide) Tryz.ntmps20 rfl ?_
    repeat' (first
    |(apply zd rfl rfl rfl rfl (c:=ct _)
      case ha=>exact os_
      case hM=>exact zf
      rintro _ _ rfl
      simp only [List.cons_append,List.nil_append,List.append_eq])
     |(apply jl rfl rfl rfl rfl (c:=ck _)
       case hx=>exact oo_
       case ha=>exact os_
       case hM=>exact zf
       rintro _ _ rfl
       simp only [List.cons_append,List.nil_append,List.append_eq])
    |refine zqt ?_ | (refine zb ?_ ?_ <;> intro hb <;> try exact no_) | (refine sx_ ?_ <;> intro bb) | (refine su_ ?_ <;> intro u hu1 hu2) | fail)
    all_goals first | (exfalso; simp at hb; done) | exact ⟨_,[],rl_,List.nil_sublist _,Sub.refl _,rfl⟩ | exact ⟨_,[],rl_,List.nil_sublist _,j9,rfl⟩
   ·have ct : True:=trivial
    have ck : True:=trivial
    show AP _ _ _ _ (zt [xp w h l x y b,I 0])
    refine za Tryz.func20 rfl (by decide) Tryz.ntmps20 rfl ?_
    repeat' (first
    |(apply zd rfl rfl rfl rfl (c:=ct _)
      case ha=>exact os_
      case hM=>exact zf
      rintro _ _ rfl
      simp only [List.cons_append,List.nil_append,List.append_eq])
     |(apply jl rfl rfl rfl rfl (c:=ck _)
       case hx=>exact oo_
       case ha=>exact os_
       case hM=>exact zf
       rintro _ _ rfl
       simp only [List.cons_append,List.nil_append,List.append_eq])
    |refine zqt ?_ | (refine zb ?_ ?_ <;> intro hb <;> try exact no_) | (refine sx_ ?_ <;> intro bb) | (refine su_ ?_ <;> intro u hu1 hu2) | fail)
    all_goals first | (exfalso; simp at hb; done) | exact ⟨_,[],rl_,List.nil_sublist _,Sub.refl _,rfl⟩ | exact ⟨_,[],rl_,List.nil_sublist _,j9,rfl⟩
 ·rw [z3e hh]
  have ct : True:=trivial
  have ck : True:=trivial
  show AP _ _ _ _ (zt [xp 0 0 [] 0 0 false,I 1])
  cases e1 : okT w h l x y b with
  |false =>
   rw [e1] at c1
   refine za Tryz.func20 rfl (by decide) Tryz.ntmps20 rfl ?_
   repeat' (first
   |(apply zd rfl rfl rfl rfl (c:=ct _)
     case ha=>exact os_
     case hM=>exact zf
     rintro _ _ rfl
     simp only [List.cons_append,List.nil_append,List.append_eq])
    |(apply jl rfl rfl rfl rfl (c:=ck _)
      case hx=>exact oo_
      case ha=>exact os_
      case hM=>exact zf
      rintro _ _ rfl
      simp only [List.cons_append,List.nil_append,List.append_eq])
   |refine zqt ?_ | (refine zb ?_ ?_ <;> intro hb <;> try exact no_) | (refine sx_ ?_ <;> intro bb) | (refine su_ ?_ <;> intro u hu1 hu2) | fail)
   all_goals first | (exfalso; simp at hb; done) | exact ⟨_,[],rl_,List.nil_sublist _,Sub.refl _,rfl⟩ | exact ⟨_,[],rl_,List.nil_sublist _,j9,rfl⟩
  |true =>
   have e2 : z9 c = false:=by
    cases e : z9 c with
    |false=>rfl
    |true=>exact absurd ⟨e1,e⟩ hh
   rw [e1] at c1
   rw [e2] at c2
   refine za Tryz.func20 rfl (by decide) Tryz.ntmps20 rfl ?_
   repeat' (first
   |(apply zd rfl rfl rfl rfl (c:=ct _)
     case ha=>exact os_
     case hM=>exact zf
     rintro _ _ rfl
     simp only [List.cons_append,List.nil_append,List.append_eq])
    |(apply jl rfl rfl rfl rfl (c:=ck _)
      case hx=>exact oo_
      case ha=>exact os_
      case hM=>exact zf
      rintro _ _ rfl
      simp only [List.cons_append,List.nil_append,List.append_eq])
   |refine zqt ?_ | (refine zb ?_ ?_ <;> intro hb <;> try exact no_) | (refine sx_ ?_ <;> intro bb) | (refine su_ ?_ <;> intro u hu1 hu2) | fail)
   all_goals first | (exfalso; simp at hb; done) | exact ⟨_,[],rl_,List.nil_sublist _,Sub.refl _,rfl⟩ | exact ⟨_,[],rl_,List.nil_sublist _,j9,rfl⟩
end
section
open Go Go.RowKit
variable {T0 : Gh} [TabS T0]
set_option maxRecDepth 200000
theorem zny {w h : Int} {l : List zp} {x y : Int} {b : Bool} (h1 : okT w h l x y b = true) : okT w h l x y false = true:=by
 obtain ⟨a,c,_⟩:=xe.1 h1
 exact xe.2 ⟨a,c,fun h=>by cases h⟩
theorem je {n : Int} : Sub (zt [z0 [I 0,I 0,vA (.slice none 0 0),I 0,I 0,B false],I n]) (zt [xp 0 0 [] 0 0 false,I n]):=ka (qb (vx (qb (Sub.refl _) (qb (Sub.refl _) (qb zck (qb (Sub.refl _) (qb (Sub.refl _) (qb (Sub.refl _) vj))))))) (qb (Sub.refl _) vj))
attribute [local irreducible] z_ zg AW AL AO QY qd zx rsA Opd xi vA gvA zt z0 slA jc ipA rpA EqK LnK IxK LdK FaK FdK
theorem zq2 (n most : Int) (hm : 0 ≤ most) : AP Tryz.prog T0 197 [I n,I most] (I (inM n most)):=by
 refine za Tryz.func197 rfl (by decide) Tryz.ntmps197 rfl ?_
 repeat' (first
 |refine zqu ?_ | (refine zb ?_ ?_ <;> intro hb <;> try exact no_) | (refine sx_ ?_ <;> intro bb) | (refine su_ ?_ <;> intro u hu1 hu2) | fail)
 all_goals exact ⟨_,[],rl_,List.nil_sublist _,Sub.eq (by congr 2; unfold inM; omega),rfl⟩
theorem zg9 (w h : Int) (l : List zp) (x y : Int) (b : Bool) (hg : okG w h l = true) (hy : 0 ≤ y ∧ y < h) : AP Tryz.prog T0 196 [xp w h l x y b] (xp w h (kg w h l y).1 x (kg w h l y).2 b):=by
 have hl:=x9 hg
 have c1:=zki (T0:=T0) w h l (by omega)
 by_cases e : y = h - 1
 ·rw [kg,if_pos e]
  refine za Tryz.func196 rfl (by decide) Tryz.ntmps196 rfl ?_
  repeat' (first
  |refine zqu ?_ | (refine zb ?_ ?_ <;> intro hb <;> try exact no_) | (refine sx_ ?_ <;> intro bb) | (refine su_ ?_ <;> intro u hu1 hu2) | fail)
  all_goals first | (exfalso; omega) | exact ⟨_,[],rl_,List.nil_sublist _,Sub.refl _,rfl⟩
 ·rw [kg,if_neg e]
  refine za Tryz.func196 rfl (by decide) Tryz.ntmps196 rfl ?_
  repeat' (first
  |refine zqu ?_ | (refine zb ?_ ?_ <;> intro hb <;> try exact no_) | (refine sx_ ?_ <;> intro bb) | (refine su_ ?_ <;> intro u hu1 hu2) | fail)
  all_goals first | (exfalso; omega) | exact ⟨_,[],rl_,List.nil_sublist _,Sub.refl _,rfl⟩
theorem zor (w h : Int) (l : List zp) (x y : Int) (b : Bool) (r : Int) (hok : okT w h l x y b = true) (hs : xq r = true) : AP Tryz.prog T0 194 [xp w h l x y b,R r] (tmA (v9 w h l x y b r)):=by
 obtain ⟨h1,⟨h2,h3,h4,h5⟩,h6⟩:=xe.1 hok
 have hl:=j6 hs
 have hg:=x9 h1
 have c4 : True:=trivial
 by_cases hw : b = true ∨ w < x + (zh r).length
 ·obtain ⟨d1,d2,d3⟩:=zfv h1 ⟨h4,h5⟩
  have hg2:=x9 d1
  have c2:=zg9 (T0:=T0) w h l x y b h1 ⟨h4,h5⟩
  rw [v9,if_pos hw]
  obtain ⟨⟨l1,y1⟩,e1⟩ : ∃ z,z = kg w h l y:=⟨_,rfl⟩
  rw [← e1] at c2 d1 d2 d3 hg2 ⊢
  simp only at c2 d1 d2 d3 hg2 ⊢
  obtain ⟨e2,e3⟩:=y9 (l:=l1) (x:=0) (y:=y1) (r:=r) d1 ⟨by omega,by omega⟩ ⟨d2,d3⟩ hs (by omega)
  obtain ⟨l2,hl2⟩ : ∃ z,z = zak l1 (y1.toNat * w.toNat + (0 : Int).toNat) (zh r):=⟨_,rfl⟩
  rw [← hl2] at e2 e3
  have c1 : AP Tryz.prog T0 200 [qp w h l1,I 0,I y1,R r] (zt [qp w h l2,I 0]):=(zi2 w h l1 0 y1 r (by omega)).to (by rw [e2]; rfl)
  rw [zbi,e2]
  have c3:=yq (T0:=T0) r
  generalize (zh r).length = n at *
  clear e2 e3 hl2 e1
  by_cases hf : (n : Int) = w
  ·have e : (w,h,l2,inM (0 + (n : Int)) (w - 1),y1,decide ((0 : Int) + n = w)) = (w,h,l2,w - 1,y1,true):=by rw [hf]; simp [inM]; omega
   simp only at e ⊢
   rw [show inM (0 + (n : Int)) (w - 1) = w - 1 by unfold inM; omega,show decide ((0 : Int) + n = w) = true by simp [hf]]
   refine za Tryz.func194 rfl (by decide) Tryz.ntmps194 rfl ?_
   repeat' (first
   |refine zqu ?_ | (refine zb ?_ ?_ <;> intro hb <;> try exact no_) | (refine sx_ ?_ <;> intro bb) | (refine su_ ?_ <;> intro u hu1 hu2) | fail)
   all_goals first | (exfalso; omega) | exact absurd hw hb | (exfalso; rcases hw with e | e <;> simp [e] at hb <;> omega) | (exfalso; simp at hb; omega) | exact ⟨_,[],rl_,List.nil_sublist _,Sub.refl _,rfl⟩ | exact ⟨_,[],rl_,List.nil_sublist _,Sub.eq (by simp [hf]),rfl⟩
  ·simp only
   rw [show inM (0 + (n : Int)) (w - 1) = n by unfold inM; omega,show decide ((0 : Int) + n = w) = false by simp [hf]]
   refine za Tryz.func194 rfl (by decide) Tryz.ntmps194 rfl ?_
   repeat' (first
   |refine zqu ?_ | (refine zb ?_ ?_ <;> intro hb <;> try exact no_) | (refine sx_ ?_ <;> intro bb) | (refine su_ ?_ <;> intro u hu1 hu2) | fail)
   all_goals first | (exfalso; omega) | exact absurd hw hb | (exfalso; rcases hw with e | e <;> simp [e] at hb <;> omega) | (exfalso; simp at hb; omega) | exact ⟨_,[],rl_,List.nil_sublist _,Sub.refl _,rfl⟩ | exact ⟨_,[],rl_,List.nil_sublist _,Sub.eq (by simp [hf]),rfl⟩
 ·rw [v9,if_neg hw]
  have hk : x + (zh r).length ≤ w:=by omega
  obtain ⟨e2,e3⟩:=y9 (l:=l) (x:=x) (y:=y) (r:=r) h1 ⟨h2,h3⟩ ⟨h4,h5⟩ hs hk
  obtain ⟨l2,hl2⟩ : ∃ z,z = zak l (y.toNat * w.toNat + x.toNat) (zh r):=⟨_,rfl⟩
  rw [← hl2] at e2 e3
  have c1 : AP Tryz.prog T0 200 [qp w h l,I x,I y,R r] (zt [qp w h l2,I 0]):=(zi2 w h l x y r (by omega)).to (by rw [e2]; rfl)
  have c2 : True:=trivial
  rw [zbi,e2]
  have c3:=yq (T0:=T0) r
  generalize (zh r).length = n at *
  clear e2 e3 hl2
  by_cases hf : x + (n : Int) = w
  ·simp only
   rw [show inM (x + (n : Int)) (w - 1) = w - 1 by unfold inM; omega,show decide (x + (n : Int) = w) = true by simp [hf]]
   refine za Tryz.func194 rfl (by decide) Tryz.ntmps194 rfl ?_
   repeat' (first
   |refine zqu ?_ | (refine zb ?_ ?_ <;> intro hb <;> try exact no_) | (refine sx_ ?_ <;> intro bb) | (refine su_ ?_ <;> intro u hu1 hu2) | fail)
   all_goals first | (exfalso; omega) | exact absurd hb hw | (exfalso; simp at hb; omega) | exact ⟨_,[],rl_,List.nil_sublist _,Sub.refl _,rfl⟩ | exact ⟨_,[],rl_,List.nil_sublist _,Sub.eq (by simp [hf]),rfl⟩
  ·simp only
   rw [show inM (x + (n : Int)) (w - 1) = x + n by unfold inM; omega,show decide (x + (n : Int) = w) = false by simp [hf]]
   refine za Tryz.func194 rfl (by decide) Tryz.ntmps194 rfl ?_
   repeat' (first
   |refine zqu ?_ | (refine zb ?_ ?_ <;> intro hb <;> try exact no_) | (refine sx_ ?_ <;> intro bb) | (refine su_ ?_ <;> intro u hu1 hu2) | fail)
   all_goals first | (exfalso; omega) | exact absurd hb hw | (exfalso; simp at hb; omega) | exact ⟨_,[],rl_,List.nil_sublist _,Sub.refl _,rfl⟩ | exact ⟨_,[],rl_,List.nil_sublist _,Sub.eq (by simp [hf]),rfl⟩
end
section
open Go Go.RowKit
variable {T0 : Gh} [TabS T0]
set_option maxRecDepth 200000
attribute [local irreducible] z_ zg AW AL AO QY qd zx rsA Opd xi vA gvA zt z0 slA jc ipA rpA EqK LnK IxK LdK FaK FdK
theorem zw1 (w h : Int) (l : List zp) (x y : Int) (b : Bool) (c : Cmd) : AP Tryz.prog T0 182 [xp w h l x y b,vi c] (zt [tmA (doT (w,h,l,x,y,b) c).1,I (doT (w,h,l,x,y,b) c).2]):=by
 have c1:=zmc (T0:=T0) w h l x y b
 have c2:=js (T0:=T0) c
 by_cases hh : okT w h l x y b = true ∧ z9 c = true
 ·obtain ⟨hok,hc⟩:=hh
  rw [zxx hok hc]
  rw [hok] at c1
  rw [hc] at c2
  have hok2:=zny hok
  obtain ⟨h1,⟨h2,h3,h4,h5⟩,h6⟩:=xe.1 hok
  have hg:=x9 h1
  have hat:=z15 ⟨h2,h3⟩ ⟨h4,h5⟩
  have hm:=yw (y:=y) (h:=h) ⟨hg.2.2.1,hg.2.2.2.1⟩ hg.2.2.2.2.2 ⟨h4,h5⟩
  have hwh : 0 ≤ w * h ∧ w * h ≤ 1920:=by omega
  rcases wx hc with ⟨r,rfl,hs⟩ | ⟨a,d,rfl,ha⟩ | ⟨k,a,rfl,hk,ha⟩ | ⟨k,rfl,hk⟩
  ·have c3:=zor (T0:=T0) w h l x y b r hok hs
   show AP _ _ _ _ (zt [tmA (v9 w h l x y b r),I 0])
   generalize v9 w h l x y b r = z at c3 ⊢
   refine za Tryz.func182 rfl (by decide) Tryz.ntmps182 rfl ?_
   repeat' (first
   |refine zqv ?_ | (refine zb ?_ ?_ <;> intro hb <;> try exact no_) | (refine sx_ ?_ <;> intro bb) | (refine su_ ?_ <;> intro u hu1 hu2) | fail)
   all_goals first | (exfalso; simp at hb; done) | exact ⟨_,[],rl_,List.nil_sublist _,Sub.refl _,rfl⟩ | exact ⟨_,[],rl_,List.nil_sublist _,je,rfl⟩ | exact ⟨_,[],rl_,List.nil_sublist _,Sub.eq (by simp only [xg h2 (show x ≤ w - 1 by omega),xg h4 (show y ≤ h - 1 by omega)]),rfl⟩
  ·have c3 : True:=trivial
   show AP _ _ _ _ (zt [xp w h l (inM d (w - 1)) (inM a (h - 1)) false,I 0])
   refine za Tryz.func182 rfl (by decide) Tryz.ntmps182 rfl ?_
   repeat' (first
   |refine zqv ?_ | (refine zb ?_ ?_ <;> intro hb <;> try exact no_) | (refine sx_ ?_ <;> intro bb) | (refine su_ ?_ <;> intro u hu1 hu2) | fail)
   all_goals first | (exfalso; simp at hb; done) | exact ⟨_,[],rl_,List.nil_sublist _,Sub.refl _,rfl⟩ | exact ⟨_,[],rl_,List.nil_sublist _,je,rfl⟩ | exact ⟨_,[],rl_,List.nil_sublist _,Sub.eq (by simp only [xg h2 (show x ≤ w - 1 by omega),xg h4 (show y ≤ h - 1 by omega)]),rfl⟩
  ·have c3 : True:=trivial
   replace c2 : AP Tryz.prog T0 130 [z0 [I k,I a,I 0,R 0]] (B true):=c2
   show AP _ _ _ [_,z0 [I k,I a,I 0,R 0]] _
   rcases hk with rfl | rfl | rfl | rfl
   ·show AP _ _ _ _ (zt [xp w h l (inM (x) (w - 1)) (inM (y - a) (h - 1)) false,I 0])
    refine za Tryz.func182 rfl (by decide) Tryz.ntmps182 rfl ?_
    repeat' (first
    |refine zqv ?_ | (refine zb ?_ ?_ <;> intro hb <;> try exact no_) | (refine sx_ ?_ <;> intro bb) | (refine su_ ?_ <;> intro u hu1 hu2) | fail)
    all_goals first | (exfalso; simp at hb; done) | exact ⟨_,[],rl_,List.nil_sublist _,Sub.refl _,rfl⟩ | exact ⟨_,[],rl_,List.nil_sublist _,je,rfl⟩ | exact ⟨_,[],rl_,List.nil_sublist _,Sub.eq (by simp only [xg h2 (show x ≤ w - 1 by omega),xg h4 (show y ≤ h - 1 by omega)]),rfl⟩
   ·show AP _ _ _ _ (zt [xp w h l (inM (x) (w - 1)) (inM (y + a) (h - 1)) false,I 0])
    refine za Tryz.func182 rfl (by decide) Tryz.ntmps182 rfl ?_
    repeat' (first
    |refine zqv ?_ | (refine zb ?_ ?_ <;> intro hb <;> try exact no_) | (refine sx_ ?_ <;> intro bb) | (refine su_ ?_ <;> intro u hu1 hu2) | fail)
    all_goals first | (exfalso; simp at hb; done) | exact ⟨_,[],rl_,List.nil_sublist _,Sub.refl _,rfl⟩ | exact ⟨_,[],rl_,List.nil_sublist _,je,rfl⟩ | exact ⟨_,[],rl_,List.nil_sublist _,Sub.eq (by simp only [xg h2 (show x ≤ w - 1 by omega),xg h4 (show y ≤ h - 1 by omega)]),rfl⟩
   ·show AP _ _ _ _ (zt [xp w h l (inM (x + a) (w - 1)) (inM (y) (h - 1)) false,I 0])
    refine za Tryz.func182 rfl (by decide) Tryz.ntmps182 rfl ?_
    repeat' (first
    |refine zqv ?_ | (refine zb ?_ ?_ <;> intro hb <;> try exact no_) | (refine sx_ ?_ <;> intro bb) | (refine su_ ?_ <;> intro u hu1 hu2) | fail)
    all_goals first | (exfalso; simp at hb; done) | exact ⟨_,[],rl_,List.nil_sublist _,Sub.refl _,rfl⟩ | exact ⟨_,[],rl_,List.nil_sublist _,je,rfl⟩ | exact ⟨_,[],rl_,List.nil_sublist _,Sub.eq (by simp only [xg h2 (show x ≤ w - 1 by omega),xg h4 (show y ≤ h - 1 by omega)]),rfl⟩
   ·show AP _ _ _ _ (zt [xp w h l (inM (x - a) (w - 1)) (inM (y) (h - 1)) false,I 0])
    refine za Tryz.func182 rfl (by decide) Tryz.ntmps182 rfl ?_
    repeat' (first
    |refine zqv ?_ | (refine zb ?_ ?_ <;> intro hb <;> try exact no_) | (refine sx_ ?_ <;> intro bb) | (refine su_ ?_ <;> intro u hu1 hu2) | fail)
    all_goals first | (exfalso; simp at hb; done) | exact ⟨_,[],rl_,List.nil_sublist _,Sub.refl _,rfl⟩ | exact ⟨_,[],rl_,List.nil_sublist _,je,rfl⟩ | exact ⟨_,[],rl_,List.nil_sublist _,Sub.eq (by simp only [xg h2 (show x ≤ w - 1 by omega),xg h4 (show y ≤ h - 1 by omega)]),rfl⟩
  ·rcases hk with rfl | rfl | rfl | rfl | rfl | rfl
   ·obtain ⟨e1,e2⟩:=zat (a:=y * w + x) (b:=(y + 1) * w) h1 hat.1 (by omega) (by omega)
    obtain ⟨l2,hl2⟩ : ∃ z,z = zak l (y * w + x).toNat (List.replicate ((y + 1) * w - (y * w + x)).toNat (32,0)):=⟨_,rfl⟩
    rw [← hl2] at e1
    have c3 : AP Tryz.prog T0 195 [qp w h l,I (y * w + x),I ((y + 1) * w)] (zt [qp w h l2,I 0]):=(zeu w h l (y * w + x) ((y + 1) * w) (by omega)).to (by rw [e1]; rfl)
    show AP _ _ _ _ (zt [xp w h (ji w h l (y * w + x) ((y + 1) * w)).1.2.2 x y false,I 0])
    rw [e1]
    clear e1 e2 hl2
    refine za Tryz.func182 rfl (by decide) Tryz.ntmps182 rfl ?_
    repeat' (first
    |refine zqv ?_ | (refine zb ?_ ?_ <;> intro hb <;> try exact no_) | (refine sx_ ?_ <;> intro bb) | (refine su_ ?_ <;> intro u hu1 hu2) | fail)
    all_goals first | (exfalso; simp at hb; done) | exact ⟨_,[],rl_,List.nil_sublist _,Sub.refl _,rfl⟩ | exact ⟨_,[],rl_,List.nil_sublist _,je,rfl⟩ | exact ⟨_,[],rl_,List.nil_sublist _,Sub.eq (by simp only [xg h2 (show x ≤ w - 1 by omega),xg h4 (show y ≤ h - 1 by omega)]),rfl⟩
   ·obtain ⟨e1,e2⟩:=zat (a:=y * w + x) (b:=l.length) h1 hat.1 (by omega) (by omega)
    obtain ⟨l2,hl2⟩ : ∃ z,z = zak l (y * w + x).toNat (List.replicate (l.length - (y * w + x)).toNat (32,0)):=⟨_,rfl⟩
    rw [← hl2] at e1
    have c3 : AP Tryz.prog T0 195 [qp w h l,I (y * w + x),I (w * h)] (zt [qp w h l2,I 0]):=(zeu w h l (y * w + x) (w * h) (by omega)).to (by rw [← hg.1,e1]; rfl)
    show AP _ _ _ _ (zt [xp w h (ji w h l (y * w + x) l.length).1.2.2 x y false,I 0])
    rw [e1]
    clear e1 e2 hl2
    refine za Tryz.func182 rfl (by decide) Tryz.ntmps182 rfl ?_
    repeat' (first
    |refine zqv ?_ | (refine zb ?_ ?_ <;> intro hb <;> try exact no_) | (refine sx_ ?_ <;> intro bb) | (refine su_ ?_ <;> intro u hu1 hu2) | fail)
    all_goals first | (exfalso; simp at hb; done) | exact ⟨_,[],rl_,List.nil_sublist _,Sub.refl _,rfl⟩ | exact ⟨_,[],rl_,List.nil_sublist _,je,rfl⟩ | exact ⟨_,[],rl_,List.nil_sublist _,Sub.eq (by simp only [xg h2 (show x ≤ w - 1 by omega),xg h4 (show y ≤ h - 1 by omega)]),rfl⟩
   ·have c3 : True:=trivial
    show AP _ _ _ _ (zt [xp w h l (inM 0 (w - 1)) (inM y (h - 1)) false,I 0])
    refine za Tryz.func182 rfl (by decide) Tryz.ntmps182 rfl ?_
    repeat' (first
    |refine zqv ?_ | (refine zb ?_ ?_ <;> intro hb <;> try exact no_) | (refine sx_ ?_ <;> intro bb) | (refine su_ ?_ <;> intro u hu1 hu2) | fail)
    all_goals first | (exfalso; simp at hb; done) | exact ⟨_,[],rl_,List.nil_sublist _,Sub.refl _,rfl⟩ | exact ⟨_,[],rl_,List.nil_sublist _,je,rfl⟩ | exact ⟨_,[],rl_,List.nil_sublist _,Sub.eq (by simp only [xg h2 (show x ≤ w - 1 by omega),xg h4 (show y ≤ h - 1 by omega)]),rfl⟩
   ·have c3:=zg9 (T0:=T0) w h l x y false h1 ⟨h4,h5⟩
    show AP _ _ _ _ (zt [xp w h (kg w h l y).1 x (kg w h l y).2 false,I 0])
    refine za Tryz.func182 rfl (by decide) Tryz.ntmps182 rfl ?_
    repeat' (first
    |refine zqv ?_ | (refine zb ?_ ?_ <;> intro hb <;> try exact no_) | (refine sx_ ?_ <;> intro bb) | (refine su_ ?_ <;> intro u hu1 hu2) | fail)
    all_goals first | (exfalso; simp at hb; done) | exact ⟨_,[],rl_,List.nil_sublist _,Sub.refl _,rfl⟩ | exact ⟨_,[],rl_,List.nil_sublist _,je,rfl⟩ | exact ⟨_,[],rl_,List.nil_sublist _,Sub.eq (by simp only [xg h2 (show x ≤ w - 1 by omega),xg h4 (show y ≤ h - 1 by omega)]),rfl⟩
   ·have c3 : True:=trivial
    show AP _ _ _ _ (zt [xp w h l (inM (x - 1) (w - 1)) (inM y (h - 1)) false,I 0])
    refine za Tryz.func182 rfl (by decide) Tryz.ntmps182 rfl ?_
    repeat' (first
    |refine zqv ?_ | (refine zb ?_ ?_ <;> intro hb <;> try exact no_) | (refine sx_ ?_ <;> intro bb) | (refine su_ ?_ <;> intro u hu1 hu2) | fail)
    all_goals first | (exfalso; simp at hb; done) | exact ⟨_,[],rl_,List.nil_sublist _,Sub.refl _,rfl⟩ | exact ⟨_,[],rl_,List.nil_sublist _,je,rfl⟩ | exact ⟨_,[],rl_,List.nil_sublist _,Sub.eq (by simp only [xg h2 (show x ≤ w - 1 by omega),xg h4 (show y ≤ h - 1 by omega)]),rfl⟩
   ·have c3 : True:=trivial
    show AP _ _ _ _ (zt [xp w h l x y b,I 0])
    refine za Tryz.func182 rfl (by decide) Tryz.ntmps182 rfl ?_
    repeat' (first
    |refine zqv ?_ | (refine zb ?_ ?_ <;> intro hb <;> try exact no_) | (refine sx_ ?_ <;> intro bb) | (refine su_ ?_ <;> intro u hu1 hu2) | fail)
    all_goals first | (exfalso; simp at hb; done) | exact ⟨_,[],rl_,List.nil_sublist _,Sub.refl _,rfl⟩ | exact ⟨_,[],rl_,List.nil_sublist _,je,rfl⟩ | exact ⟨_,[],rl_,List.nil_sublist _,Sub.eq (by simp only [xg h2 (show x ≤ w - 1 by omega),xg h4 (show y ≤ h - 1 by omega)]),rfl⟩
 ·rw [z3e hh]
  have c3 : True:=trivial
  show AP _ _ _ _ (zt [xp 0 0 [] 0 0 false,I 1])
  cases e1 : okT w h l x y b with
  |false =>
   rw [e1] at c1
   refine za Tryz.func182 rfl (by decide) Tryz.ntmps182 rfl ?_
   repeat' (first
   |refine zqv ?_ | (refine zb ?_ ?_ <;> intro hb <;> try exact no_) | (refine sx_ ?_ <;> intro bb) | (refine su_ ?_ <;> intro u hu1 hu2) | fail)
   all_goals first | (exfalso; simp at hb; done) | exact ⟨_,[],rl_,List.nil_sublist _,je,rfl⟩
  |true =>
   have e2 : z9 c = false:=by
    cases e : z9 c with
    |false=>rfl
    |true=>exact absurd ⟨e1,e⟩ hh
   rw [e1] at c1
   rw [e2] at c2
   refine za Tryz.func182 rfl (by decide) Tryz.ntmps182 rfl ?_
   repeat' (first
   |refine zqv ?_ | (refine zb ?_ ?_ <;> intro hb <;> try exact no_) | (refine sx_ ?_ <;> intro bb) | (refine su_ ?_ <;> intro u hu1 hu2) | fail)
   all_goals first | (exfalso; simp at hb; done) | exact ⟨_,[],rl_,List.nil_sublist _,je,rfl⟩
end
end Go.Proofs.YtgfmjmfphmjdkaaGreatDoor
