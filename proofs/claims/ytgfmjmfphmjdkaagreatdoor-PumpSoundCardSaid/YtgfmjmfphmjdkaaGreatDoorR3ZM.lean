/- Several texts in one: see the comment ahead of each. No condition. -/
import Derived.Test.YtgfmjmfphmjdkaaGreatDoorR3ZG
import Derived.Test.YtgfmjmfphmjdkaaGreatDoorR3ZS
import Derived.Test.YtgfmjmfphmjdkaaGreatDoorR3ZB
set_option linter.unusedSimpArgs false
set_option linter.unusedVariables false
set_option linter.unusedSectionVars false
namespace Go.Proofs.YtgfmjmfphmjdkaaGreatDoor
set_option maxHeartbeats 4000000
section
open Go Go.RowKit
set_option maxRecDepth 100000
theorem yr : Tryz.prog.underlying 29 = some (.struct #[{ name := "G",type:=27,offset:=0,embedded:=false,tag := "",pkgPath := "",byteOffset:=0 },{ name := "X",type:=3,offset:=3,embedded:=false,tag := "",pkgPath := "",byteOffset:=40 },{ name := "Y",type:=3,offset:=4,embedded:=false,tag := "",pkgPath := "",byteOffset:=48 },{ name := "Wrap",type:=4,offset:=5,embedded:=false,tag := "",pkgPath := "",byteOffset:=56 }]):=Tryz.underlying29
abbrev vg (w h : Int) (l : List zp) (x y : Int) (b : Bool) : AV:=qb [I w,I h,slA qs l,I x,I y,B b]
instance qdq : StC 29 [I 0,I 0,vA (.slice none 0 0),I 0,I 0,B false] [(0,3),(3,1),(4,1),(5,1)]:=⟨StT.mk' _ [.int .i64 0,.int .i64 0,.slice none 0 0,.int .i64 0,.int .i64 0,.bool false] yr (by kernel_rfl) (by kernel_rfl)⟩
instance qb0 : FldC 29 0 0 27:=⟨_,_,yr,rfl,rfl,rfl⟩
instance qbz : FldC 29 1 3 3:=⟨_,_,yr,rfl,rfl,rfl⟩
instance qby : FldC 29 2 4 3:=⟨_,_,yr,rfl,rfl,rfl⟩
instance qbx : FldC 29 3 5 4:=⟨_,_,yr,rfl,rfl,rfl⟩
instance qev : AggC 29 true:=⟨kf (by kernel_rfl)⟩
instance qdf : SzC 29 6:=⟨xg (by kernel_rfl)⟩
instance qdy : SpC 29:=⟨jn (n:=5) (by kernel_rfl)⟩
instance qem : AlC 29 (.agg #[.int .i64 0,.int .i64 0,.slice none 0 0,.int .i64 0,.int .i64 0,.bool false]) [.int .i64 0,.int .i64 0,.slice none 0 0,.int .i64 0,.int .i64 0,.bool false] [I 0,I 0,vA (.slice none 0 0),I 0,I 0,B false]:=⟨by kernel_rfl,rfl,rfl⟩
instance qap : SzC 4 1:=⟨xg (by kernel_rfl)⟩
theorem z1h : Tryz.prog.underlying 107 = some (.struct #[{ name := "t",type:=29,offset:=0,embedded:=false,tag := "",pkgPath := "typebar/term",byteOffset:=0 }]):=Tryz.underlying107
instance qds : StC 107 [I 0,I 0,vA (.slice none 0 0),I 0,I 0,B false] [(0,6)]:=⟨StT.mk' _ [.int .i64 0,.int .i64 0,.slice none 0 0,.int .i64 0,.int .i64 0,.bool false] z1h (by kernel_rfl) (by kernel_rfl)⟩
instance qb6 : FldC 107 0 0 29:=⟨_,_,z1h,rfl,rfl,rfl⟩
instance qdh : SzC 107 6:=⟨xg (by kernel_rfl)⟩
instance qeo : AlC 107 (.agg #[.int .i64 0,.int .i64 0,.slice none 0 0,.int .i64 0,.int .i64 0,.bool false]) [.int .i64 0,.int .i64 0,.slice none 0 0,.int .i64 0,.int .i64 0,.bool false] [I 0,I 0,vA (.slice none 0 0),I 0,I 0,B false]:=⟨by kernel_rfl,rfl,rfl⟩
abbrev scO (p : Nat) (w h : Int) (l : List zp) (x y : Int) (b : Bool) : Own:=qh p 107 [I w,I h,slA qs l,I x,I y,B b]
abbrev Tm:=Int × Int × List zp × Int × Int × Bool
abbrev tmA (t : Tm) : AV:=vg t.1 t.2.1 t.2.2.1 t.2.2.2.1 t.2.2.2.2.1 t.2.2.2.2.2
noncomputable def okT (w h : Int) (l : List zp) (x y : Int) (b : Bool) : Bool:=okG w h l && decide (0 ≤ x ∧ x < w ∧ 0 ≤ y ∧ y < h) && (!b || decide (x = w - 1))
theorem qp {w h : Int} {l : List zp} {x y : Int} {b : Bool} : okT w h l x y b = true ↔ okG w h l = true ∧ (0 ≤ x ∧ x < w ∧ 0 ≤ y ∧ y < h) ∧ (b = true → x = w - 1):=by
 simp only [okT,Bool.and_eq_true,decide_eq_true_eq,Bool.or_eq_true,Bool.not_eq_true']
 cases b <;> simp [and_assoc]
def inM (n most : Int) : Int:=max 0 (min n most)
theorem zgt {n most : Int} (h : 0 ≤ most) : 0 ≤ inM n most ∧ inM n most ≤ most:=by unfold inM; omega
theorem zav {n most : Int} (h1 : 0 ≤ n) (h2 : n ≤ most) : inM n most = n:=by unfold inM; omega
noncomputable def kj (w h : Int) (l : List zp) (y : Int) : List zp × Int:=if y = h - 1 then (wc w h l,y) else (l,y + 1)
noncomputable def zbs (w h : Int) (l : List zp) (x y r : Int) : Tm:=(w,h,(zm_ w h l x y r).1.2.2,inM (x + (zh r).length) (w - 1),y,decide (x + (zh r).length = w))
noncomputable def v_ (w h : Int) (l : List zp) (x y : Int) (b : Bool) (r : Int) : Tm :=
 if b = true ∨ w < x + (zh r).length then zbs w h (kj w h l y).1 0 (kj w h l y).2 r else zbs w h l x y r
def goK (w h : Int) (l : List zp) (x y : Int) : Tm:=(w,h,l,inM x (w - 1),inM y (h - 1),false)
noncomputable def doK (w h : Int) (l : List zp) (x y : Int) (b : Bool) (c : Cmd) : Tm :=
 if c.1 = 1 then v_ w h l x y b c.2.2.2
 else if c.1 = 12 then (w,h,l,x,y,b)
 else if c.1 = 2 then goK w h l c.2.2.1 c.2.1
 else if c.1 = 3 then goK w h l x (y - c.2.1)
 else if c.1 = 4 then goK w h l x (y + c.2.1)
 else if c.1 = 5 then goK w h l (x + c.2.1) y
 else if c.1 = 6 then goK w h l (x - c.2.1) y
 else if c.1 = 7 then (w,h,(jq w h l (y * w + x) ((y + 1) * w)).1.2.2,x,y,false)
 else if c.1 = 8 then (w,h,(jq w h l (y * w + x) l.length).1.2.2,x,y,false)
 else if c.1 = 9 then goK w h l 0 y
 else if c.1 = 10 then (w,h,(kj w h l y).1,x,(kj w h l y).2,false)
 else goK w h l (x - 1) y
def noT : Tm:=(0,0,[],0,0,false)
noncomputable def doT (t : Tm) (c : Cmd) : Tm × Int:=if okT t.1 t.2.1 t.2.2.1 t.2.2.2.1 t.2.2.2.2.1 t.2.2.2.2.2 = true ∧ z9 c = true then (doK t.1 t.2.1 t.2.2.1 t.2.2.2.1 t.2.2.2.2.1 t.2.2.2.2.2 c,0) else (noT,1)
noncomputable abbrev yt (t : Tm) : Bool:=okT t.1 t.2.1 t.2.2.1 t.2.2.2.1 t.2.2.2.2.1 t.2.2.2.2.2
theorem zc5 {t : Tm} {c : Cmd} (h1 : yt t = true) (h2 : z9 c = true) : doT t c = (doK t.1 t.2.1 t.2.2.1 t.2.2.2.1 t.2.2.2.2.1 t.2.2.2.2.2 c,0):=if_pos ⟨h1,h2⟩
theorem z8f {t : Tm} {c : Cmd} (h : ¬ (yt t = true ∧ z9 c = true)) : doT t c = (noT,1):=if_neg h
theorem xk {w h : Int} {l : List zp} (hok : okG w h l = true) : (l.length : Int) = w * h ∧ l.length ≤ 1920 ∧ 2 ≤ w ∧ w ≤ 80 ∧ 1 ≤ h ∧ h ≤ 24:=by
 obtain ⟨w',h',rfl,rfl,h1,h2,h3,h4,h5,_⟩:=x9 hok
 have : w' * h' ≤ 80 * 24:=Nat.mul_le_mul h2 h4
 exact ⟨by rw [h5]; simp,by omega,by omega,by omega,by omega,by omega⟩
theorem zkc {w h : Int} {l : List zp} {y : Int} (hok : okG w h l = true) (hy : 0 ≤ y ∧ y < h) : okG w h (kj w h l y).1 = true ∧ 0 ≤ (kj w h l y).2 ∧ (kj w h l y).2 < h:=by
 unfold kj
 split
 ·exact ⟨(ur w h l hok).2,hy.1,hy.2⟩
 ·exact ⟨hok,by simp only; omega,by simp only; omega⟩
theorem j5 {r : Int} (hs : ja r = true) : 1 ≤ (zh r).length ∧ (zh r).length ≤ 2:=by
 rw [ym hs]; split <;> simp
theorem y8 {w h : Int} {l : List zp} {x y r : Int} (hok : okG w h l = true) (hx : 0 ≤ x ∧ x < w) (hy : 0 ≤ y ∧ y < h) (hs : ja r = true) (hk : x + (zh r).length ≤ w) : zm_ w h l x y r = ((w,h,zbq l (y.toNat * w.toNat + x.toNat) (zh r)),0) ∧ okG w h (zbq l (y.toNat * w.toNat + x.toNat) (zh r)) = true:=by
 have e : zm_ w h l x y r = ((w,h,zbq l (y.toNat * w.toNat + x.toNat) (zh r)),0):=if_pos ⟨⟨hok,hx.1,hx.2,hy.1,hy.2⟩,hs,hk⟩
 have:=z3h w h l x y r (by rw [e])
 rw [e] at this
 exact ⟨e,this⟩
theorem zk7 {w h : Int} {l : List zp} {x y r : Int} (hok : okG w h l = true) (hx : 0 ≤ x ∧ x < w) (hy : 0 ≤ y ∧ y < h) (hs : ja r = true) (hk : x + (zh r).length ≤ w) : yt (zbs w h l x y r) = true:=by
 obtain ⟨e1,e2⟩:=y8 hok hx hy hs hk
 have hl:=j5 hs
 have hg:=xk hok
 have hi:=zgt (n:=x + (zh r).length) (most:=w - 1) (by omega)
 have : okT w h (zbq l (y.toNat * w.toNat + x.toNat) (zh r)) (inM (x + (zh r).length) (w - 1)) y (decide (x + (zh r).length = w)) = true :=
  qp.2 ⟨e2,⟨hi.1,by omega,hy.1,hy.2⟩,fun h=>by have:=of_decide_eq_true h; unfold inM; omega⟩
 unfold zbs
 rw [e1]
 exact this
theorem zol {w h : Int} {l : List zp} {x y : Int} {b : Bool} {r : Int} (hok : okT w h l x y b = true) (hs : ja r = true) : yt (v_ w h l x y b r) = true:=by
 obtain ⟨h1,⟨h2,h3,h4,h5⟩,h6⟩:=qp.1 hok
 have hl:=j5 hs
 have hg:=xk h1
 unfold v_
 split
 ·obtain ⟨d1,d2,d3⟩:=zkc h1 ⟨h4,h5⟩
  exact zk7 d1 ⟨by omega,by omega⟩ ⟨d2,d3⟩ hs (by omega)
 ·exact zk7 h1 ⟨h2,h3⟩ ⟨h4,h5⟩ hs (by omega)
theorem z7c {w h : Int} {l : List zp} (hok : okG w h l = true) (x y : Int) : yt (goK w h l x y) = true:=by
 have hg:=xk hok
 unfold goK
 have h1:=zgt (n:=x) (most:=w - 1) (by omega)
 have h2:=zgt (n:=y) (most:=h - 1) (by omega)
 have : okT w h l (inM x (w - 1)) (inM y (h - 1)) false = true:=qp.2 ⟨hok,⟨h1.1,by omega,h2.1,by omega⟩,fun h=>by cases h⟩
 exact this
theorem z5e {w h x y : Int} (hx : 0 ≤ x ∧ x < w) (hy : 0 ≤ y ∧ y < h) : 0 ≤ y * w + x ∧ y * w + x < (y + 1) * w ∧ (y + 1) * w ≤ w * h:=by
 obtain ⟨w',rfl⟩:=Int.eq_ofNat_of_zero_le (show 0 ≤ w by omega)
 obtain ⟨h',rfl⟩:=Int.eq_ofNat_of_zero_le (show 0 ≤ h by omega)
 obtain ⟨x',rfl⟩:=Int.eq_ofNat_of_zero_le hx.1
 obtain ⟨y',rfl⟩:=Int.eq_ofNat_of_zero_le hy.1
 have h1 : (y' + 1) * w' ≤ h' * w':=Nat.mul_le_mul_right w' (by omega)
 have h2 : (y' + 1) * w' = y' * w' + w':=Nat.succ_mul y' w'
 have h3 : w' * h' = h' * w':=Nat.mul_comm _ _
 refine ⟨by omega, ?_, ?_⟩
 ·have : (((y' + 1) * w' : Nat) : Int) = ((y' : Int) + 1) * w':=by simp
  have e2 : ((y' * w' : Nat) : Int) = (y' : Int) * w':=by simp
  omega
 ·have : (((y' + 1) * w' : Nat) : Int) = ((y' : Int) + 1) * w':=by simp
  have e2 : ((w' * h' : Nat) : Int) = (w' : Int) * h':=by simp
  omega
theorem w_ {w h : Int} {l : List zp} {a b : Int} (hok : okG w h l = true) (h1 : 0 ≤ a) (h2 : a ≤ b) (h3 : b ≤ l.length) : jq w h l a b = ((w,h,zbq l a.toNat (List.replicate (b - a).toNat (32,0))),0) ∧ okG w h (zbq l a.toNat (List.replicate (b - a).toNat (32,0))) = true:=by
 have e : jq w h l a b = ((w,h,zbq l a.toNat (List.replicate (b - a).toNat (32,0))),0):=if_pos ⟨hok,h1,h2,h3⟩
 have:=zwm w h l a b (by rw [e])
 rw [e] at this
 exact ⟨e,this⟩
theorem u5 {c : Cmd} (h : z9 c = true) : (∃ r,c = (1,0,0,r) ∧ ja r = true) ∨ (∃ a b,c = (2,a,b,0) ∧ 0 ≤ a ∧ a < 24 ∧ 0 ≤ b ∧ b < 80) ∨ (∃ k a,c = (k,a,0,0) ∧ (k = 3 ∨ k = 4 ∨ k = 5 ∨ k = 6) ∧ 1 ≤ a ∧ a ≤ 80) ∨ (∃ k,c = (k,0,0,0) ∧ (k = 7 ∨ k = 8 ∨ k = 9 ∨ k = 10 ∨ k = 11 ∨ k = 12)):=by
 have hs:=zjg h
 generalize q9 c = l at hs
 cases hs with
 |text n hs=>exact .inl ⟨_,rfl,hs⟩
 |go a b ha hb=>exact .inr (.inl ⟨_,_,rfl,by omega,by omega,by omega,by omega⟩)
 |one k hk=>exact .inr (.inr (.inl ⟨_,_,rfl,by omega,by omega,by omega⟩))
 |move k a hk ha=>exact .inr (.inr (.inl ⟨_,_,rfl,by omega,by omega,by omega⟩))
 |form k hk=>exact .inr (.inr (.inr ⟨_,rfl,by omega⟩))
theorem zhe {w h : Int} {l : List zp} {x y : Int} {b : Bool} {c : Cmd} (hok : okT w h l x y b = true) (hc : z9 c = true) : yt (doK w h l x y b c) = true:=by
 obtain ⟨h1,⟨h2,h3,h4,h5⟩,h6⟩:=qp.1 hok
 have hg:=xk h1
 have hat:=z5e ⟨h2,h3⟩ ⟨h4,h5⟩
 have go:=z7c h1
 rcases u5 hc with ⟨r,rfl,hs⟩ | ⟨a,d,rfl,_⟩ | ⟨k,a,rfl,hk,_⟩ | ⟨k,rfl,hk⟩
 ·exact zol hok hs
 ·exact go _ _
 ·rcases hk with rfl | rfl | rfl | rfl <;> exact go _ _
 ·rcases hk with rfl | rfl | rfl | rfl | rfl | rfl
  ·obtain ⟨e1,e2⟩:=w_ (a:=y * w + x) (b:=(y + 1) * w) h1 hat.1 (by omega) (by omega)
   show yt (w,h,(jq w h l (y * w + x) ((y + 1) * w)).1.2.2,x,y,false) = true
   rw [e1]; exact qp.2 ⟨e2,⟨h2,h3,h4,h5⟩,fun h=>by cases h⟩
  ·obtain ⟨e1,e2⟩:=w_ (a:=y * w + x) (b:=l.length) h1 hat.1 (by omega) (by omega)
   show yt (w,h,(jq w h l (y * w + x) l.length).1.2.2,x,y,false) = true
   rw [e1]; exact qp.2 ⟨e2,⟨h2,h3,h4,h5⟩,fun h=>by cases h⟩
  ·exact go _ _
  ·obtain ⟨d1,d2,d3⟩:=zkc h1 ⟨h4,h5⟩
   exact qp.2 ⟨d1,⟨h2,h3,d2,d3⟩,fun h=>by cases h⟩
  ·exact go _ _
  ·exact hok
end
section
open Go Go.RowKit
variable {T0 : Gh} [TabS T0]
set_option maxRecDepth 200000
attribute [local irreducible] zz zg AW AL AO QY qh z_ rsA Opd xh vA gvA zy qb slA jl ipA rpA EqK LnK IxK LdK FaK FdK
theorem zvf (w h : Int) : AP Tryz.prog T0 61 [I w,I h] (zy [vg (ze0 w h).1.1 (ze0 w h).1.2.1 (ze0 w h).1.2.2 0 0 false,I (ze0 w h).2]):=by
 have c1 : AP Tryz.prog T0 114 [I w,I h] (zy [xx (ze0 w h).1.1 (ze0 w h).1.2.1 (ze0 w h).1.2.2,I (ze0 w h).2]):=znw w h
 refine za Tryz.func61 rfl (by decide) Tryz.ntmps61 rfl ?_
 repeat' (first
 |(apply qe; (case hn=>rfl); (case hm=>kernel_rfl)) | refine g6_ ?_ | (apply jx; (case hL=>rfl); (case hne=>rfl)) | exact jy | apply xr | (apply ze7; (case ho=>rfl)) | (apply xp; exact wg) | (apply jv; (case h=>exact zel); (case hk=>exact wk_); (case hc=>rfl)) | refine z50 ?_
  |refine jd ?_ (hy:=by first | (apply ze rfl; exact oo_; done) | (apply ze rfl; exact ql; done)
                                |(apply zn rfl; exact oo_; exact oo_) | (apply zx rfl; exact oo_; exact oo_) | fail)
 |refine z5z ?_
  |refine qj ?_ (hy:=by intro hk hk2; first | (apply ze rfl; exact oo_; done) | (apply ze rfl; exact ql; done)
                                              |(apply zn rfl; exact oo_; exact oo_) | (apply zx rfl; exact oo_; exact oo_) | fail)
 |refine sw_ ?_ | (refine zd ?_ ?_ <;> intro hb <;> try exact no_) | (refine sx_ ?_ <;> intro bb) | (refine su_ ?_ <;> intro u hu1 hu2) | fail)
 exact ⟨_,[],rl_,List.nil_sublist _,Sub.refl _,rfl⟩
theorem zy5 (w h : Int) (l : List zp) (x y : Int) (b : Bool) : okT w h l x y b = (okG w h l && decide (0 ≤ x) && decide (x < w) && decide (0 ≤ y) && decide (y < h) && (!b || decide (x = w - 1))):=by
 rw [Bool.eq_iff_iff]
 simp only [okT,Bool.and_eq_true,decide_eq_true_eq,and_assoc]
theorem zbd (w h : Int) (l : List zp) (x y : Int) (b : Bool) : AP Tryz.prog T0 46 [vg w h l x y b] (B (okT w h l x y b)):=by
 cases hg : okG w h l with
 |false =>
  have c1 : AP Tryz.prog T0 104 [xx w h l] (B false):=hg ▸ zvy w h l
  have e : okT w h l x y b = false:=by rw [okT,hg]; rfl
  rw [e]
  refine za Tryz.func46 rfl (by decide) Tryz.ntmps46 rfl ?_
  repeat' (first
  |(apply qe; (case hn=>rfl); (case hm=>kernel_rfl)) | refine g6_ ?_ | (apply jx; (case hL=>rfl); (case hne=>rfl)) | exact jy | apply xr | (apply ze7; (case ho=>rfl)) | (apply xp; exact wg) | (apply jv; (case h=>exact zel); (case hk=>exact wk_); (case hc=>rfl)) | refine z50 ?_
   |refine jd ?_ (hy:=by first | (apply ze rfl; exact oo_; done) | (apply ze rfl; exact ql; done)
                                 |(apply zn rfl; exact oo_; exact oo_) | (apply zx rfl; exact oo_; exact oo_) | fail)
  |refine z5z ?_
   |refine qj ?_ (hy:=by intro hk hk2; first | (apply ze rfl; exact oo_; done) | (apply ze rfl; exact ql; done)
                                               |(apply zn rfl; exact oo_; exact oo_) | (apply zx rfl; exact oo_; exact oo_) | fail)
  |refine sw_ ?_ | (refine zd ?_ ?_ <;> intro hb <;> try exact no_) | (refine sx_ ?_ <;> intro bb) | (refine su_ ?_ <;> intro u hu1 hu2) | fail)
  all_goals first | exact ⟨_,[],rl_,List.nil_sublist _,Sub.refl _,rfl⟩ | (exfalso; simp at hb; done)
 |true =>
  have c1 : AP Tryz.prog T0 104 [xx w h l] (B true):=hg ▸ zvy w h l
  have hl:=xk hg
  refine za Tryz.func46 rfl (by decide) Tryz.ntmps46 rfl ?_
  repeat' (first
  |(apply qe; (case hn=>rfl); (case hm=>kernel_rfl)) | refine g6_ ?_ | (apply jx; (case hL=>rfl); (case hne=>rfl)) | exact jy | apply xr | (apply ze7; (case ho=>rfl)) | (apply xp; exact wg) | (apply jv; (case h=>exact zel); (case hk=>exact wk_); (case hc=>rfl)) | refine z50 ?_
   |refine jd ?_ (hy:=by first | (apply ze rfl; exact oo_; done) | (apply ze rfl; exact ql; done)
                                 |(apply zn rfl; exact oo_; exact oo_) | (apply zx rfl; exact oo_; exact oo_) | fail)
  |refine z5z ?_
   |refine qj ?_ (hy:=by intro hk hk2; first | (apply ze rfl; exact oo_; done) | (apply ze rfl; exact ql; done)
                                               |(apply zn rfl; exact oo_; exact oo_) | (apply zx rfl; exact oo_; exact oo_) | fail)
  |refine sw_ ?_ | (refine zd ?_ ?_ <;> intro hb <;> try exact no_) | (refine sx_ ?_ <;> intro bb) | (refine su_ ?_ <;> intro u hu1 hu2) | fail)
  all_goals first | (exfalso; simp at hb; done) | (refine ⟨_,[],rl_,List.nil_sublist _,Sub.eq (congrArg B ?_),rfl⟩; rw [zy5,hg]; first | (simp; omega) | (cases b <;> simp <;> omega))
theorem zxq (p : Nat) (w h : Int) (l : List zp) (x y : Int) (b : Bool) (X Y : Int) (hr : 2 ≤ w ∧ w ≤ 80 ∧ 1 ≤ h ∧ h ≤ 24) : AF Tryz.prog T0 106 [ptA p,I X,I Y] [scO p w h l x y b] (fun _ M'=>M' = [scO p w h l (inM X (w - 1)) (inM Y (h - 1)) b]):=by
 have c1 : True:=trivial
 refine za Tryz.func106 rfl (by decide) Tryz.ntmps106 rfl ?_
 repeat' (first
 |(apply qe; (case hn=>rfl); (case hm=>kernel_rfl)) | refine g6_ ?_ | (apply jx; (case hL=>rfl); (case hne=>rfl)) | exact jy | apply xr | (apply ze7; (case ho=>rfl)) | (apply xp; exact wg) | (apply jv; (case h=>exact zel); (case hk=>exact wk_); (case hc=>rfl)) | refine z50 ?_
  |refine jd ?_ (hy:=by first | (apply ze rfl; exact oo_; done) | (apply ze rfl; exact ql; done)
                                |(apply zn rfl; exact oo_; exact oo_) | (apply zx rfl; exact oo_; exact oo_) | fail)
 |refine z5z ?_
  |refine qj ?_ (hy:=by intro hk hk2; first | (apply ze rfl; exact oo_; done) | (apply ze rfl; exact ql; done)
                                              |(apply zn rfl; exact oo_; exact oo_) | (apply zx rfl; exact oo_; exact oo_) | fail)
 |refine sw_ ?_ | (refine zd ?_ ?_ <;> intro hb <;> try exact no_) | (refine sx_ ?_ <;> intro bb) | (refine su_ ?_ <;> intro u hu1 hu2) | fail)
 exact ⟨_,_,rl_,sl_,rfl⟩
theorem zio (p : Nat) (w h : Int) (l : List zp) (x y : Int) (b : Bool) (c : Cmd) (hg : okG w h l = true) (hy : 0 ≤ y ∧ y < h) : AF Tryz.prog T0 81 [ptA p,yw c] [scO p w h l x y b] (fun _ M'=>M' = [scO p w h (kj w h l y).1 x (kj w h l y).2 b]):=by
 have hl:=xk hg
 have c1:=z0i (T0:=T0) w h l (by omega)
 by_cases e : y = h - 1
 ·rw [kj,if_pos e]
  refine za Tryz.func81 rfl (by decide) Tryz.ntmps81 rfl ?_
  repeat' (first
  |(apply qe; (case hn=>rfl); (case hm=>kernel_rfl)) | refine g6_ ?_ | (apply jx; (case hL=>rfl); (case hne=>rfl)) | exact jy | apply xr | (apply ze7; (case ho=>rfl)) | (apply xp; exact wg) | (apply jv; (case h=>exact zel); (case hk=>exact wk_); (case hc=>rfl)) | refine z50 ?_
   |refine jd ?_ (hy:=by first | (apply ze rfl; exact oo_; done) | (apply ze rfl; exact ql; done)
                                 |(apply zn rfl; exact oo_; exact oo_) | (apply zx rfl; exact oo_; exact oo_) | fail)
  |refine z5z ?_
   |refine qj ?_ (hy:=by intro hk hk2; first | (apply ze rfl; exact oo_; done) | (apply ze rfl; exact ql; done)
                                               |(apply zn rfl; exact oo_; exact oo_) | (apply zx rfl; exact oo_; exact oo_) | fail)
  |refine sw_ ?_ | (refine zd ?_ ?_ <;> intro hb <;> try exact no_) | (refine sx_ ?_ <;> intro bb) | (refine su_ ?_ <;> intro u hu1 hu2) | fail)
  all_goals first | (exfalso; omega) | exact ⟨_,_,rl_,.cons _ (.refl _),rfl⟩
 ·rw [kj,if_neg e]
  refine za Tryz.func81 rfl (by decide) Tryz.ntmps81 rfl ?_
  repeat' (first
  |(apply qe; (case hn=>rfl); (case hm=>kernel_rfl)) | refine g6_ ?_ | (apply jx; (case hL=>rfl); (case hne=>rfl)) | exact jy | apply xr | (apply ze7; (case ho=>rfl)) | (apply xp; exact wg) | (apply jv; (case h=>exact zel); (case hk=>exact wk_); (case hc=>rfl)) | refine z50 ?_
   |refine jd ?_ (hy:=by first | (apply ze rfl; exact oo_; done) | (apply ze rfl; exact ql; done)
                                 |(apply zn rfl; exact oo_; exact oo_) | (apply zx rfl; exact oo_; exact oo_) | fail)
  |refine z5z ?_
   |refine qj ?_ (hy:=by intro hk hk2; first | (apply ze rfl; exact oo_; done) | (apply ze rfl; exact ql; done)
                                               |(apply zn rfl; exact oo_; exact oo_) | (apply zx rfl; exact oo_; exact oo_) | fail)
  |refine sw_ ?_ | (refine zd ?_ ?_ <;> intro hb <;> try exact no_) | (refine sx_ ?_ <;> intro bb) | (refine su_ ?_ <;> intro u hu1 hu2) | fail)
  all_goals first | (exfalso; omega) | exact ⟨_,_,rl_,.cons _ (.refl _),rfl⟩
end
section
open Go Go.RowKit
variable {T0 : Gh} [TabS T0]
set_option maxRecDepth 200000
theorem AF.toM {f : FuncId} {As : List AV} {M : List Own} {m m' : Own} (h : AF Tryz.prog T0 f As M (fun _ M'=>M' = [m])) (e : m = m') : AF Tryz.prog T0 f As M (fun _ M'=>M' = [m']):=e ▸ h
attribute [local irreducible] zz zg AW AL AO QY qh z_ rsA Opd xh vA gvA zy qb slA jl ipA rpA EqK LnK IxK LdK FaK FdK
theorem zrh (p : Nat) (w h : Int) (l : List zp) (x y : Int) (b : Bool) (k a d r : Int) (hok : okT w h l x y b = true) (hs : ja r = true) : AF Tryz.prog T0 72 [ptA p,yw (k,a,d,r)] [scO p w h l x y b]
  (fun _ M'=>M' = [scO p w h (v_ w h l x y b r).2.2.1 (v_ w h l x y b r).2.2.2.1 (v_ w h l x y b r).2.2.2.2.1 (v_ w h l x y b r).2.2.2.2.2]):=by
 obtain ⟨h1,⟨h2,h3,h4,h5⟩,h6⟩:=qp.1 hok
 have hl:=j5 hs
 have hg:=xk h1
 by_cases hw : b = true ∨ w < x + (zh r).length
 ·obtain ⟨d1,d2,d3⟩:=zkc h1 ⟨h4,h5⟩
  have hg2:=xk d1
  have cd:=zio (T0:=T0) p w h l x y b (k,a,d,r) h1 ⟨h4,h5⟩
  rw [v_,if_pos hw]
  obtain ⟨⟨l1,y1⟩,e1⟩ : ∃ z,z = kj w h l y:=⟨_,rfl⟩
  rw [← e1] at cd d1 d2 d3 hg2 ⊢
  simp only at cd d1 d2 d3 hg2 ⊢
  obtain ⟨e2,e3⟩:=y8 (l:=l1) (x:=0) (y:=y1) (r:=r) d1 ⟨by omega,by omega⟩ ⟨d2,d3⟩ hs (by omega)
  obtain ⟨l2,hl2⟩ : ∃ z,z = zbq l1 (y1.toNat * w.toNat + (0 : Int).toNat) (zh r):=⟨_,rfl⟩
  rw [← hl2] at e2 e3
  have c1 : AP Tryz.prog T0 124 [xx w h l1,I 0,I y1,R r] (zy [xx w h l2,I 0]):=(z73 w h l1 0 y1 r (by omega)).to (by rw [e2]; rfl)
  have ct : AF Tryz.prog T0 106 [ptA p,I (0 + (zh r).length : Int),I y1] [scO p w h l2 0 y1 b] (fun _ M'=>M' = [scO p w h l2 (inM (0 + (zh r).length) (w - 1)) y1 b]):=(zxq p w h l2 0 y1 b (0 + (zh r).length) y1 (by omega)).toM (by rw [zav d2 (by omega)])
  rw [zbs,e2]
  simp only
  have cw:=zb8 (T0:=T0) r
  generalize (zh r).length = n at *
  clear e2 e3 hl2 e1
  refine za Tryz.func72 rfl (by decide) Tryz.ntmps72 rfl ?_
  repeat' (first
  |(apply zb rfl rfl rfl rfl (c:=cd)
    case ha=>exact os_
    case hM=>exact zf
    rintro _ _ rfl
    simp only [List.cons_append,List.nil_append,List.append_eq])
   |(apply zb rfl rfl rfl rfl (c:=ct)
     case ha=>exact os_
     case hM=>exact zf
     rintro _ _ rfl
     simp only [List.cons_append,List.nil_append,List.append_eq])
  |(apply uk 21 25; (case hN=>decide +kernel); (case hD=>decide +kernel); (case hB=>kernel_rfl); (case hm=>kernel_rfl); (case hod=>rfl); (case hl=>rfl); (case hn=>rfl); (case hsd=>rfl); (case hb=>rfl)) | (apply zv4; (case h2=>exact zl5)) | (apply qt; (case h2=>rfl); (case hD=>decide +kernel); (case hB=>decide +kernel); (case hg=>decide +kernel); (case hm=>kernel_rfl); (case hoL=>rfl); (case hod=>rfl)) | refine zrt ?_ | (apply qe; (case hn=>rfl); (case hm=>kernel_rfl)) | refine g6_ ?_ | (apply jx; (case hL=>rfl); (case hne=>rfl)) | exact jy | apply xr | (apply ze7; (case ho=>rfl)) | (apply xp; exact wg) | (apply jv; (case h=>exact zel); (case hk=>exact wk_); (case hc=>rfl)) | refine z14 ?_ | (apply zw (by rfl) (by kernel_rfl) (by kernel_rfl)) | refine qbb ?_ | (refine zd ?_ ?_ <;> intro hb <;> try exact no_) | (refine sx_ ?_ <;> intro bb) | (refine su_ ?_ <;> intro u hu1 hu2) | fail)
  all_goals first | (exfalso; omega) | exact absurd hb hw | (exfalso; rcases hw with e | e <;> simp [e] at hb; done) | (exfalso; simp at hb; omega) | (refine ⟨_,_,rl_,(List.Sublist.cons_cons _ (List.nil_sublist _)), ?_⟩; first | rfl | (simp; done))
 ·rw [v_,if_neg hw]
  have hk : x + (zh r).length ≤ w:=by omega
  obtain ⟨e2,e3⟩:=y8 (l:=l) (x:=x) (y:=y) (r:=r) h1 ⟨h2,h3⟩ ⟨h4,h5⟩ hs hk
  obtain ⟨l2,hl2⟩ : ∃ z,z = zbq l (y.toNat * w.toNat + x.toNat) (zh r):=⟨_,rfl⟩
  rw [← hl2] at e2 e3
  have c1 : AP Tryz.prog T0 124 [xx w h l,I x,I y,R r] (zy [xx w h l2,I 0]):=(z73 w h l x y r (by omega)).to (by rw [e2]; rfl)
  have ct : AF Tryz.prog T0 106 [ptA p,I (x + (zh r).length),I y] [scO p w h l2 x y b] (fun _ M'=>M' = [scO p w h l2 (inM (x + (zh r).length) (w - 1)) y b]):=(zxq p w h l2 x y b (x + (zh r).length) y (by omega)).toM (by rw [zav h4 (by omega)])
  have cd : True:=trivial
  rw [zbs,e2]
  simp only
  have cw:=zb8 (T0:=T0) r
  generalize (zh r).length = n at *
  clear e2 e3 hl2
  refine za Tryz.func72 rfl (by decide) Tryz.ntmps72 rfl ?_
  repeat' (first
  |(apply zb rfl rfl rfl rfl (c:=cd)
    case ha=>exact os_
    case hM=>exact zf
    rintro _ _ rfl
    simp only [List.cons_append,List.nil_append,List.append_eq])
   |(apply zb rfl rfl rfl rfl (c:=ct)
     case ha=>exact os_
     case hM=>exact zf
     rintro _ _ rfl
     simp only [List.cons_append,List.nil_append,List.append_eq])
  |(apply uk 21 25; (case hN=>decide +kernel); (case hD=>decide +kernel); (case hB=>kernel_rfl); (case hm=>kernel_rfl); (case hod=>rfl); (case hl=>rfl); (case hn=>rfl); (case hsd=>rfl); (case hb=>rfl)) | (apply zv4; (case h2=>exact zl5)) | (apply qt; (case h2=>rfl); (case hD=>decide +kernel); (case hB=>decide +kernel); (case hg=>decide +kernel); (case hm=>kernel_rfl); (case hoL=>rfl); (case hod=>rfl)) | refine zrt ?_ | (apply qe; (case hn=>rfl); (case hm=>kernel_rfl)) | refine g6_ ?_ | (apply jx; (case hL=>rfl); (case hne=>rfl)) | exact jy | apply xr | (apply ze7; (case ho=>rfl)) | (apply xp; exact wg) | (apply jv; (case h=>exact zel); (case hk=>exact wk_); (case hc=>rfl)) | refine z14 ?_ | (apply zw (by rfl) (by kernel_rfl) (by kernel_rfl)) | refine qbb ?_ | (refine zd ?_ ?_ <;> intro hb <;> try exact no_) | (refine sx_ ?_ <;> intro bb) | (refine su_ ?_ <;> intro u hu1 hu2) | fail)
  all_goals first | (exfalso; omega) | exact absurd hb hw | (exfalso; rcases hw with e | e <;> simp [e] at hb; done) | (exfalso; simp at hb; omega) | (refine ⟨_,_,rl_,(List.Sublist.cons_cons _ (List.nil_sublist _)), ?_⟩; first | rfl | (simp; done))
end
section
open Go Go.RowKit
variable {T0 : Gh} [TabS T0]
set_option maxRecDepth 200000
theorem zgn {w h y : Int} (hw : 2 ≤ w ∧ w ≤ 80) (hh : h ≤ 24) (hy : 0 ≤ y ∧ y < h) : 0 ≤ y * w ∧ y * w ≤ 1920 ∧ 0 ≤ (y + 1) * w ∧ (y + 1) * w ≤ 1920:=by
 obtain ⟨w',rfl⟩:=Int.eq_ofNat_of_zero_le (show 0 ≤ w by omega)
 obtain ⟨y',rfl⟩:=Int.eq_ofNat_of_zero_le hy.1
 have h1 : (y' + 1) * w' ≤ 24 * 80:=Nat.mul_le_mul (by omega) (by omega)
 have h2 : (y' + 1) * w' = y' * w' + w':=Nat.succ_mul y' w'
 have e1 : (((y' + 1) * w' : Nat) : Int) = ((y' : Int) + 1) * w':=by simp
 have e2 : ((y' * w' : Nat) : Int) = (y' : Int) * w':=by simp
 omega
attribute [local irreducible] zz zg AW AL AO QY qh z_ rsA Opd xh vA gvA zy qb slA jl ipA rpA EqK LnK IxK LdK FaK FdK
theorem zg0 (p : Nat) (w h : Int) (l : List zp) (x y : Int) (b : Bool) (n : Int) (hg : okG w h l = true) (hx : 0 ≤ x ∧ x < w) (hy : 0 ≤ y ∧ y < h) (h1 : y * w + x ≤ n) (h2 : n ≤ l.length) : AF Tryz.prog T0 125 [ptA p,I n] [scO p w h l x y b]
  (fun _ M'=>M' = [scO p w h (jq w h l (y * w + x) n).1.2.2 x y b]):=by
 have hl:=xk hg
 have hm:=zgn (y:=y) (h:=h) ⟨hl.2.2.1,hl.2.2.2.1⟩ hl.2.2.2.2.2 hy
 obtain ⟨e1,e2⟩:=w_ (a:=y * w + x) (b:=n) hg (by omega) h1 h2
 obtain ⟨l2,hl2⟩ : ∃ z,z = zbq l (y * w + x).toNat (List.replicate (n - (y * w + x)).toNat (32,0)):=⟨_,rfl⟩
 rw [← hl2] at e1
 have c1 : AP Tryz.prog T0 164 [xx w h l,I (y * w + x),I n] (zy [xx w h l2,I 0]):=(z4o w h l (y * w + x) n (by omega)).to (by rw [e1]; rfl)
 have ct : True:=trivial
 rw [e1]
 clear e1 e2 hl2
 refine za Tryz.func125 rfl (by decide) Tryz.ntmps125 rfl ?_
 repeat' (first
 |(apply zb rfl rfl rfl rfl (c:=ct)
   case ha=>exact os_
   case hM=>exact zf
   rintro _ _ rfl
   simp only [List.cons_append,List.nil_append,List.append_eq])
 |(apply uk 28 32; (case hN=>decide +kernel); (case hD=>decide +kernel); (case hB=>kernel_rfl); (case hm=>kernel_rfl); (case hod=>rfl); (case hl=>rfl); (case hn=>rfl); (case hsd=>rfl); (case hb=>rfl)) | (apply zv4; (case h2=>exact zl5)) | (apply qt; (case h2=>rfl); (case hD=>decide +kernel); (case hB=>decide +kernel); (case hg=>decide +kernel); (case hm=>kernel_rfl); (case hoL=>rfl); (case hod=>rfl)) | refine zrt ?_ | (apply qe; (case hn=>rfl); (case hm=>kernel_rfl)) | refine g6_ ?_ | (apply jx; (case hL=>rfl); (case hne=>rfl)) | exact jy | apply xr | (apply ze7; (case ho=>rfl)) | (apply xp; exact wg) | (apply jv; (case h=>exact zel); (case hk=>exact wk_); (case hc=>rfl)) | refine z14 ?_ | (apply zw (by rfl) (by kernel_rfl) (by kernel_rfl)) | refine zxn ?_ | (refine zd ?_ ?_ <;> intro hb <;> try exact no_) | (refine sx_ ?_ <;> intro bb) | (refine su_ ?_ <;> intro u hu1 hu2) | fail)
 all_goals exact ⟨_,_,rl_,.refl _,rfl⟩
section
variable (p : Nat) (w h : Int) (l : List zp) (x y : Int) (b : Bool) (hok : okT w h l x y b = true)
include hok
theorem z7x (a d : Int) : AF Tryz.prog T0 73 [ptA p,qb [I 2,I a,I d,R 0]] [scO p w h l x y b] (fun _ M'=>M' = [scO p w h l (inM d (w - 1)) (inM a (h - 1)) b]):=by
 obtain ⟨h1,⟨h2,h3,h4,h5⟩,h6⟩:=qp.1 hok
 have hg:=xk h1
 have ct:=zxq (T0:=T0) p w h l x y b d a (by omega)
 refine za Tryz.func73 rfl (by decide) Tryz.ntmps73 rfl ?_
 repeat' (first
 |(apply zb rfl rfl rfl rfl (c:=ct)
   case ha=>exact os_
   case hM=>exact zf
   rintro _ _ rfl
   simp only [List.cons_append,List.nil_append,List.append_eq])
 |(apply qe; (case hn=>rfl); (case hm=>kernel_rfl)) | refine g6_ ?_ | (apply jx; (case hL=>rfl); (case hne=>rfl)) | exact jy | apply xr | (apply ze7; (case ho=>rfl)) | (apply xp; exact wg) | (apply jv; (case h=>exact zel); (case hk=>exact wk_); (case hc=>rfl)) | refine zxn ?_ | (refine zd ?_ ?_ <;> intro hb <;> try exact no_) | (refine sx_ ?_ <;> intro bb) | (refine su_ ?_ <;> intro u hu1 hu2) | fail)
 all_goals exact ⟨_,_,rl_,(List.Sublist.cons_cons _ (List.nil_sublist _)),rfl⟩
theorem qc7 (a : Int) (ha : 1 ≤ a ∧ a ≤ 80) : AF Tryz.prog T0 74 [ptA p,qb [I 3,I a,I 0,R 0]] [scO p w h l x y b] (fun _ M'=>M' = [scO p w h l (inM x (w - 1)) (inM (y - a) (h - 1)) b]):=by
 obtain ⟨h1,⟨h2,h3,h4,h5⟩,h6⟩:=qp.1 hok
 have hg:=xk h1
 have ct:=zxq (T0:=T0) p w h l x y b x (y - a) (by omega)
 refine za Tryz.func74 rfl (by decide) Tryz.ntmps74 rfl ?_
 repeat' (first
 |(apply zb rfl rfl rfl rfl (c:=ct)
   case ha=>exact os_
   case hM=>exact zf
   rintro _ _ rfl
   simp only [List.cons_append,List.nil_append,List.append_eq])
 |(apply qe; (case hn=>rfl); (case hm=>kernel_rfl)) | refine g6_ ?_ | (apply jx; (case hL=>rfl); (case hne=>rfl)) | exact jy | apply xr | (apply ze7; (case ho=>rfl)) | (apply xp; exact wg) | (apply jv; (case h=>exact zel); (case hk=>exact wk_); (case hc=>rfl)) | refine zxn ?_ | (refine zd ?_ ?_ <;> intro hb <;> try exact no_) | (refine sx_ ?_ <;> intro bb) | (refine su_ ?_ <;> intro u hu1 hu2) | fail)
 all_goals exact ⟨_,_,rl_,(List.Sublist.cons_cons _ (List.nil_sublist _)),rfl⟩
theorem z4g (a : Int) (ha : 1 ≤ a ∧ a ≤ 80) : AF Tryz.prog T0 75 [ptA p,qb [I 4,I a,I 0,R 0]] [scO p w h l x y b] (fun _ M'=>M' = [scO p w h l (inM x (w - 1)) (inM (y + a) (h - 1)) b]):=by
 obtain ⟨h1,⟨h2,h3,h4,h5⟩,h6⟩:=qp.1 hok
 have hg:=xk h1
 have ct:=zxq (T0:=T0) p w h l x y b x (y + a) (by omega)
 refine za Tryz.func75 rfl (by decide) Tryz.ntmps75 rfl ?_
 repeat' (first
 |(apply zb rfl rfl rfl rfl (c:=ct)
   case ha=>exact os_
   case hM=>exact zf
   rintro _ _ rfl
   simp only [List.cons_append,List.nil_append,List.append_eq])
 |(apply qe; (case hn=>rfl); (case hm=>kernel_rfl)) | refine g6_ ?_ | (apply jx; (case hL=>rfl); (case hne=>rfl)) | exact jy | apply xr | (apply ze7; (case ho=>rfl)) | (apply xp; exact wg) | (apply jv; (case h=>exact zel); (case hk=>exact wk_); (case hc=>rfl)) | refine zxn ?_ | (refine zd ?_ ?_ <;> intro hb <;> try exact no_) | (refine sx_ ?_ <;> intro bb) | (refine su_ ?_ <;> intro u hu1 hu2) | fail)
 all_goals exact ⟨_,_,rl_,(List.Sublist.cons_cons _ (List.nil_sublist _)),rfl⟩
theorem z4d (a : Int) (ha : 1 ≤ a ∧ a ≤ 80) : AF Tryz.prog T0 76 [ptA p,qb [I 5,I a,I 0,R 0]] [scO p w h l x y b] (fun _ M'=>M' = [scO p w h l (inM (x + a) (w - 1)) (inM y (h - 1)) b]):=by
 obtain ⟨h1,⟨h2,h3,h4,h5⟩,h6⟩:=qp.1 hok
 have hg:=xk h1
 have ct:=zxq (T0:=T0) p w h l x y b (x + a) y (by omega)
 refine za Tryz.func76 rfl (by decide) Tryz.ntmps76 rfl ?_
 repeat' (first
 |(apply zb rfl rfl rfl rfl (c:=ct)
   case ha=>exact os_
   case hM=>exact zf
   rintro _ _ rfl
   simp only [List.cons_append,List.nil_append,List.append_eq])
 |(apply qe; (case hn=>rfl); (case hm=>kernel_rfl)) | refine g6_ ?_ | (apply jx; (case hL=>rfl); (case hne=>rfl)) | exact jy | apply xr | (apply ze7; (case ho=>rfl)) | (apply xp; exact wg) | (apply jv; (case h=>exact zel); (case hk=>exact wk_); (case hc=>rfl)) | refine zxn ?_ | (refine zd ?_ ?_ <;> intro hb <;> try exact no_) | (refine sx_ ?_ <;> intro bb) | (refine su_ ?_ <;> intro u hu1 hu2) | fail)
 all_goals exact ⟨_,_,rl_,(List.Sublist.cons_cons _ (List.nil_sublist _)),rfl⟩
theorem z7v (a : Int) (ha : 1 ≤ a ∧ a ≤ 80) : AF Tryz.prog T0 77 [ptA p,qb [I 6,I a,I 0,R 0]] [scO p w h l x y b] (fun _ M'=>M' = [scO p w h l (inM (x - a) (w - 1)) (inM y (h - 1)) b]):=by
 obtain ⟨h1,⟨h2,h3,h4,h5⟩,h6⟩:=qp.1 hok
 have hg:=xk h1
 have ct:=zxq (T0:=T0) p w h l x y b (x - a) y (by omega)
 refine za Tryz.func77 rfl (by decide) Tryz.ntmps77 rfl ?_
 repeat' (first
 |(apply zb rfl rfl rfl rfl (c:=ct)
   case ha=>exact os_
   case hM=>exact zf
   rintro _ _ rfl
   simp only [List.cons_append,List.nil_append,List.append_eq])
 |(apply qe; (case hn=>rfl); (case hm=>kernel_rfl)) | refine g6_ ?_ | (apply jx; (case hL=>rfl); (case hne=>rfl)) | exact jy | apply xr | (apply ze7; (case ho=>rfl)) | (apply xp; exact wg) | (apply jv; (case h=>exact zel); (case hk=>exact wk_); (case hc=>rfl)) | refine zxn ?_ | (refine zd ?_ ?_ <;> intro hb <;> try exact no_) | (refine sx_ ?_ <;> intro bb) | (refine su_ ?_ <;> intro u hu1 hu2) | fail)
 all_goals exact ⟨_,_,rl_,(List.Sublist.cons_cons _ (List.nil_sublist _)),rfl⟩
theorem z7w : AF Tryz.prog T0 80 [ptA p,qb [I 9,I 0,I 0,R 0]] [scO p w h l x y b] (fun _ M'=>M' = [scO p w h l (inM 0 (w - 1)) (inM y (h - 1)) b]):=by
 obtain ⟨h1,⟨h2,h3,h4,h5⟩,h6⟩:=qp.1 hok
 have hg:=xk h1
 have ct:=zxq (T0:=T0) p w h l x y b 0 y (by omega)
 refine za Tryz.func80 rfl (by decide) Tryz.ntmps80 rfl ?_
 repeat' (first
 |(apply zb rfl rfl rfl rfl (c:=ct)
   case ha=>exact os_
   case hM=>exact zf
   rintro _ _ rfl
   simp only [List.cons_append,List.nil_append,List.append_eq])
 |(apply qe; (case hn=>rfl); (case hm=>kernel_rfl)) | refine g6_ ?_ | (apply jx; (case hL=>rfl); (case hne=>rfl)) | exact jy | apply xr | (apply ze7; (case ho=>rfl)) | (apply xp; exact wg) | (apply jv; (case h=>exact zel); (case hk=>exact wk_); (case hc=>rfl)) | refine zxn ?_ | (refine zd ?_ ?_ <;> intro hb <;> try exact no_) | (refine sx_ ?_ <;> intro bb) | (refine su_ ?_ <;> intro u hu1 hu2) | fail)
 all_goals exact ⟨_,_,rl_,(List.Sublist.cons_cons _ (List.nil_sublist _)),rfl⟩
theorem z71 : AF Tryz.prog T0 82 [ptA p,qb [I 11,I 0,I 0,R 0]] [scO p w h l x y b] (fun _ M'=>M' = [scO p w h l (inM (x - 1) (w - 1)) (inM y (h - 1)) b]):=by
 obtain ⟨h1,⟨h2,h3,h4,h5⟩,h6⟩:=qp.1 hok
 have hg:=xk h1
 have ct:=zxq (T0:=T0) p w h l x y b (x - 1) y (by omega)
 refine za Tryz.func82 rfl (by decide) Tryz.ntmps82 rfl ?_
 repeat' (first
 |(apply zb rfl rfl rfl rfl (c:=ct)
   case ha=>exact os_
   case hM=>exact zf
   rintro _ _ rfl
   simp only [List.cons_append,List.nil_append,List.append_eq])
 |(apply qe; (case hn=>rfl); (case hm=>kernel_rfl)) | refine g6_ ?_ | (apply jx; (case hL=>rfl); (case hne=>rfl)) | exact jy | apply xr | (apply ze7; (case ho=>rfl)) | (apply xp; exact wg) | (apply jv; (case h=>exact zel); (case hk=>exact wk_); (case hc=>rfl)) | refine zxn ?_ | (refine zd ?_ ?_ <;> intro hb <;> try exact no_) | (refine sx_ ?_ <;> intro bb) | (refine su_ ?_ <;> intro u hu1 hu2) | fail)
 all_goals exact ⟨_,_,rl_,(List.Sublist.cons_cons _ (List.nil_sublist _)),rfl⟩
theorem zve : AF Tryz.prog T0 78 [ptA p,qb [I 7,I 0,I 0,R 0]] [scO p w h l x y b] (fun _ M'=>M' = [scO p w h (jq w h l (y * w + x) ((y + 1) * w)).1.2.2 x y b]):=by
 obtain ⟨h1,⟨h2,h3,h4,h5⟩,h6⟩:=qp.1 hok
 have hg:=xk h1
 have hat:=z5e ⟨h2,h3⟩ ⟨h4,h5⟩
 have hm:=zgn (y:=y) (h:=h) ⟨hg.2.2.1,hg.2.2.2.1⟩ hg.2.2.2.2.2 ⟨h4,h5⟩
 have ct:=zg0 (T0:=T0) p w h l x y b ((y + 1) * w) h1 ⟨h2,h3⟩ ⟨h4,h5⟩ (by omega) (by omega)
 generalize jq w h l (y * w + x) ((y + 1) * w) = z at *
 refine za Tryz.func78 rfl (by decide) Tryz.ntmps78 rfl ?_
 repeat' (first
 |(apply zb rfl rfl rfl rfl (c:=ct)
   case ha=>exact os_
   case hM=>exact zf
   rintro _ _ rfl
   simp only [List.cons_append,List.nil_append,List.append_eq])
 |(apply qe; (case hn=>rfl); (case hm=>kernel_rfl)) | refine g6_ ?_ | (apply jx; (case hL=>rfl); (case hne=>rfl)) | exact jy | apply xr | (apply ze7; (case ho=>rfl)) | (apply xp; exact wg) | (apply jv; (case h=>exact zel); (case hk=>exact wk_); (case hc=>rfl)) | refine zxn ?_ | (refine zd ?_ ?_ <;> intro hb <;> try exact no_) | (refine sx_ ?_ <;> intro bb) | (refine su_ ?_ <;> intro u hu1 hu2) | fail)
 all_goals exact ⟨_,_,rl_,(List.Sublist.cons_cons _ (List.nil_sublist _)),rfl⟩
theorem zvg : AF Tryz.prog T0 79 [ptA p,qb [I 8,I 0,I 0,R 0]] [scO p w h l x y b] (fun _ M'=>M' = [scO p w h (jq w h l (y * w + x) l.length).1.2.2 x y b]):=by
 obtain ⟨h1,⟨h2,h3,h4,h5⟩,h6⟩:=qp.1 hok
 have hg:=xk h1
 have hat:=z5e ⟨h2,h3⟩ ⟨h4,h5⟩
 have ct:=zg0 (T0:=T0) p w h l x y b l.length h1 ⟨h2,h3⟩ ⟨h4,h5⟩ (by omega) (by omega)
 generalize jq w h l (y * w + x) l.length = z at *
 refine za Tryz.func79 rfl (by decide) Tryz.ntmps79 rfl ?_
 repeat' (first
 |(apply zb rfl rfl rfl rfl (c:=ct)
   case ha=>exact os_
   case hM=>exact zf
   rintro _ _ rfl
   simp only [List.cons_append,List.nil_append,List.append_eq])
 |(apply qe; (case hn=>rfl); (case hm=>kernel_rfl)) | refine g6_ ?_ | (apply jx; (case hL=>rfl); (case hne=>rfl)) | exact jy | apply xr | (apply ze7; (case ho=>rfl)) | (apply xp; exact wg) | (apply jv; (case h=>exact zel); (case hk=>exact wk_); (case hc=>rfl)) | refine zxn ?_ | (refine zd ?_ ?_ <;> intro hb <;> try exact no_) | (refine sx_ ?_ <;> intro bb) | (refine su_ ?_ <;> intro u hu1 hu2) | fail)
 all_goals exact ⟨_,_,rl_,(List.Sublist.cons_cons _ (List.nil_sublist _)),rfl⟩
end
end
section
open Go Go.RowKit
variable {T0 : Gh} [TabS T0]
set_option maxRecDepth 200000
section
variable {P : Program} {N : Fz} {Q : ko} {fr : Fr} {M M' : List Own} {ops : Array Oper} {o : Oper} {rest : List Oper} {x0 : Nat}
theorem jk {T0 : Gh} {x : Operand} {f : FuncId} {args : Array Operand} {ts : Array TypeId} {As : List AV} {m : Own} {K : AV → List Own → Prop} (hg : o.guard = none) (hd : o.dst = some x0) (hN : Nat.blt x0 N.n = true) (ho : o.op = .call { callee:=.value x,args:=args,argTypes:=ts }) (hx : Opd T0 fr x (vA (.func (.func f) #[] #[]))) (ha : OpdAll T0 fr args.toList As) (c : AF P T0 f As [m] K) (hM : Pick m M M')
  (h : ∀ A M1,K A M1 → AL P T0 N false ops Q rest ((x0,A) :: fr) (M1 ++ M')) : AL P T0 N false ops Q (o :: rest) fr M:=by
 refine zqi (zc4 hM.perm) ?_
 refine zdh hg (z09 (Cs:=[]) (caps:=[]) ho hx (fun _=>trivial) ha (by rw [List.append_nil]; exact c) rfl) hd hN (fun _ _ h=>by obtain ⟨_,_,h⟩:=h; exact h.elim) ?_
 rintro A _ ⟨M1,rfl,k⟩
 exact h A M1 k
end
def fnV : Option Nat → Value
 |some f=>.func (.func f) #[] #[]
 |none=>.nilFunc
def fnT : Ty (Option Nat):={ enc:=fun x=>[fnV x],k:=1,len:=fun _=>rfl }
theorem z4r : El Tryz.prog fnT 109 none 8 (fun x=>vA (fnV x)):=⟨⟨.nilFunc,by kernel_rfl,rfl⟩,by decide,fun x v hv=>by simp [fnT] at hv; subst hv; cases x <;> rfl,.inr ⟨yq (by kernel_rfl),rfl,fun x v h=>by simp [fnT] at h; rw [← h]⟩⟩
instance qel : ElC 109 fnT none 8 (fun x=>vA (fnV x)):=⟨z4r⟩
theorem zsw : Tryz.prog.underlying 111 = some (.slice 109):=by kernel_rfl
instance qbm : UnC 111 (.slice 109):=⟨zsw⟩
def z8e : List (Option Nat):=[none,none,some 73,some 74,some 75,some 76,some 77,some 78,some 79,some 80,some 81,some 82]
theorem jm {n : Int} : Sub (zy [qb [I 0,I 0,vA (.slice none 0 0),I 0,I 0,B false],I n]) (zy [vg 0 0 [] 0 0 false,I n]):=wa (qu (un (qu (Sub.refl _) (qu (Sub.refl _) (qu zjc (qu (Sub.refl _) (qu (Sub.refl _) (qu (Sub.refl _) y4))))))) (qu (Sub.refl _) y4))
theorem zqu {w h : Int} {l : List zp} {x y : Int} {b : Bool} (h1 : okT w h l x y b = true) : okT w h l x y false = true:=by
 obtain ⟨a,c,_⟩:=qp.1 h1
 exact qp.2 ⟨a,c,fun h=>by cases h⟩
attribute [local irreducible] zz zg AW AL AO QY qh z_ rsA Opd xh vA gvA zy qb slA jl ipA rpA EqK LnK IxK LdK FaK FdK
theorem zz9 (w h : Int) (l : List zp) (x y : Int) (b : Bool) (c : Cmd) : AP Tryz.prog T0 20 [vg w h l x y b,yw c] (zy [tmA (doT (w,h,l,x,y,b) c).1,I (doT (w,h,l,x,y,b) c).2]):=by
 have c1:=zbd (T0:=T0) w h l x y b
 have c2:=wi (T0:=T0) c
 by_cases hh : okT w h l x y b = true ∧ z9 c = true
 ·obtain ⟨hok,hc⟩:=hh
  rw [zc5 hok hc]
  rw [hok] at c1
  rw [hc] at c2
  have hok2:=zqu hok
  obtain ⟨h1,⟨h2,h3,h4,h5⟩,h6⟩:=qp.1 hok
  rcases u5 hc with ⟨r,rfl,hs⟩ | ⟨a,d,rfl,_⟩ | ⟨k,a,rfl,hk,ha⟩ | ⟨k,rfl,hk⟩
  ·have ct:=fun p=>zrh (T0:=T0) p w h l x y b 1 0 0 r hok hs
   have ck : True:=trivial
   have hg:=zol hok hs
   show AP _ _ _ _ (zy [tmA (v_ w h l x y b r),I 0])
   have hw : (v_ w h l x y b r).1 = w ∧ (v_ w h l x y b r).2.1 = h:=by unfold v_; split <;> exact ⟨rfl,rfl⟩
   obtain ⟨⟨w',h',l',x',y',b'⟩,hz⟩ : ∃ z,z = v_ w h l x y b r:=⟨_,rfl⟩
   rw [← hz] at ct hw ⊢
   simp only at ct hw ⊢
   obtain ⟨rfl,rfl⟩:=hw
   refine za Tryz.func20 rfl (by decide) Tryz.ntmps20 rfl ?_
   repeat' (first
   |(apply zb rfl rfl rfl rfl (c:=ct _)
     case ha=>exact os_
     case hM=>exact zf
     rintro _ _ rfl
     simp only [List.cons_append,List.nil_append,List.append_eq])
    |(apply jk rfl rfl rfl rfl (c:=ck _)
      case hx=>exact oo_
      case ha=>exact os_
      case hM=>exact zf
      rintro _ _ rfl
      simp only [List.cons_append,List.nil_append,List.append_eq])
   |refine zph ?_ | (refine zd ?_ ?_ <;> intro hb <;> try exact no_) | (refine sx_ ?_ <;> intro bb) | (refine su_ ?_ <;> intro u hu1 hu2) | fail)
   all_goals first | (exfalso; simp at hb; done) | exact ⟨_,[],rl_,List.nil_sublist _,Sub.refl _,rfl⟩ | exact ⟨_,[],rl_,List.nil_sublist _,jm,rfl⟩
  ·have ct : True:=trivial
   have ck:=fun p=>z7x (T0:=T0) p w h l x y false hok2 a d
   show AP _ _ _ _ (zy [vg w h l (inM d (w - 1)) (inM a (h - 1)) false,I 0])
   refine za Tryz.func20 rfl (by decide) Tryz.ntmps20 rfl ?_
   repeat' (first
   |(apply zb rfl rfl rfl rfl (c:=ct _)
     case ha=>exact os_
     case hM=>exact zf
     rintro _ _ rfl
     simp only [List.cons_append,List.nil_append,List.append_eq])
    |(apply jk rfl rfl rfl rfl (c:=ck _)
      case hx=>exact oo_
      case ha=>exact os_
      case hM=>exact zf
      rintro _ _ rfl
      simp only [List.cons_append,List.nil_append,List.append_eq])
   |refine zph ?_ | (refine zd ?_ ?_ <;> intro hb <;> try exact no_) | (refine sx_ ?_ <;> intro bb) | (refine su_ ?_ <;> intro u hu1 hu2) | fail)
   all_goals first | (exfalso; simp at hb; done) | exact ⟨_,[],rl_,List.nil_sublist _,Sub.refl _,rfl⟩ | exact ⟨_,[],rl_,List.nil_sublist _,jm,rfl⟩
  ·have ct : True:=trivial
   rcases hk with rfl | rfl | rfl | rfl
   ·have ck:=fun p=>qc7 (T0:=T0) p w h l x y false hok2 a ha
    show AP _ _ _ _ (zy [vg w h l (inM (x) (w - 1)) (inM (y - a) (h - 1)) false,I 0])
    refine za Tryz.func20 rfl (by decide) Tryz.ntmps20 rfl ?_
    repeat' (first
    |(apply zb rfl rfl rfl rfl (c:=ct _)
      case ha=>exact os_
      case hM=>exact zf
      rintro _ _ rfl
      simp only [List.cons_append,List.nil_append,List.append_eq])
     |(apply jk rfl rfl rfl rfl (c:=ck _)
       case hx=>exact oo_
       case ha=>exact os_
       case hM=>exact zf
       rintro _ _ rfl
       simp only [List.cons_append,List.nil_append,List.append_eq])
    |refine zph ?_ | (refine zd ?_ ?_ <;> intro hb <;> try exact no_) | (refine sx_ ?_ <;> intro bb) | (refine su_ ?_ <;> intro u hu1 hu2) | fail)
    all_goals first | (exfalso; simp at hb; done) | exact ⟨_,[],rl_,List.nil_sublist _,Sub.refl _,rfl⟩ | exact ⟨_,[],rl_,List.nil_sublist _,jm,rfl⟩
   ·have ck:=fun p=>z4g (T0:=T0) p w h l x y false hok2 a ha
    show AP _ _ _ _ (zy [vg w h l (inM (x) (w - 1)) (inM (y + a) (h - 1)) false,I 0])
    refine za Tryz.func20 rfl (by decide) Tryz.ntmps20 rfl ?_
    repeat' (first
    |(apply zb rfl rfl rfl rfl (c:=ct _)
      case ha=>exact os_
      case hM=>exact zf
      rintro _ _ rfl
      simp only [List.cons_append,List.nil_append,List.append_eq])
     |(apply jk rfl rfl rfl rfl (c:=ck _)
       case hx=>exact oo_
       case ha=>exact os_
       case hM=>exact zf
       rintro _ _ rfl
       simp only [List.cons_append,List.nil_append,List.append_eq])
    |refine zph ?_ | (refine zd ?_ ?_ <;> intro hb <;> try exact no_) | (refine sx_ ?_ <;> intro bb) | (refine su_ ?_ <;> intro u hu1 hu2) | fail)
    all_goals first | (exfalso; simp at hb; done) | exact ⟨_,[],rl_,List.nil_sublist _,Sub.refl _,rfl⟩ | exact ⟨_,[],rl_,List.nil_sublist _,jm,rfl⟩
   ·have ck:=fun p=>z4d (T0:=T0) p w h l x y false hok2 a ha
    show AP _ _ _ _ (zy [vg w h l (inM (x + a) (w - 1)) (inM (y) (h - 1)) false,I 0])
    refine za Tryz.func20 rfl (by decide) Tryz.ntmps20 rfl ?_
    repeat' (first
    |(apply zb rfl rfl rfl rfl (c:=ct _)
      case ha=>exact os_
      case hM=>exact zf
      rintro _ _ rfl
      simp only [List.cons_append,List.nil_append,List.append_eq])
     |(apply jk rfl rfl rfl rfl (c:=ck _)
       case hx=>exact oo_
       case ha=>exact os_
       case hM=>exact zf
       rintro _ _ rfl
       simp only [List.cons_append,List.nil_append,List.append_eq])
    |refine zph ?_ | (refine zd ?_ ?_ <;> intro hb <;> try exact no_) | (refine sx_ ?_ <;> intro bb) | (refine su_ ?_ <;> intro u hu1 hu2) | fail)
    all_goals first | (exfalso; simp at hb; done) | exact ⟨_,[],rl_,List.nil_sublist _,Sub.refl _,rfl⟩ | exact ⟨_,[],rl_,List.nil_sublist _,jm,rfl⟩
   ·have ck:=fun p=>z7v (T0:=T0) p w h l x y false hok2 a ha
    show AP _ _ _ _ (zy [vg w h l (inM (x - a) (w - 1)) (inM (y) (h - 1)) false,I 0])
    refine za Tryz.func20 rfl (by decide) Tryz.ntmps20 rfl ?_
    repeat' (first
    |(apply zb rfl rfl rfl rfl (c:=ct _)
      case ha=>exact os_
      case hM=>exact zf
      rintro _ _ rfl
      simp only [List.cons_append,List.nil_append,List.append_eq])
     |(apply jk rfl rfl rfl rfl (c:=ck _)
       case hx=>exact oo_
       case ha=>exact os_
       case hM=>exact zf
       rintro _ _ rfl
       simp only [List.cons_append,List.nil_append,List.append_eq])
    |refine zph ?_ | (refine zd ?_ ?_ <;> intro hb <;> try exact no_) | (refine sx_ ?_ <;> intro bb) | (refine su_ ?_ <;> intro u hu1 hu2) | fail)
    all_goals first | (exfalso; simp at hb; done) | exact ⟨_,[],rl_,List.nil_sublist _,Sub.refl _,rfl⟩ | exact ⟨_,[],rl_,List.nil_sublist _,jm,rfl⟩
  ·rcases hk with rfl | rfl | rfl | rfl | rfl | rfl
   ·have ct : True:=trivial
    have ck:=fun p=>zve (T0:=T0) p w h l x y false hok2
    show AP _ _ _ _ (zy [vg w h (jq w h l (y * w + x) ((y + 1) * w)).1.2.2 x y false,I 0])
    refine za Tryz.func20 rfl (by decide) Tryz.ntmps20 rfl ?_
    repeat' (first
    |(apply zb rfl rfl rfl rfl (c:=ct _)
      case ha=>exact os_
      case hM=>exact zf
      rintro _ _ rfl
      simp only [List.cons_append,List.nil_append,List.append_eq])
     |(apply jk rfl rfl rfl rfl (c:=ck _)
       case hx=>exact oo_
       case ha=>exact os_
       case hM=>exact zf
       rintro _ _ rfl
       simp only [List.cons_append,List.nil_append,List.append_eq])
    |refine zph ?_ | (refine zd ?_ ?_ <;> intro hb <;> try exact no_) | (refine sx_ ?_ <;> intro bb) | (refine su_ ?_ <;> intro u hu1 hu2) | fail)
    all_goals first | (exfalso; simp at hb; done) | exact ⟨_,[],rl_,List.nil_sublist _,Sub.refl _,rfl⟩ | exact ⟨_,[],rl_,List.nil_sublist _,jm,rfl⟩
   ·have ct : True:=trivial
    have ck:=fun p=>zvg (T0:=T0) p w h l x y false hok2
    show AP _ _ _ _ (zy [vg w h (jq w h l (y * w + x) l.length).1.2.2 x y false,I 0])
    refine za Tryz.func20 rfl (by decide) Tryz.ntmps20 rfl ?_
    repeat' (first
    |(apply zb rfl rfl rfl rfl (c:=ct _)
      case ha=>exact os_
      case hM=>exact zf
      rintro _ _ rfl
      simp only [List.cons_append,List.nil_append,List.append_eq])
     |(apply jk rfl rfl rfl rfl (c:=ck _)
       case hx=>exact oo_
       case ha=>exact os_
       case hM=>exact zf
       rintro _ _ rfl
       simp only [List.cons_append,List.nil_append,List.append_eq])
    |refine zph ?_ | (refine zd ?_ ?_ <;> intro hb <;> try exact no_) | (refine sx_ ?_ <;> intro bb) | (refine su_ ?_ <;> intro u hu1 hu2) | fail)
    all_goals first | (exfalso; simp at hb; done) | exact ⟨_,[],rl_,List.nil_sublist _,Sub.refl _,rfl⟩ | exact ⟨_,[],rl_,List.nil_sublist _,jm,rfl⟩
   ·have ct : True:=trivial
    have ck:=fun p=>z7w (T0:=T0) p w h l x y false hok2
    show AP _ _ _ _ (zy [vg w h l (inM 0 (w - 1)) (inM y (h - 1)) false,I 0])
    refine za Tryz.func20 rfl (by decide) Tryz.ntmps20 rfl ?_
    repeat' (first
    |(apply zb rfl rfl rfl rfl (c:=ct _)
      case ha=>exact os_
      case hM=>exact zf
      rintro _ _ rfl
      simp only [List.cons_append,List.nil_append,List.append_eq])
     |(apply jk rfl rfl rfl rfl (c:=ck _)
       case hx=>exact oo_
       case ha=>exact os_
       case hM=>exact zf
       rintro _ _ rfl
       simp only [List.cons_append,List.nil_append,List.append_eq])
    |refine zph ?_ | (refine zd ?_ ?_ <;> intro hb <;> try exact no_) | (refine sx_ ?_ <;> intro bb) | (refine su_ ?_ <;> intro u hu1 hu2) | fail)
    all_goals first | (exfalso; simp at hb; done) | exact ⟨_,[],rl_,List.nil_sublist _,Sub.refl _,rfl⟩ | exact ⟨_,[],rl_,List.nil_sublist _,jm,rfl⟩
   ·have ct : True:=trivial
    have ck:=fun p=>zio (T0:=T0) p w h l x y false (10,0,0,0) h1 ⟨h4,h5⟩
    show AP _ _ _ _ (zy [vg w h (kj w h l y).1 x (kj w h l y).2 false,I 0])
    refine za Tryz.func20 rfl (by decide) Tryz.ntmps20 rfl ?_
    repeat' (first
    |(apply zb rfl rfl rfl rfl (c:=ct _)
      case ha=>exact os_
      case hM=>exact zf
      rintro _ _ rfl
      simp only [List.cons_append,List.nil_append,List.append_eq])
     |(apply jk rfl rfl rfl rfl (c:=ck _)
       case hx=>exact oo_
       case ha=>exact os_
       case hM=>exact zf
       rintro _ _ rfl
       simp only [List.cons_append,List.nil_append,List.append_eq])
    |refine zph ?_ | (refine zd ?_ ?_ <;> intro hb <;> try exact no_) | (refine sx_ ?_ <;> intro bb) | (refine su_ ?_ <;> intro u hu1 hu2) | fail)
    all_goals first | (exfalso; simp at hb; done) | exact ⟨_,[],rl_,List.nil_sublist _,Sub.refl _,rfl⟩ | exact ⟨_,[],rl_,List.nil_sublist _,jm,rfl⟩
   ·have ct : True:=trivial
    have ck:=fun p=>z71 (T0:=T0) p w h l x y false hok2
    show AP _ _ _ _ (zy [vg w h l (inM (x - 1) (w - 1)) (inM y (h - 1)) false,I 0])
    refine za Tryz.func20 rfl (by decide) Tryz.ntmps20 rfl ?_
    repeat' (first
    |(apply zb rfl rfl rfl rfl (c:=ct _)
      case ha=>exact os_
      case hM=>exact zf
      rintro _ _ rfl
      simp only [List.cons_append,List.nil_append,List.append_eq])
     |(apply jk rfl rfl rfl rfl (c:=ck _)
       case hx=>exact oo_
       case ha=>exact os_
       case hM=>exact zf
       rintro _ _ rfl
       simp only [List.cons_append,List.nil_append,List.append_eq])
    |refine zph ?_ | (refine zd ?_ ?_ <;> intro hb <;> try exact no_) | (refine sx_ ?_ <;> intro bb) | (refine su_ ?_ <;> intro u hu1 hu2) | fail)
    all_goals first | (exfalso; simp at hb; done) | exact ⟨_,[],rl_,List.nil_sublist _,Sub.refl _,rfl⟩ | exact ⟨_,[],rl_,List.nil_sublist _,jm,rfl⟩
   ·have ct : True:=trivial
    have ck : True:=trivial
    show AP _ _ _ _ (zy [vg w h l x y b,I 0])
    refine za Tryz.func20 rfl (by decide) Tryz.ntmps20 rfl ?_
    repeat' (first
    |(apply zb rfl rfl rfl rfl (c:=ct _)
      case ha=>exact os_
      case hM=>exact zf
      rintro _ _ rfl
      simp only [List.cons_append,List.nil_append,List.append_eq])
     |(apply jk rfl rfl rfl rfl (c:=ck _)
       case hx=>exact oo_
       case ha=>exact os_
       case hM=>exact zf
       rintro _ _ rfl
       simp only [List.cons_append,List.nil_append,List.append_eq])
    |refine zph ?_ | (refine zd ?_ ?_ <;> intro hb <;> try exact no_) | (refine sx_ ?_ <;> intro bb) | (refine su_ ?_ <;> intro u hu1 hu2) | fail)
    all_goals first | (exfalso; simp at hb; done) | exact ⟨_,[],rl_,List.nil_sublist _,Sub.refl _,rfl⟩ | exact ⟨_,[],rl_,List.nil_sublist _,jm,rfl⟩
 ·rw [z8f hh]
  have ct : True:=trivial
  have ck : True:=trivial
  show AP _ _ _ _ (zy [vg 0 0 [] 0 0 false,I 1])
  cases e1 : okT w h l x y b with
  |false =>
   rw [e1] at c1
   refine za Tryz.func20 rfl (by decide) Tryz.ntmps20 rfl ?_
   repeat' (first
   |(apply zb rfl rfl rfl rfl (c:=ct _)
     case ha=>exact os_
     case hM=>exact zf
     rintro _ _ rfl
     simp only [List.cons_append,List.nil_append,List.append_eq])
    |(apply jk rfl rfl rfl rfl (c:=ck _)
      case hx=>exact oo_
      case ha=>exact os_
      case hM=>exact zf
      rintro _ _ rfl
      simp only [List.cons_append,List.nil_append,List.append_eq])
   |refine zph ?_ | (refine zd ?_ ?_ <;> intro hb <;> try exact no_) | (refine sx_ ?_ <;> intro bb) | (refine su_ ?_ <;> intro u hu1 hu2) | fail)
   all_goals first | (exfalso; simp at hb; done) | exact ⟨_,[],rl_,List.nil_sublist _,Sub.refl _,rfl⟩ | exact ⟨_,[],rl_,List.nil_sublist _,jm,rfl⟩
  |true =>
   have e2 : z9 c = false:=by
    cases e : z9 c with
    |false=>rfl
    |true=>exact absurd ⟨e1,e⟩ hh
   rw [e1] at c1
   rw [e2] at c2
   refine za Tryz.func20 rfl (by decide) Tryz.ntmps20 rfl ?_
   repeat' (first
   |(apply zb rfl rfl rfl rfl (c:=ct _)
     case ha=>exact os_
     case hM=>exact zf
     rintro _ _ rfl
     simp only [List.cons_append,List.nil_append,List.append_eq])
    |(apply jk rfl rfl rfl rfl (c:=ck _)
      case hx=>exact oo_
      case ha=>exact os_
      case hM=>exact zf
      rintro _ _ rfl
      simp only [List.cons_append,List.nil_append,List.append_eq])
   |refine zph ?_ | (refine zd ?_ ?_ <;> intro hb <;> try exact no_) | (refine sx_ ?_ <;> intro bb) | (refine su_ ?_ <;> intro u hu1 hu2) | fail)
   all_goals first | (exfalso; simp at hb; done) | exact ⟨_,[],rl_,List.nil_sublist _,Sub.refl _,rfl⟩ | exact ⟨_,[],rl_,List.nil_sublist _,jm,rfl⟩
end
section
open Go Go.RowKit
variable {T0 : Gh} [TabS T0]
set_option maxRecDepth 200000
attribute [local irreducible] zz zg AW AL AO QY qh z_ rsA Opd xh vA gvA zy qb slA jl ipA rpA EqK LnK IxK LdK FaK FdK
end
section
open Go Go.RowKit
variable {T0 : Gh} [TabS T0]
set_option maxRecDepth 200000
attribute [local irreducible] zz zg AW AL AO QY qh z_ rsA Opd xh vA gvA zy qb slA jl ipA rpA EqK LnK IxK LdK FaK FdK
end
end Go.Proofs.YtgfmjmfphmjdkaaGreatDoor
