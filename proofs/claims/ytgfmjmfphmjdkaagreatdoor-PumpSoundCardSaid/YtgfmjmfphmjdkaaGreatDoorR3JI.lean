/- Layer 30 (pump): the law PumpGrants. No condition. -/
import Derived.Test.YtgfmjmfphmjdkaaGreatDoorR3JG
set_option linter.unusedSimpArgs false
set_option linter.unusedVariables false
set_option linter.unusedSectionVars false
namespace Go.Proofs.YtgfmjmfphmjdkaaGreatDoor
set_option maxHeartbeats 4000000
open Go Go.RowKit
set_option maxRecDepth 200000
theorem zfc {q : Pu} (h : x8 q = true) : (qx q).length ≤ 48:=by
 obtain ⟨_,h2,h3,_⟩:=zm.1 h
 obtain ⟨f1,f2,f3,f4⟩:=zv h2
 unfold qx
 rw [List.length_drop,jf]; omega
theorem zys {q : Pu} (h : x8 q = true) : ztj q.2.1.1 q.2.1.2.1 q.2.1.2.2.1 q.2.1.2.2.2.1 = qx q:=if_pos (zm.1 h).2.1
theorem zlf {p : Pu} {t : Tm} {g : Int} (hp : x8 p = true) (hf : qz p.1 t) : (xo p t g).1.length + zah (xo p t g).2 t ≤ zah p t:=by
 obtain ⟨g',r,_⟩:=y9 (t:=t) (R:=fun out _ q=>out.length + zah q t ≤ zah p t) (fun out g1 q q' hq hf' hR h=>by
   obtain ⟨_,o2,_⟩:=j8 hq hf' h
   obtain ⟨_,_,m,_⟩:=je hf' h
   have f:=zv (zm.1 hq).2.1
   have e : q'.2.1.2.2.1 = q.2.1.2.2.1:=by rw [o2]
   have e2 : qr q'.2.1.2.1 = qr q.2.1.2.1 + jb (zu q.1 t).1:=by rw [o2]; simp [qr]
   have e3:=f.2.2.1
   unfold zah at hR ⊢
   rw [e]
   generalize q.2.1.2.2.1 = s at *
   omega) (fun out g1 q hq hf' hR=>by
   have:=uo (t:=t) (g:=g1) hq
   rw [List.length_append]; omega) _ [] g p (Nat.le_refl _) hp hf (by simp)
 rw [List.nil_append] at r
 exact r
variable {T0 : Gh} [TabS T0] [TabU T0]
theorem vd {q : Pu} (h : x8 q = true) : AP Tryz.prog T0 33 [kp q.2.1.1 q.2.1.2.1 q.2.1.2.2.1 q.2.1.2.2.2.1 q.2.1.2.2.2.2] (SA (qx q)):=(zir _ _ _ _ _ (by have:=zhy h; omega)).to (by rw [zys h])
theorem ve {q : Pu} (h : x8 q = true) : AP Tryz.prog T0 28 [puA q] (B true):=(wk q (by have:=zhy h; omega)).to (by rw [h])
attribute [local irreducible] zz zg AW AL AO QY qh z_ rsA Opd xh vA gvA zy qb slA jl ipA rpA EqK LnK IxK LdK FaK FdK
theorem zln (p : Pu) (t : Tm) (g : Int) (hg : g ≤ 9223372036854775807) : AP Tryz.prog T0 7 [puA p,tmA t,I g] (B true):=by
 have c2 : True:=trivial
 have c3 : True:=trivial
 have c4 : True:=trivial
 have c5 : True:=trivial
 have c6 : True:=trivial
 have c7 : True:=trivial
 have c8 : True:=trivial
 have c9 : True:=trivial
 have c1:=zj5 (T0:=T0) p
 by_cases hbig : (p.1.2.2.1.length ≤ 2000 ∧ p.2.1.2.1.length ≤ 200 ∧ p.2.2.length ≤ 200) ∧ t.2.2.1.length ≤ 2000
 ·have c2:=wk (T0:=T0) p (by omega)
  by_cases hp : x8 p = true
  ·have c2:=ve (T0:=T0) hp
   have c3:=wm (T0:=T0) p t g (by omega) hg
   have c4:=zj4 (T0:=T0) p g (by omega) hg
   rw [show zbv p g = zi p g from if_pos hp] at c4
   obtain ⟨b1,_,_,b4,_⟩:=k_ (g:=g) hp
   have c5:=ve (T0:=T0) b1
   have hlen : t.2.2.1.length ≤ 2000:=hbig.2
   by_cases hf : qz p.1 t
   ·unfold vj at c3
    rw [if_pos ⟨hp,hf⟩] at c3
    obtain ⟨⟨m,m1,m2⟩,g2,g3,g4⟩:=zgd (g:=g) hp hf
    have pre:=zzn (g:=g) hp hf
    have c6:=vd (T0:=T0) hp
    have c7:=vd (T0:=T0) g4
    have c8:=vd (T0:=T0) b1
    have r1:=zfc hp
    have r2:=zfc g4
    have r3:=zfc b1
    have b4' : (zi p g).1 ++ qx (zi p g).2 = qx p:=b4
    have k1:=zlf (g:=g) hp hf
    have k2 : zah p t ≤ 100000:=by
     have m:=zgp p.1 t
     have f:=zv (zm.1 hp).2.1
     have h9:=(zc0 hf).2
     unfold zah; omega
    have k3 : (xo p t g).1.length ≤ 100000:=by omega
    have is2:=ve (T0:=T0) g4
    have allm : v9 (qo m) = (m,[],0):=by
     have:=zmn m1 [] zbp
     rwa [List.append_nil] at this
    clear b4 k1 k2 hbig c1 b1 g4
    have c1:=zj5 (T0:=T0) p
    generalize hwas : qx p = was at *
    generalize qx (zi p g).2 = rb at *
    generalize qx (xo p t g).2 = ra at *
    generalize zi p g = z1 at *
    generalize xo p t g = z2 at *
    obtain ⟨r,b⟩:=z1
    obtain ⟨s,a⟩:=z2
    simp only at c3 c4 c5 c6 c7 c8 r2 r3 b4' k3 is2 m2 g2 g3 pre
    have e1 : ((s ++ ra).drop was.length).take ((s ++ ra).length - was.length) = qo m:=by
     rw [m2,List.drop_left' rfl,List.take_of_length_le (by simp)]
    have e2 : ((s ++ ra).drop 0).take (was.length - 0) = was:=by
     rw [m2,List.drop_zero,Nat.sub_zero,List.take_left' rfl]
    have hl1 : s.length + ra.length = was.length + (qo m).length:=by
     have:=congrArg List.length m2
     simpa using this
    have c9 : AP Tryz.prog T0 34 [SA (((s ++ ra).drop was.length).take ((s ++ ra).length - was.length))] (zy [slA zc7 m,SA [],I 0]):=(zl0 _ (by rw [e1]; omega)).to (by rw [e1,allm])
    have pl:=pre.length_le
    have e3 : s.take r.length = r:=(List.prefix_iff_eq_take.1 pre).symm
    clear hp hf allm m1 hwas e1
    refine za Tryz.func7 rfl (by decide) Tryz.ntmps7 rfl ?_
    repeat' (first
    |refine z9d ?_ | (refine zd ?_ ?_ <;> intro hb <;> try exact no_) | (refine sx_ ?_ <;> intro bb) | (refine su_ ?_ <;> intro u hu1 hu2) | fail)
    all_goals first | (exfalso; simp at hb; done) | (exfalso; omega) | exact ⟨_,[],rl_,List.nil_sublist _,Sub.refl _,rfl⟩ | skip
    ·exfalso
     rcases hb with (((hb | ⟨hb,hx⟩) | hb) | hb) | hb
     ·omega
     ·have k:=g3 (fun z=>by rw [z] at hb; simp at hb)
      rcases hx with hx | hx
      ·rw [k.2] at hx; cases hx
      ·exact hx k.1
     ·rw [List.length_append] at hb; omega
     ·exact hb e2
     ·omega
    ·refine ⟨_,[],rl_,List.nil_sublist _,Sub.eq (congrArg B ?_),rfl⟩
     have e4 : min r.length s.length = r.length:=Nat.min_eq_left pl
     simp [pl,e4,e3,b4']
   ·unfold vj at c3
    rw [if_neg (fun z=>hf z.2)] at c3
    generalize zi p g = z at *
    obtain ⟨r,b⟩:=z
    refine za Tryz.func7 rfl (by decide) Tryz.ntmps7 rfl ?_
    repeat' (first
    |refine z9d ?_ | (refine zd ?_ ?_ <;> intro hb <;> try exact no_) | (refine sx_ ?_ <;> intro bb) | (refine su_ ?_ <;> intro u hu1 hu2) | fail)
    all_goals first | exact z8c | skip
  ·rw [show x8 p = false by simpa using hp] at c2
   refine za Tryz.func7 rfl (by decide) Tryz.ntmps7 rfl ?_
   repeat' (first
   |refine z9d ?_ | (refine zd ?_ ?_ <;> intro hb <;> try exact no_) | (refine sx_ ?_ <;> intro bb) | (refine su_ ?_ <;> intro u hu1 hu2) | fail)
   all_goals first | exact z8c | skip
 ·generalize x8 p = v at *
  refine za Tryz.func7 rfl (by decide) Tryz.ntmps7 rfl ?_
  repeat' (first
  |refine z9d ?_ | (refine zd ?_ ?_ <;> intro hb <;> try exact no_) | (refine sx_ ?_ <;> intro bb) | (refine su_ ?_ <;> intro u hu1 hu2) | fail)
  all_goals first | exact z8c | skip
end Go.Proofs.YtgfmjmfphmjdkaaGreatDoor
namespace Go.Proofs.YtgfmjmfphmjdkaaGreatDoor
set_option maxHeartbeats 4000000
open Go Go.RowKit
set_option maxRecDepth 200000
variable {T0 : Gh} [TabS T0] [TabU T0]
attribute [local irreducible] zz zg AW AL AO QY qh z_ rsA Opd xh vA gvA zy qb slA jl ipA rpA EqK LnK IxK LdK FaK FdK
theorem zx4 {p : Pu} {t : Tm} (hp : x8 p = true) : zah (ky p) t = zah p t:=by rw [(zdr hp).2]; rfl
structure EndP (u t : Tm) (H n : Nat) (out : List UInt8) (p : Pu) : Prop where
 ok : x8 p = true
 fits : qz p.1 t
 off : p.2.1.2.2.2.2 = false
 fed : Fed u out p
 psi : n + zsi p t ≤ H + 99
 len : out.length + zah p t ≤ 60000
theorem zq6 (p : Pu) (t u : Tm) : AP Tryz.prog T0 9 [puA p,tmA t,tmA u] (B true):=by
 have c2 : True:=trivial
 have c3 : True:=trivial
 have c4 : True:=trivial
 have c5 : True:=trivial
 have c6 : True:=trivial
 have c7 : True:=trivial
 have c8 : True:=trivial
 have c9 : True:=trivial
 have c1:=zj5 (T0:=T0) p
 by_cases hbig : (p.1.2.2.1.length ≤ 2000 ∧ p.2.1.2.1.length ≤ 200 ∧ p.2.2.length ≤ 200) ∧ t.2.2.1.length ≤ 500
 ·have c2:=wk (T0:=T0) p (by omega)
  by_cases hp : x8 p = true
  ·have c2:=ve (T0:=T0) hp
   have c3:=vd (T0:=T0) hp
   have c4 : AP Tryz.prog T0 44 [tmA u,SA (qx p)] (zy [tmA (km u (qx p)).1,SA (km u (qx p)).2.1,I (km u (qx p)).2.2]):=wo _ _ _ _ _ _ _ (by have:=zfc hp; omega)
   have c5 : AP Tryz.prog T0 17 [blA p.1,tmA (km u (qx p)).1] (B (zxr p.1 (km u (qx p)).1)):=zis _ _ _ _ _ _ _ _ _ _ _ _ _
   by_cases hz : p.2.1.2.2.2.2 = false ∧ p.2.1.2.2.2.1 = 0 ∧ p.2.1.2.2.1 = 0 ∧ (km u (qx p)).2.2 = 0 ∧ (km u (qx p)).2.1 = [] ∧ zxr p.1 (km u (qx p)).1 = true
   ·obtain ⟨z1,z2,z3,z4,z5,z6⟩:=hz
    have hu : yt u = true:=by
     cases e : yt u with
     |true=>rfl
     |false =>
      unfold km at z4
      rw [e,if_neg (by decide)] at z4
      cases z4
    have hF : Fed u [] p:=by
     have hcs:=(zv (zm.1 hp).2.1).2.1
     have e : qx p = qo p.2.1.2.1:=by unfold qx; rw [z3]; rfl
     have k:=zc2 (s:=[]) hu hcs zbp
     rw [List.append_nil,← e] at k
     refine ⟨p.2.1.2.1,hcs,by rw [List.nil_append,e], ?_⟩
     rw [k] at z6
     exact of_decide_eq_true z6
    rw [z6] at c5
    rw [z4,z5] at c4
    by_cases hf : qz p.1 t
    ·have hn : p.1.2.2.1.length ≤ 2000:=hbig.1.1
     have hby : zah p t ≤ 60000:=by
      have m:=zgp p.1 t
      have f:=zv (zm.1 hp).2.1
      have h9:=(zc0 hf).2
      unfold zah; omega
     have hH : (p.1.2.1.toNat : Int) = p.1.2.1 ∧ p.1.2.1 ≤ 24:=by
      obtain ⟨_,_,h3,h4⟩:=(zfe (zm.1 hp).1).2.2
      omega
     have H0 : EndP u t p.1.2.1.toNat 0 [] p:=⟨hp,hf,z1,hF,by have:=zto (t:=t) hp z3 z2; omega,by simpa using hby⟩
     have hT : t.2.1 = p.1.2.1:=hf.2.2.2.2.symm
     have z1':=z1
     have z2':=z2
     have z3':=z3
     generalize (km u (qx p)).1 = v at *
     generalize qx p = rq at *
     have smallt : t.2.2.1.length ≤ 500:=hbig.2
     refine za Tryz.func9 rfl (by decide) Tryz.ntmps9 rfl ?_
     repeat' (first
     |refine zfk ?_ | (apply xf 9; (case hB=>decide +kernel); (case hn=>rfl); (case hg=>decide +kernel); (case hm=>kernel_rfl); (case hs=>rfl)) | refine z11 ?_ | (refine qw rfl rfl rfl rfl al_ ?_; intro bn) | (apply qv rfl rfl rfl; (case hx=>exact oo_); (case hz=>exact sz_); (case hy=>exact oo_); (case hc=>exact zc8); (case hl=>rfl); (case h1=>exact vw); (case hU=>exact yd); (case hs=>exact vh)) | (apply zew rfl rfl rfl; (case hy=>exact y_)) | refine zam ?_ | (refine zd ?_ ?_ <;> intro hb <;> try exact no_) | (refine sx_ ?_ <;> intro bb) | (refine su_ ?_ <;> intro u hu1 hu2) | fail)
     all_goals first | (exfalso; simp [z1,z2,z3] at hb; done) | (exfalso; simp [z1,z2,z3] at hb; omega) | skip
     rename_i b3 b4 hh1
     refine ze6 (fun z : Nat × List UInt8 × Pu=>[(3,ptA b3),(4,ptA b4),(5,ptA bb),(10,SA z.2.1),(11,I z.1)]) (fun z=>[qh bb 29 (tmC u),qh b4 29 (tmC t),qh b3 50 (puC z.2.2)]) (fun z=>EndP u t p.1.2.1.toNat z.1 z.2.1 z.2.2) (fun z=>zsi z.2.2 t) (0,[],p) H0 wk_ sl_ ?_
     rintro ⟨n,out,q⟩ H
     simp only at H ⊢
     have hq:=H.ok
     have hqH : q.1.2.1 = p.1.2.1:=H.fits.2.2.2.2.trans hT
     have hpsi:=H.psi
     have hlen:=H.len
     have c1:=wm (T0:=T0) q t 1000000 (zhy hq) (by decide)
     unfold vj at c1
     rw [if_pos ⟨hq,H.fits⟩] at c1
     obtain ⟨r1,r2,r3,r4,r5,r6,r7⟩:=zrs hu hq H.fits H.off H.fed (by have:=(zc0 H.fits).2; omega)
     have kb:=zlf (g:=1000000) hq H.fits
     clear H H0 hF hp hf
     generalize xo q t 1000000 = z at *
     obtain ⟨s,q'⟩:=z
     simp only at c1 r1 r2 r3 r4 r5 r6 r7 kb
     by_cases hz : s = [] ∧ q'.2.1.2.2.2.1 = 0
     ·obtain ⟨hs,h0⟩:=hz
      subst hs
      obtain ⟨e1,e2⟩:=r6 rfl h0
      have c2 : AP Tryz.prog T0 44 [tmA u,SA (out ++ [])] (zy [tmA t,SA [],I 0]):=(wo _ _ _ _ _ _ (out ++ []) (by rw [List.append_nil]; omega)).to (by rw [show km (u.1,u.2.1,u.2.2.1,u.2.2.2.1,u.2.2.2.2.1,u.2.2.2.2.2) (out ++ []) = (t,[],0) from e1])
      have c3:=(wm (T0:=T0) q' t 1 (zhy r1) (by decide)).to (A':=zy [SA [],puA q',I 0]) (by unfold vj; rw [if_pos ⟨r1,r2⟩,zl4 r1 e2])
      have c4:=z4c (T0:=T0) (zyh r1)
      have c5 : AP Tryz.prog T0 45 [tmA t,tmA t] (B true):=(zns _ _ _ _ _ _ _ _ _ _ _ _).to (congrArg B (decide_eq_true rfl))
      have hkl : q'.2.1.2.1.length = 0:=by rw [e2.2.1]; rfl
      clear r1 r2 r3 r4 r5 r6 r7 e1 e2 z6
      repeat' (first
      |refine zfk ?_ | (apply xf 9; (case hB=>decide +kernel); (case hn=>rfl); (case hg=>decide +kernel); (case hm=>kernel_rfl); (case hs=>rfl)) | refine z11 ?_ | (refine qw rfl rfl rfl rfl al_ ?_; intro bn) | (apply qv rfl rfl rfl; (case hx=>exact oo_); (case hz=>exact sz_); (case hy=>exact oo_); (case hc=>exact zc8); (case hl=>rfl); (case h1=>exact vw); (case hU=>exact yd); (case hs=>exact vh)) | (apply zew rfl rfl rfl; (case hy=>exact y_)) | refine zam ?_ | (refine zd ?_ ?_ <;> intro hb <;> try exact no_) | (refine sx_ ?_ <;> intro bb) | (refine su_ ?_ <;> intro u hu1 hu2) | fail)
      all_goals first | (exfalso; simp at hb; done) | (exfalso; omega) | (exfalso; simp [h0] at hb; done) | exact ⟨_,[],rl_,List.nil_sublist _,Sub.eq (congrArg B (by simp [hkl])),rfl⟩ | skip
     ·have c6:=zpn (T0:=T0) q' (zhy r1)
      have hlt:=r7 (by
       by_cases h : s = []
       ·exact .inr fun z=>hz ⟨h,z⟩
       ·exact .inl h)
      have tk:=(zdr r1).2
      have H1 : EndP u t p.1.2.1.toNat (n + 1) (out ++ s) (ky q'):=by
       refine ⟨(zdr r1).1,by rw [tk]; exact r2,by rw [tk]; exact r3, ?_,by omega, ?_⟩
       ·obtain ⟨cs,y1,y2,y3⟩:=r4
        exact ⟨cs,y1,by rw [tk]; exact y2,by rw [tk]; exact y3⟩
       ·rw [zx4 r1,List.length_append]; omega
      clear r1 r2 r3 r4 r5 r6 r7 tk z6
      generalize ky q' = q2 at *
      repeat' (first
      |refine zfk ?_ | (apply xf 9; (case hB=>decide +kernel); (case hn=>rfl); (case hg=>decide +kernel); (case hm=>kernel_rfl); (case hs=>rfl)) | refine z11 ?_ | (refine qw rfl rfl rfl rfl al_ ?_; intro bn) | (apply qv rfl rfl rfl; (case hx=>exact oo_); (case hz=>exact sz_); (case hy=>exact oo_); (case hc=>exact zc8); (case hl=>rfl); (case h1=>exact vw); (case hU=>exact yd); (case hs=>exact vh)) | (apply zew rfl rfl rfl; (case hy=>exact y_)) | refine zam ?_ | (refine zd ?_ ?_ <;> intro hb <;> try exact no_) | (refine sx_ ?_ <;> intro bb) | (refine su_ ?_ <;> intro u hu1 hu2) | fail)
      all_goals first | (exfalso; exact hz ⟨by simpa using hb.1,hb.2⟩) | (exfalso; omega) | (exfalso; simp at hb; done) | exact ⟨(n + 1,out ++ s,q2),H1,by simp only; omega,wk_,sl_⟩ | skip
    ·have c1:=zj5 (T0:=T0) p
     have c6:=wm (T0:=T0) p t 1000000 (by omega) (by decide)
     unfold vj at c6
     rw [if_neg (fun z=>hf z.2)] at c6
     have hh24 : p.1.2.1 ≤ 24 ∧ 0 ≤ p.1.2.1:=by
      obtain ⟨_,_,h3,h4⟩:=(zfe (zm.1 hp).1).2.2
      omega
     generalize (km u (qx p)).1 = v at *
     generalize qx p = rq at *
     clear hF hu
     refine za Tryz.func9 rfl (by decide) Tryz.ntmps9 rfl ?_
     repeat' (first
     |refine zfk ?_ | (apply xf 9; (case hB=>decide +kernel); (case hn=>rfl); (case hg=>decide +kernel); (case hm=>kernel_rfl); (case hs=>rfl)) | refine z11 ?_ | (refine qw rfl rfl rfl rfl al_ ?_; intro bn) | (apply qv rfl rfl rfl; (case hx=>exact oo_); (case hz=>exact sz_); (case hy=>exact oo_); (case hc=>exact zc8); (case hl=>rfl); (case h1=>exact vw); (case hU=>exact yd); (case hs=>exact vh)) | (apply zew rfl rfl rfl; (case hy=>exact y_)) | refine zam ?_ | (refine zd ?_ ?_ <;> intro hb <;> try exact no_) | (refine sx_ ?_ <;> intro bb) | (refine su_ ?_ <;> intro u hu1 hu2) | fail)
     all_goals first | (exfalso; simp [z1,z2,z3] at hb; done) | (exfalso; simp [z1,z2,z3] at hb; omega) | skip
     rename_i b3 b4 hh1
     refine ze6 (fun _ : Unit=>[(3,ptA b3),(4,ptA b4),(5,ptA bb),(10,SA []),(11,I 0)]) (fun _=>[qh bb 29 (tmC u),qh b4 29 (tmC t),qh b3 50 (puC p)]) (fun _=>True) (fun _=>0) () trivial wk_ sl_ ?_
     rintro _ _
     repeat' (first
     |refine zfk ?_ | (apply xf 9; (case hB=>decide +kernel); (case hn=>rfl); (case hg=>decide +kernel); (case hm=>kernel_rfl); (case hs=>rfl)) | refine z11 ?_ | (refine qw rfl rfl rfl rfl al_ ?_; intro bn) | (apply qv rfl rfl rfl; (case hx=>exact oo_); (case hz=>exact sz_); (case hy=>exact oo_); (case hc=>exact zc8); (case hl=>rfl); (case h1=>exact vw); (case hU=>exact yd); (case hs=>exact vh)) | (apply zew rfl rfl rfl; (case hy=>exact y_)) | refine zam ?_ | (refine zd ?_ ?_ <;> intro hb <;> try exact no_) | (refine sx_ ?_ <;> intro bb) | (refine su_ ?_ <;> intro u hu1 hu2) | fail)
     all_goals first | (exfalso; simp at hb; done) | (exfalso; omega) | exact ⟨_,[],rl_,List.nil_sublist _,Sub.eq (congrArg B (by simp)),rfl⟩ | skip
   ·generalize km u (qx p) = fz at *
    obtain ⟨v,rest,e⟩:=fz
    generalize qx p = rq at *
    simp only at c4 c5 hz
    generalize zxr p.1 v = va at *
    refine za Tryz.func9 rfl (by decide) Tryz.ntmps9 rfl ?_
    repeat' (first
    |refine zfk ?_ | (apply xf 9; (case hB=>decide +kernel); (case hn=>rfl); (case hg=>decide +kernel); (case hm=>kernel_rfl); (case hs=>rfl)) | refine z11 ?_ | (refine qw rfl rfl rfl rfl al_ ?_; intro bn) | (apply qv rfl rfl rfl; (case hx=>exact oo_); (case hz=>exact sz_); (case hy=>exact oo_); (case hc=>exact zc8); (case hl=>rfl); (case h1=>exact vw); (case hU=>exact yd); (case hs=>exact vh)) | (apply zew rfl rfl rfl; (case hy=>exact y_)) | refine zam ?_ | (refine zd ?_ ?_ <;> intro hb <;> try exact no_) | (refine sx_ ?_ <;> intro bb) | (refine su_ ?_ <;> intro u hu1 hu2) | fail)
    all_goals first | exact ⟨_,[],rl_,List.nil_sublist _,Sub.refl _,rfl⟩ | skip
    all_goals
     exfalso
     rename_i hh1
     exact hz ⟨hh1.1.1.2,hh1.1.2,hh1.2,hb.1.1,by simpa using hb.1.2,hb.2⟩
  ·rw [show x8 p = false by simpa using hp] at c2
   refine za Tryz.func9 rfl (by decide) Tryz.ntmps9 rfl ?_
   repeat' (first
   |refine zfk ?_ | (apply xf 9; (case hB=>decide +kernel); (case hn=>rfl); (case hg=>decide +kernel); (case hm=>kernel_rfl); (case hs=>rfl)) | refine z11 ?_ | (refine qw rfl rfl rfl rfl al_ ?_; intro bn) | (apply qv rfl rfl rfl; (case hx=>exact oo_); (case hz=>exact sz_); (case hy=>exact oo_); (case hc=>exact zc8); (case hl=>rfl); (case h1=>exact vw); (case hU=>exact yd); (case hs=>exact vh)) | (apply zew rfl rfl rfl; (case hy=>exact y_)) | refine zam ?_ | (refine zd ?_ ?_ <;> intro hb <;> try exact no_) | (refine sx_ ?_ <;> intro bb) | (refine su_ ?_ <;> intro u hu1 hu2) | fail)
   all_goals first | exact z8c | skip
 ·refine za Tryz.func9 rfl (by decide) Tryz.ntmps9 rfl ?_
  repeat' (first
  |refine zfk ?_ | (apply xf 9; (case hB=>decide +kernel); (case hn=>rfl); (case hg=>decide +kernel); (case hm=>kernel_rfl); (case hs=>rfl)) | refine z11 ?_ | (refine qw rfl rfl rfl rfl al_ ?_; intro bn) | (apply qv rfl rfl rfl; (case hx=>exact oo_); (case hz=>exact sz_); (case hy=>exact oo_); (case hc=>exact zc8); (case hl=>rfl); (case h1=>exact vw); (case hU=>exact yd); (case hs=>exact vh)) | (apply zew rfl rfl rfl; (case hy=>exact y_)) | refine zam ?_ | (refine zd ?_ ?_ <;> intro hb <;> try exact no_) | (refine sx_ ?_ <;> intro bb) | (refine su_ ?_ <;> intro u hu1 hu2) | fail)
  all_goals first | exact z8c | skip
end Go.Proofs.YtgfmjmfphmjdkaaGreatDoor
