/- Layer 30 (pump): the law PumpSound. Each step's number is at most 2^63 - 1. -/
import Derived.Test.YtgfmjmfphmjdkaaGreatDoorR3JI
import Derived.Test.YtgfmjmfphmjdkaaGreatDoorR3JM
import Derived.Test.YtgfmjmfphmjdkaaGreatDoorR3J8
set_option linter.unusedSimpArgs false
set_option linter.unusedVariables false
set_option linter.unusedSectionVars false
namespace Go.Proofs.YtgfmjmfphmjdkaaGreatDoor
set_option maxHeartbeats 4000000
open Go Go.RowKit
set_option maxRecDepth 200000
theorem zk {P : Program} {T0 : Gh} {N : Fz} {Q : ko} {fr : Fr} {M : List Own} {id : Nat} {l os : List Oper} (n len : Nat) (hlen : (l.length == len) = true) (hs : l.drop n = os) (hB : z67 .any l.toArray (zb4 (l.length - n) n) n 0 (List.replicate l.length false).toArray = true) (hn : Nat.ble n l.length = true) (hg : ((l.take n).all fun o=>o.guard.isNone) = true) (hm : P.follows .mixedOrders = true)
  (h : AL P T0 N true vb (z54 P T0 N l.toArray M (fun fr' X=>Q .normal fr' (X ++ M)) os) (l.take n) fr M) : AW P T0 N (.region id l.toArray true) Q fr M:=xf n hs hB hn hg hm h
variable {T0 : Gh} [TabS T0] [TabU T0]
attribute [local irreducible] zz zg AW AL AO QY qh z_ rsA Opd xh vA gvA zy qb slA jl ipA rpA EqK LnK IxK LdK FaK FdK
theorem zu8 (a : Int) {b : Nat} (hb : b ≤ 1000000) : Fit .i64 ((zw9 a b : Nat) : Int):=by
 have:=z5f a b hb
 exact zb5
theorem qc8 (l : List Tm) (n : Int) (hl : l.length ≤ 1000) : AP Tryz.prog T0 47 [svA 6 (l.map tmC),I n] (tmA (atT l n)):=by
 have hfit:=zu8 n (b:=1023) (by decide)
 have hlen : (l.map tmC).length = l.length:=List.length_map ..
 by_cases h0 : l = []
 ·subst h0
  have hat : True:=trivial
  refine za Tryz.func47 rfl (by decide) Tryz.ntmps47 rfl ?_
  repeat' (first
  |(with_reducible refine zoc ?_) | refine sa_ ?_ | (refine zd ?_ ?_ <;> intro hb <;> try exact no_) | refine jd ?_ (hy:=by first | (apply zkn rfl; exact oo_; exact oo_; exact hfit) | (apply zpb rfl; exact oo_; exact on_; exact z68 un_ sz_ hat) | (apply kh rfl; exact oo_; exact z66 zku sz_) | (apply zlo rfl; exact oo_; exact zqx un_) | fail) | refine j0 ?_ | refine qj ?_ (hy:=by intro hk hk2; first | (apply zkn rfl; exact oo_; exact oo_; exact hfit) | (apply zpb rfl; exact oo_; exact on_; exact z68 un_ sz_ hat) | (apply kh rfl; exact oo_; exact z66 zku sz_) | (apply zlo rfl; exact oo_; exact zqx un_) | fail)
   |(refine sx_ ?_ <;> intro bb)
   |(refine su_ ?_ <;> intro u hu1 hu2) | refine sw_ ?_
  |fail)
  all_goals first | (exfalso; simp at hb; done) | exact ⟨_,[],rl_,List.nil_sublist _,sn_,rfl⟩ | skip
 ·have hpos : 0 < l.length:=List.length_pos_iff.2 h0
  have hat : (l.map tmC)[zw9 n 1023 % (l.map tmC).length]? = some (tmC (atT l n)):=by
   have hlt : zw9 n 1023 % l.length < l.length:=Nat.mod_lt _ hpos
   rw [hlen,List.getElem?_map,List.getElem?_eq_getElem hlt]
   unfold atT
   rw [List.getD_eq_getElem?_getD,List.getElem?_eq_getElem hlt]
   rfl
  generalize atT l n = z at *
  refine za Tryz.func47 rfl (by decide) Tryz.ntmps47 rfl ?_
  repeat' (first
  |(with_reducible refine zoc ?_) | refine sa_ ?_ | (refine zd ?_ ?_ <;> intro hb <;> try exact no_) | refine jd ?_ (hy:=by first | (apply zkn rfl; exact oo_; exact oo_; exact hfit) | (apply zpb rfl; exact oo_; exact on_; exact z68 un_ sz_ hat) | (apply kh rfl; exact oo_; exact z66 zku sz_) | (apply zlo rfl; exact oo_; exact zqx un_) | fail) | refine j0 ?_ | refine qj ?_ (hy:=by intro hk hk2; first | (apply zkn rfl; exact oo_; exact oo_; exact hfit) | (apply zpb rfl; exact oo_; exact on_; exact z68 un_ sz_ hat) | (apply kh rfl; exact oo_; exact z66 zku sz_) | (apply zlo rfl; exact oo_; exact zqx un_) | fail)
   |(refine sx_ ?_ <;> intro bb)
   |(refine su_ ?_ <;> intro u hu1 hu2) | refine sw_ ?_
  |fail)
  all_goals first | (exfalso; omega) | exact ⟨_,[],rl_,List.nil_sublist _,Sub.refl _,rfl⟩ | skip
theorem zh5 {rest s : List UInt8} {p : Pu} {t t1 v : Tm} (h : Beh rest s p t t1 v) : AP Tryz.prog T0 44 [tmA t,SA (rest ++ s)] (zy [tmA t1,SA (ku p),I 0]):=(wo t.1 t.2.1 t.2.2.1 t.2.2.2.1 t.2.2.2.2.1 t.2.2.2.2.2 (rest ++ s) (by have:=h.len; omega)).to (by rw [show km (t.1,t.2.1,t.2.2.1,t.2.2.2.1,t.2.2.2.2.1,t.2.2.2.2.2) (rest ++ s) = (t1,ku p,0) from h.feed])
theorem zh4 {rest s : List UInt8} {p : Pu} {t t1 v : Tm} (h : Beh rest s p t t1 v) : AP Tryz.prog T0 44 [tmA t1,SA (ku p ++ qx p)] (zy [tmA v,SA [],I 0]):=(wo t1.1 t1.2.1 t1.2.2.1 t1.2.2.2.1 t1.2.2.2.2.1 t1.2.2.2.2.2 (ku p ++ qx p) (by have:=h.len2; omega)).to (by rw [show km (t1.1,t1.2.1,t1.2.2.1,t1.2.2.2.1,t1.2.2.2.2.1,t1.2.2.2.2.2) (ku p ++ qx p) = (v,[],0) from h.feed2])
theorem zh3 {rest s : List UInt8} {p : Pu} {t t1 v : Tm} (h : Beh rest s p t t1 v) : AP Tryz.prog T0 17 [blA p.1,tmA v] (B true):=(zis p.1.1 p.1.2.1 p.1.2.2.1 p.1.2.2.2.1 p.1.2.2.2.2.1 p.1.2.2.2.2.2.1 p.1.2.2.2.2.2.2 v.1 v.2.1 v.2.2.1 v.2.2.2.1 v.2.2.2.2.1 v.2.2.2.2.2).to (congrArg B h.agr)
theorem znj (t : Tm) (wants : List Tm) (l : List Stp) (hl : ∀ s ∈ l,s.2.1 ≤ 9223372036854775807) : AP Tryz.prog T0 10 [tmA t,svA 6 (wants.map tmC),slA stT l] (B true):=by
 have c1:=zvi (T0:=T0) t.1 t.2.1
 have c2 : AP Tryz.prog T0 46 [tmA t] (B (yt t)):=zbd _ _ _ _ _ _
 have c3 : True:=trivial
 have d1 : True:=trivial
 have d2 : True:=trivial
 have d3 : True:=trivial
 have d4 : True:=trivial
 have d5 : True:=trivial
 have hfit : True:=trivial
 have hat : True:=trivial
 have hwl : (wants.map tmC).length = wants.length:=List.length_map ..
 by_cases hbig : (t.2.2.1.length ≤ 500 ∧ wants.length ≤ 20 ∧ l.length ≤ 60) ∧ (ze1 t.1 t.2.1).2 = 0 ∧ yt t = true
 ·obtain ⟨⟨b1,b2,b3⟩,b4,b5⟩:=hbig
  obtain ⟨_,n2,n3⟩:=z27 b5
  rw [b4] at c1
  rw [b5] at c2
  generalize (ze1 t.1 t.2.1).1 = p0 at *
  refine za Tryz.func10 rfl (by decide) Tryz.ntmps10 rfl ?_
  repeat' (first
  |(with_reducible refine zoc ?_)
   |(apply zk 19 23; (case hlen=>rfl); (case hB=>decide +kernel); (case hn=>rfl); (case hg=>decide +kernel); (case hm=>kernel_rfl); (case hs=>rfl))
   |(apply zk 15 18; (case hlen=>rfl); (case hB=>decide +kernel); (case hn=>rfl); (case hg=>decide +kernel); (case hm=>kernel_rfl); (case hs=>rfl))
   |(apply zk 11 15; (case hlen=>rfl); (case hB=>decide +kernel); (case hn=>rfl); (case hg=>decide +kernel); (case hm=>kernel_rfl); (case hs=>rfl))
   |(apply qt; (case h2=>rfl); (case hD=>decide +kernel); (case hB=>decide +kernel); (case hg=>decide +kernel); (case hm=>kernel_rfl); (case hoL=>rfl); (case hod=>rfl)) | refine sa_ ?_ | (refine zd ?_ ?_ <;> intro hb <;> try exact no_) | refine qd ?_ (c:=by first | exact zbe | exact c1 | exact c2 | exact c3 | exact d1 | exact d2 | exact d3 | exact d4 | exact d5 | fail) | refine jd ?_ (hy:=by first | (apply zpb rfl; exact oo_; exact on_; apply zgu un_ el_; exact hat) | (apply zx rfl; exact oo_; exact oo_) | (apply zkn rfl; exact oo_; exact oo_; exact hfit) | (apply zlo rfl; exact oo_; exact zqx un_) | (apply zlo rfl; exact ql; exact zqx un_) | fail) | refine j0 ?_ | refine zr ?_ (c:=by intro hk hk2; first | exact zbe | exact c1 | exact c2 | exact c3 | exact d1 | exact d2 | exact d3 | exact d4 | exact d5 | fail) | refine qj ?_ (hy:=by intro hk hk2; first | (apply zpb rfl; exact oo_; exact on_; apply zgu un_ el_; exact hat) | (apply zx rfl; exact oo_; exact oo_) | (apply zkn rfl; exact oo_; exact oo_; exact hfit) | (apply zlo rfl; exact oo_; exact zqx un_) | (apply zlo rfl; exact ql; exact zqx un_) | fail)
   |(refine sx_ ?_ <;> intro bb)
   |(refine su_ ?_ <;> intro u hu1 hu2) | refine sw_ ?_ | refine zru ?_
  |(refine qw rfl rfl rfl rfl al_ ?_; intro bn)
  |(apply qv rfl rfl rfl; (case hx=>exact oo_); (case hz=>exact sz_); (case hy=>exact oo_); (case hc=>exact zc8); (case hl=>rfl); (case h1=>exact vw); (case hU=>exact yd); (case hs=>exact vh))
  |(apply zew rfl rfl rfl; (case hy=>exact y_)) | refine zam ?_ | refine zrt ?_
  |fail)
  all_goals first | (exfalso; simp at hb; done) | (exfalso; simp at hb; omega) | (exfalso; omega) | skip
  rename_i b9
  refine ze6 (fun z : Nat × Pu × Tm × List UInt8=>[(1,svA 6 (wants.map tmC)),(2,slA stT l),(3,ptA b9),(7,ptA bb),(9,SA z.2.2.2),(10,I z.1)]) (fun z=>[qh bb 50 (puC z.2.1),qh b9 29 (tmC z.2.2.1)]) (fun z=>z.1 ≤ l.length ∧ Snd z.2.1 z.2.2.1 ∧ z.2.2.2 = ku z.2.1) (fun z=>l.length - z.1) (0,p0,t,[]) ⟨by simp only; omega,n2,n3.symm⟩ wk_ sl_ ?_
  rintro ⟨i,p,u,rest⟩ ⟨i1,i2,i3⟩
  simp only at i1 i2 i3 ⊢
  clear n2 n3 c1 c2
  have c1 : True:=trivial
  have c2 : True:=trivial
  by_cases hlt : i < l.length
  ·obtain ⟨⟨k,a,b,s0⟩,hat⟩ : ∃ z,l[i]? = some z:=⟨_,List.getElem?_eq_getElem hlt⟩
   have hA : a ≤ 9223372036854775807:=hl _ (List.mem_of_getElem? hat)
   have hp:=i2.ok
   have small:=zhy hp
   have hfit:=zu8 a (b:=1) (by decide)
   have hbl:=(u7 hp).2
   by_cases k0 : k = 0
   ·subst k0
    have c1:=qc8 (T0:=T0) wants b (by omega)
    have c2:=wm (T0:=T0) p (atT wants b) (min a 10000) small (by omega)
    generalize atT wants b = want at *
    by_cases he : (vj p want (min a 10000)).2.2 = 0
    ·obtain ⟨t1,v,hB⟩:=z05 i2 he (by omega)
     generalize vj p want (min a 10000) = z at *
     obtain ⟨s,p',e'⟩:=z
     simp only at c2 hB he
     subst he
     rw [← i3] at hB
     have d1:=zh5 (T0:=T0) hB
     have d2:=ve (T0:=T0) hB.snd.ok
     have d3:=vd (T0:=T0) hB.snd.ok
     have d4:=zh4 (T0:=T0) hB
     have d5:=zh3 (T0:=T0) hB
     have hS1:=hB.snd
     have hl1:=hB.len
     have hl2:=hB.len2
     rw [List.length_append] at hl1 hl2
     clear hB
     generalize hrq : ku p' = r1 at *
     generalize qx p' = q1 at *
     clear hbl i2 hp hl
     repeat' (first
     |(with_reducible refine zoc ?_)
      |(apply zk 19 23; (case hlen=>rfl); (case hB=>decide +kernel); (case hn=>rfl); (case hg=>decide +kernel); (case hm=>kernel_rfl); (case hs=>rfl))
      |(apply zk 15 18; (case hlen=>rfl); (case hB=>decide +kernel); (case hn=>rfl); (case hg=>decide +kernel); (case hm=>kernel_rfl); (case hs=>rfl))
      |(apply zk 11 15; (case hlen=>rfl); (case hB=>decide +kernel); (case hn=>rfl); (case hg=>decide +kernel); (case hm=>kernel_rfl); (case hs=>rfl))
      |(apply qt; (case h2=>rfl); (case hD=>decide +kernel); (case hB=>decide +kernel); (case hg=>decide +kernel); (case hm=>kernel_rfl); (case hoL=>rfl); (case hod=>rfl)) | refine sa_ ?_ | (refine zd ?_ ?_ <;> intro hb <;> try exact no_) | refine qd ?_ (c:=by first | exact zbe | exact c1 | exact c2 | exact c3 | exact d1 | exact d2 | exact d3 | exact d4 | exact d5 | fail) | refine jd ?_ (hy:=by first | (apply zpb rfl; exact oo_; exact on_; apply zgu un_ el_; exact hat) | (apply zx rfl; exact oo_; exact oo_) | (apply zkn rfl; exact oo_; exact oo_; exact hfit) | (apply zlo rfl; exact oo_; exact zqx un_) | (apply zlo rfl; exact ql; exact zqx un_) | fail) | refine j0 ?_ | refine zr ?_ (c:=by intro hk hk2; first | exact zbe | exact c1 | exact c2 | exact c3 | exact d1 | exact d2 | exact d3 | exact d4 | exact d5 | fail) | refine qj ?_ (hy:=by intro hk hk2; first | (apply zpb rfl; exact oo_; exact on_; apply zgu un_ el_; exact hat) | (apply zx rfl; exact oo_; exact oo_) | (apply zkn rfl; exact oo_; exact oo_; exact hfit) | (apply zlo rfl; exact oo_; exact zqx un_) | (apply zlo rfl; exact ql; exact zqx un_) | fail)
      |(refine sx_ ?_ <;> intro bb)
      |(refine su_ ?_ <;> intro u hu1 hu2) | refine sw_ ?_ | refine zru ?_
     |(refine qw rfl rfl rfl rfl al_ ?_; intro bn)
     |(apply qv rfl rfl rfl; (case hx=>exact oo_); (case hz=>exact sz_); (case hy=>exact oo_); (case hc=>exact zc8); (case hl=>rfl); (case h1=>exact vw); (case hU=>exact yd); (case hs=>exact vh))
     |(apply zew rfl rfl rfl; (case hy=>exact y_)) | refine zam ?_ | refine zrt ?_
     |fail)
     all_goals first | (exfalso; omega) | (exfalso; simp at hb; done) | skip
     exact ⟨(i + 1,p',t1,r1),⟨by simp only; omega,hS1,hrq.symm⟩,by simp only; omega,wk_,sl_⟩
    ·obtain ⟨t1,v,hB⟩:=yo hp ⟨i2,rfl⟩
     generalize vj p want (min a 10000) = z at *
     obtain ⟨s,p9,e'⟩:=z
     simp only at c2 he
     rw [← i3] at hB
     have d1:=zh5 (T0:=T0) hB
     have d2:=ve (T0:=T0) hB.snd.ok
     have d3:=vd (T0:=T0) hB.snd.ok
     have d4:=zh4 (T0:=T0) hB
     have d5:=zh3 (T0:=T0) hB
     have hS1:=hB.snd
     have hl1:=hB.len
     have hl2:=hB.len2
     rw [List.length_append] at hl1 hl2
     clear hB
     generalize hrq : ku p = r1 at *
     generalize qx p = q1 at *
     clear hbl i2 hp hl
     repeat' (first
     |(with_reducible refine zoc ?_)
      |(apply zk 19 23; (case hlen=>rfl); (case hB=>decide +kernel); (case hn=>rfl); (case hg=>decide +kernel); (case hm=>kernel_rfl); (case hs=>rfl))
      |(apply zk 15 18; (case hlen=>rfl); (case hB=>decide +kernel); (case hn=>rfl); (case hg=>decide +kernel); (case hm=>kernel_rfl); (case hs=>rfl))
      |(apply zk 11 15; (case hlen=>rfl); (case hB=>decide +kernel); (case hn=>rfl); (case hg=>decide +kernel); (case hm=>kernel_rfl); (case hs=>rfl))
      |(apply qt; (case h2=>rfl); (case hD=>decide +kernel); (case hB=>decide +kernel); (case hg=>decide +kernel); (case hm=>kernel_rfl); (case hoL=>rfl); (case hod=>rfl)) | refine sa_ ?_ | (refine zd ?_ ?_ <;> intro hb <;> try exact no_) | refine qd ?_ (c:=by first | exact zbe | exact c1 | exact c2 | exact c3 | exact d1 | exact d2 | exact d3 | exact d4 | exact d5 | fail) | refine jd ?_ (hy:=by first | (apply zpb rfl; exact oo_; exact on_; apply zgu un_ el_; exact hat) | (apply zx rfl; exact oo_; exact oo_) | (apply zkn rfl; exact oo_; exact oo_; exact hfit) | (apply zlo rfl; exact oo_; exact zqx un_) | (apply zlo rfl; exact ql; exact zqx un_) | fail) | refine j0 ?_ | refine zr ?_ (c:=by intro hk hk2; first | exact zbe | exact c1 | exact c2 | exact c3 | exact d1 | exact d2 | exact d3 | exact d4 | exact d5 | fail) | refine qj ?_ (hy:=by intro hk hk2; first | (apply zpb rfl; exact oo_; exact on_; apply zgu un_ el_; exact hat) | (apply zx rfl; exact oo_; exact oo_) | (apply zkn rfl; exact oo_; exact oo_; exact hfit) | (apply zlo rfl; exact oo_; exact zqx un_) | (apply zlo rfl; exact ql; exact zqx un_) | fail)
      |(refine sx_ ?_ <;> intro bb)
      |(refine su_ ?_ <;> intro u hu1 hu2) | refine sw_ ?_ | refine zru ?_
     |(refine qw rfl rfl rfl rfl al_ ?_; intro bn)
     |(apply qv rfl rfl rfl; (case hx=>exact oo_); (case hz=>exact sz_); (case hy=>exact oo_); (case hc=>exact zc8); (case hl=>rfl); (case h1=>exact vw); (case hU=>exact yd); (case hs=>exact vh))
     |(apply zew rfl rfl rfl; (case hy=>exact y_)) | refine zam ?_ | refine zrt ?_
     |fail)
     all_goals first | (exfalso; omega) | (exfalso; simp at hb; done) | skip
     exact ⟨(i + 1,p,t1,r1),⟨by simp only; omega,hS1,hrq.symm⟩,by simp only; omega,wk_,sl_⟩
   ·by_cases k1 : k = 1
    ·subst k1
     have c1:=zj4 (T0:=T0) p a small hA
     obtain ⟨t1,v,hB⟩:=z06 (g:=a) i2
     generalize zbv p a = z at *
     obtain ⟨s,p'⟩:=z
     simp only at c1 hB
     rw [← i3] at hB
     have d1:=zh5 (T0:=T0) hB
     have d2:=ve (T0:=T0) hB.snd.ok
     have d3:=vd (T0:=T0) hB.snd.ok
     have d4:=zh4 (T0:=T0) hB
     have d5:=zh3 (T0:=T0) hB
     have hS1:=hB.snd
     have hl1:=hB.len
     have hl2:=hB.len2
     rw [List.length_append] at hl1 hl2
     clear hB
     generalize hrq : ku p' = r1 at *
     generalize qx p' = q1 at *
     clear hbl i2 hp hl
     repeat' (first
     |(with_reducible refine zoc ?_)
      |(apply zk 19 23; (case hlen=>rfl); (case hB=>decide +kernel); (case hn=>rfl); (case hg=>decide +kernel); (case hm=>kernel_rfl); (case hs=>rfl))
      |(apply zk 15 18; (case hlen=>rfl); (case hB=>decide +kernel); (case hn=>rfl); (case hg=>decide +kernel); (case hm=>kernel_rfl); (case hs=>rfl))
      |(apply zk 11 15; (case hlen=>rfl); (case hB=>decide +kernel); (case hn=>rfl); (case hg=>decide +kernel); (case hm=>kernel_rfl); (case hs=>rfl))
      |(apply qt; (case h2=>rfl); (case hD=>decide +kernel); (case hB=>decide +kernel); (case hg=>decide +kernel); (case hm=>kernel_rfl); (case hoL=>rfl); (case hod=>rfl)) | refine sa_ ?_ | (refine zd ?_ ?_ <;> intro hb <;> try exact no_) | refine qd ?_ (c:=by first | exact zbe | exact c1 | exact c2 | exact c3 | exact d1 | exact d2 | exact d3 | exact d4 | exact d5 | fail) | refine jd ?_ (hy:=by first | (apply zpb rfl; exact oo_; exact on_; apply zgu un_ el_; exact hat) | (apply zx rfl; exact oo_; exact oo_) | (apply zkn rfl; exact oo_; exact oo_; exact hfit) | (apply zlo rfl; exact oo_; exact zqx un_) | (apply zlo rfl; exact ql; exact zqx un_) | fail) | refine j0 ?_ | refine zr ?_ (c:=by intro hk hk2; first | exact zbe | exact c1 | exact c2 | exact c3 | exact d1 | exact d2 | exact d3 | exact d4 | exact d5 | fail) | refine qj ?_ (hy:=by intro hk hk2; first | (apply zpb rfl; exact oo_; exact on_; apply zgu un_ el_; exact hat) | (apply zx rfl; exact oo_; exact oo_) | (apply zkn rfl; exact oo_; exact oo_; exact hfit) | (apply zlo rfl; exact oo_; exact zqx un_) | (apply zlo rfl; exact ql; exact zqx un_) | fail)
      |(refine sx_ ?_ <;> intro bb)
      |(refine su_ ?_ <;> intro u hu1 hu2) | refine sw_ ?_ | refine zru ?_
     |(refine qw rfl rfl rfl rfl al_ ?_; intro bn)
     |(apply qv rfl rfl rfl; (case hx=>exact oo_); (case hz=>exact sz_); (case hy=>exact oo_); (case hc=>exact zc8); (case hl=>rfl); (case h1=>exact vw); (case hU=>exact yd); (case hs=>exact vh))
     |(apply zew rfl rfl rfl; (case hy=>exact y_)) | refine zam ?_ | refine zrt ?_
     |fail)
     all_goals first | (exfalso; omega) | (exfalso; simp at hb; done) | skip
     exact ⟨(i + 1,p',t1,r1),⟨by simp only; omega,hS1,hrq.symm⟩,by simp only; omega,wk_,sl_⟩
    ·by_cases k2 : k = 2
     ·subst k2
      have c1:=zfo (T0:=T0) p small
      obtain ⟨t1,v,hB⟩:=yo hp (zjf i2)
      generalize xm p = p' at *
      rw [← i3] at hB
      have d1:=zh5 (T0:=T0) hB
      have d2:=ve (T0:=T0) hB.snd.ok
      have d3:=vd (T0:=T0) hB.snd.ok
      have d4:=zh4 (T0:=T0) hB
      have d5:=zh3 (T0:=T0) hB
      have hS1:=hB.snd
      have hl1:=hB.len
      have hl2:=hB.len2
      rw [List.length_append] at hl1 hl2
      clear hB
      generalize hrq : ku p' = r1 at *
      generalize qx p' = q1 at *
      clear hbl i2 hp hl
      repeat' (first
      |(with_reducible refine zoc ?_)
       |(apply zk 19 23; (case hlen=>rfl); (case hB=>decide +kernel); (case hn=>rfl); (case hg=>decide +kernel); (case hm=>kernel_rfl); (case hs=>rfl))
       |(apply zk 15 18; (case hlen=>rfl); (case hB=>decide +kernel); (case hn=>rfl); (case hg=>decide +kernel); (case hm=>kernel_rfl); (case hs=>rfl))
       |(apply zk 11 15; (case hlen=>rfl); (case hB=>decide +kernel); (case hn=>rfl); (case hg=>decide +kernel); (case hm=>kernel_rfl); (case hs=>rfl))
       |(apply qt; (case h2=>rfl); (case hD=>decide +kernel); (case hB=>decide +kernel); (case hg=>decide +kernel); (case hm=>kernel_rfl); (case hoL=>rfl); (case hod=>rfl)) | refine sa_ ?_ | (refine zd ?_ ?_ <;> intro hb <;> try exact no_) | refine qd ?_ (c:=by first | exact zbe | exact c1 | exact c2 | exact c3 | exact d1 | exact d2 | exact d3 | exact d4 | exact d5 | fail) | refine jd ?_ (hy:=by first | (apply zpb rfl; exact oo_; exact on_; apply zgu un_ el_; exact hat) | (apply zx rfl; exact oo_; exact oo_) | (apply zkn rfl; exact oo_; exact oo_; exact hfit) | (apply zlo rfl; exact oo_; exact zqx un_) | (apply zlo rfl; exact ql; exact zqx un_) | fail) | refine j0 ?_ | refine zr ?_ (c:=by intro hk hk2; first | exact zbe | exact c1 | exact c2 | exact c3 | exact d1 | exact d2 | exact d3 | exact d4 | exact d5 | fail) | refine qj ?_ (hy:=by intro hk hk2; first | (apply zpb rfl; exact oo_; exact on_; apply zgu un_ el_; exact hat) | (apply zx rfl; exact oo_; exact oo_) | (apply zkn rfl; exact oo_; exact oo_; exact hfit) | (apply zlo rfl; exact oo_; exact zqx un_) | (apply zlo rfl; exact ql; exact zqx un_) | fail)
       |(refine sx_ ?_ <;> intro bb)
       |(refine su_ ?_ <;> intro u hu1 hu2) | refine sw_ ?_ | refine zru ?_
      |(refine qw rfl rfl rfl rfl al_ ?_; intro bn)
      |(apply qv rfl rfl rfl; (case hx=>exact oo_); (case hz=>exact sz_); (case hy=>exact oo_); (case hc=>exact zc8); (case hl=>rfl); (case h1=>exact vw); (case hU=>exact yd); (case hs=>exact vh))
      |(apply zew rfl rfl rfl; (case hy=>exact y_)) | refine zam ?_ | refine zrt ?_
      |fail)
      all_goals first | (exfalso; omega) | (exfalso; simp at hb; done) | skip
      exact ⟨(i + 1,p',t1,r1),⟨by simp only; omega,hS1,hrq.symm⟩,by simp only; omega,wk_,sl_⟩
     ·by_cases k3 : k = 3
      ·subst k3
       have c1:=zpr (T0:=T0) p small
       obtain ⟨t1,v,hB⟩:=yo hp (zyg i2)
       generalize zep p = p' at *
       rw [← i3] at hB
       have d1:=zh5 (T0:=T0) hB
       have d2:=ve (T0:=T0) hB.snd.ok
       have d3:=vd (T0:=T0) hB.snd.ok
       have d4:=zh4 (T0:=T0) hB
       have d5:=zh3 (T0:=T0) hB
       have hS1:=hB.snd
       have hl1:=hB.len
       have hl2:=hB.len2
       rw [List.length_append] at hl1 hl2
       clear hB
       generalize hrq : ku p' = r1 at *
       generalize qx p' = q1 at *
       clear hbl i2 hp hl
       repeat' (first
       |(with_reducible refine zoc ?_)
        |(apply zk 19 23; (case hlen=>rfl); (case hB=>decide +kernel); (case hn=>rfl); (case hg=>decide +kernel); (case hm=>kernel_rfl); (case hs=>rfl))
        |(apply zk 15 18; (case hlen=>rfl); (case hB=>decide +kernel); (case hn=>rfl); (case hg=>decide +kernel); (case hm=>kernel_rfl); (case hs=>rfl))
        |(apply zk 11 15; (case hlen=>rfl); (case hB=>decide +kernel); (case hn=>rfl); (case hg=>decide +kernel); (case hm=>kernel_rfl); (case hs=>rfl))
        |(apply qt; (case h2=>rfl); (case hD=>decide +kernel); (case hB=>decide +kernel); (case hg=>decide +kernel); (case hm=>kernel_rfl); (case hoL=>rfl); (case hod=>rfl)) | refine sa_ ?_ | (refine zd ?_ ?_ <;> intro hb <;> try exact no_) | refine qd ?_ (c:=by first | exact zbe | exact c1 | exact c2 | exact c3 | exact d1 | exact d2 | exact d3 | exact d4 | exact d5 | fail) | refine jd ?_ (hy:=by first | (apply zpb rfl; exact oo_; exact on_; apply zgu un_ el_; exact hat) | (apply zx rfl; exact oo_; exact oo_) | (apply zkn rfl; exact oo_; exact oo_; exact hfit) | (apply zlo rfl; exact oo_; exact zqx un_) | (apply zlo rfl; exact ql; exact zqx un_) | fail) | refine j0 ?_ | refine zr ?_ (c:=by intro hk hk2; first | exact zbe | exact c1 | exact c2 | exact c3 | exact d1 | exact d2 | exact d3 | exact d4 | exact d5 | fail) | refine qj ?_ (hy:=by intro hk hk2; first | (apply zpb rfl; exact oo_; exact on_; apply zgu un_ el_; exact hat) | (apply zx rfl; exact oo_; exact oo_) | (apply zkn rfl; exact oo_; exact oo_; exact hfit) | (apply zlo rfl; exact oo_; exact zqx un_) | (apply zlo rfl; exact ql; exact zqx un_) | fail)
        |(refine sx_ ?_ <;> intro bb)
        |(refine su_ ?_ <;> intro u hu1 hu2) | refine sw_ ?_ | refine zru ?_
       |(refine qw rfl rfl rfl rfl al_ ?_; intro bn)
       |(apply qv rfl rfl rfl; (case hx=>exact oo_); (case hz=>exact sz_); (case hy=>exact oo_); (case hc=>exact zc8); (case hl=>rfl); (case h1=>exact vw); (case hU=>exact yd); (case hs=>exact vh))
       |(apply zew rfl rfl rfl; (case hy=>exact y_)) | refine zam ?_ | refine zrt ?_
       |fail)
       all_goals first | (exfalso; omega) | (exfalso; simp at hb; done) | skip
       exact ⟨(i + 1,p',t1,r1),⟨by simp only; omega,hS1,hrq.symm⟩,by simp only; omega,wk_,sl_⟩
      ·by_cases k4 : k = 4
       ·subst k4
        have c1:=zpn (T0:=T0) p small
        obtain ⟨t1,v,hB⟩:=yo hp (zyb i2)
        generalize ky p = p' at *
        rw [← i3] at hB
        have d1:=zh5 (T0:=T0) hB
        have d2:=ve (T0:=T0) hB.snd.ok
        have d3:=vd (T0:=T0) hB.snd.ok
        have d4:=zh4 (T0:=T0) hB
        have d5:=zh3 (T0:=T0) hB
        have hS1:=hB.snd
        have hl1:=hB.len
        have hl2:=hB.len2
        rw [List.length_append] at hl1 hl2
        clear hB
        generalize hrq : ku p' = r1 at *
        generalize qx p' = q1 at *
        clear hbl i2 hp hl
        repeat' (first
        |(with_reducible refine zoc ?_)
         |(apply zk 19 23; (case hlen=>rfl); (case hB=>decide +kernel); (case hn=>rfl); (case hg=>decide +kernel); (case hm=>kernel_rfl); (case hs=>rfl))
         |(apply zk 15 18; (case hlen=>rfl); (case hB=>decide +kernel); (case hn=>rfl); (case hg=>decide +kernel); (case hm=>kernel_rfl); (case hs=>rfl))
         |(apply zk 11 15; (case hlen=>rfl); (case hB=>decide +kernel); (case hn=>rfl); (case hg=>decide +kernel); (case hm=>kernel_rfl); (case hs=>rfl))
         |(apply qt; (case h2=>rfl); (case hD=>decide +kernel); (case hB=>decide +kernel); (case hg=>decide +kernel); (case hm=>kernel_rfl); (case hoL=>rfl); (case hod=>rfl)) | refine sa_ ?_ | (refine zd ?_ ?_ <;> intro hb <;> try exact no_) | refine qd ?_ (c:=by first | exact zbe | exact c1 | exact c2 | exact c3 | exact d1 | exact d2 | exact d3 | exact d4 | exact d5 | fail) | refine jd ?_ (hy:=by first | (apply zpb rfl; exact oo_; exact on_; apply zgu un_ el_; exact hat) | (apply zx rfl; exact oo_; exact oo_) | (apply zkn rfl; exact oo_; exact oo_; exact hfit) | (apply zlo rfl; exact oo_; exact zqx un_) | (apply zlo rfl; exact ql; exact zqx un_) | fail) | refine j0 ?_ | refine zr ?_ (c:=by intro hk hk2; first | exact zbe | exact c1 | exact c2 | exact c3 | exact d1 | exact d2 | exact d3 | exact d4 | exact d5 | fail) | refine qj ?_ (hy:=by intro hk hk2; first | (apply zpb rfl; exact oo_; exact on_; apply zgu un_ el_; exact hat) | (apply zx rfl; exact oo_; exact oo_) | (apply zkn rfl; exact oo_; exact oo_; exact hfit) | (apply zlo rfl; exact oo_; exact zqx un_) | (apply zlo rfl; exact ql; exact zqx un_) | fail)
         |(refine sx_ ?_ <;> intro bb)
         |(refine su_ ?_ <;> intro u hu1 hu2) | refine sw_ ?_ | refine zru ?_
        |(refine qw rfl rfl rfl rfl al_ ?_; intro bn)
        |(apply qv rfl rfl rfl; (case hx=>exact oo_); (case hz=>exact sz_); (case hy=>exact oo_); (case hc=>exact zc8); (case hl=>rfl); (case h1=>exact vw); (case hU=>exact yd); (case hs=>exact vh))
        |(apply zew rfl rfl rfl; (case hy=>exact y_)) | refine zam ?_ | refine zrt ?_
        |fail)
        all_goals first | (exfalso; omega) | (exfalso; simp at hb; done) | skip
        exact ⟨(i + 1,p',t1,r1),⟨by simp only; omega,hS1,hrq.symm⟩,by simp only; omega,wk_,sl_⟩
       ·by_cases k5 : k = 5
        ·subst k5
         have c1:=zpq (T0:=T0) p (decide (((zw9 a 1 : Nat) : Int) = 1)) small
         rw [zut hp] at c1
         obtain ⟨t1,v,hB⟩:=yo hp (zye (off:=decide (((zw9 a 1 : Nat) : Int) = 1)) i2)
         generalize zim p (decide (((zw9 a 1 : Nat) : Int) = 1)) = p' at *
         rw [← i3] at hB
         have d1:=zh5 (T0:=T0) hB
         have d2:=ve (T0:=T0) hB.snd.ok
         have d3:=vd (T0:=T0) hB.snd.ok
         have d4:=zh4 (T0:=T0) hB
         have d5:=zh3 (T0:=T0) hB
         have hS1:=hB.snd
         have hl1:=hB.len
         have hl2:=hB.len2
         rw [List.length_append] at hl1 hl2
         clear hB
         generalize hrq : ku p' = r1 at *
         generalize qx p' = q1 at *
         clear hbl i2 hp hl
         repeat' (first
         |(with_reducible refine zoc ?_)
          |(apply zk 19 23; (case hlen=>rfl); (case hB=>decide +kernel); (case hn=>rfl); (case hg=>decide +kernel); (case hm=>kernel_rfl); (case hs=>rfl))
          |(apply zk 15 18; (case hlen=>rfl); (case hB=>decide +kernel); (case hn=>rfl); (case hg=>decide +kernel); (case hm=>kernel_rfl); (case hs=>rfl))
          |(apply zk 11 15; (case hlen=>rfl); (case hB=>decide +kernel); (case hn=>rfl); (case hg=>decide +kernel); (case hm=>kernel_rfl); (case hs=>rfl))
          |(apply qt; (case h2=>rfl); (case hD=>decide +kernel); (case hB=>decide +kernel); (case hg=>decide +kernel); (case hm=>kernel_rfl); (case hoL=>rfl); (case hod=>rfl)) | refine sa_ ?_ | (refine zd ?_ ?_ <;> intro hb <;> try exact no_) | refine qd ?_ (c:=by first | exact zbe | exact c1 | exact c2 | exact c3 | exact d1 | exact d2 | exact d3 | exact d4 | exact d5 | fail) | refine jd ?_ (hy:=by first | (apply zpb rfl; exact oo_; exact on_; apply zgu un_ el_; exact hat) | (apply zx rfl; exact oo_; exact oo_) | (apply zkn rfl; exact oo_; exact oo_; exact hfit) | (apply zlo rfl; exact oo_; exact zqx un_) | (apply zlo rfl; exact ql; exact zqx un_) | fail) | refine j0 ?_ | refine zr ?_ (c:=by intro hk hk2; first | exact zbe | exact c1 | exact c2 | exact c3 | exact d1 | exact d2 | exact d3 | exact d4 | exact d5 | fail) | refine qj ?_ (hy:=by intro hk hk2; first | (apply zpb rfl; exact oo_; exact on_; apply zgu un_ el_; exact hat) | (apply zx rfl; exact oo_; exact oo_) | (apply zkn rfl; exact oo_; exact oo_; exact hfit) | (apply zlo rfl; exact oo_; exact zqx un_) | (apply zlo rfl; exact ql; exact zqx un_) | fail)
          |(refine sx_ ?_ <;> intro bb)
          |(refine su_ ?_ <;> intro u hu1 hu2) | refine sw_ ?_ | refine zru ?_
         |(refine qw rfl rfl rfl rfl al_ ?_; intro bn)
         |(apply qv rfl rfl rfl; (case hx=>exact oo_); (case hz=>exact sz_); (case hy=>exact oo_); (case hc=>exact zc8); (case hl=>rfl); (case h1=>exact vw); (case hU=>exact yd); (case hs=>exact vh))
         |(apply zew rfl rfl rfl; (case hy=>exact y_)) | refine zam ?_ | refine zrt ?_
         |fail)
         all_goals first | (exfalso; omega) | (exfalso; simp at hb; done) | skip
         exact ⟨(i + 1,p',t1,r1),⟨by simp only; omega,hS1,hrq.symm⟩,by simp only; omega,wk_,sl_⟩
        ·by_cases k6 : k = 6
         ·subst k6
          have c1:=zpo (T0:=T0) p a b small
          have c2 : AP Tryz.prog T0 48 [tmA u,I a,I b] (zy [tmA (wb u a b).1,I (wb u a b).2]):=zlz _ _ _ _ _ _ _ _
          rw [zs_ i2] at c2
          by_cases he : (vi p a b).2 = 0
          ·obtain ⟨t1,v,hB⟩:=z04 i2 he
           rw [he] at c2
           generalize vi p a b = z at *
           generalize wb u a b = y at *
           obtain ⟨p',e'⟩:=z
           obtain ⟨u',e2⟩:=y
           simp only at c1 c2 hB he
           subst he
           rw [← i3] at hB
           have d1:=zh5 (T0:=T0) hB
           have d2:=ve (T0:=T0) hB.snd.ok
           have d3:=vd (T0:=T0) hB.snd.ok
           have d4:=zh4 (T0:=T0) hB
           have d5:=zh3 (T0:=T0) hB
           have hS1:=hB.snd
           have hl1:=hB.len
           have hl2:=hB.len2
           rw [List.length_append] at hl1 hl2
           clear hB
           generalize hrq : ku p' = r1 at *
           generalize qx p' = q1 at *
           clear hbl i2 hp hl
           repeat' (first
           |(with_reducible refine zoc ?_)
            |(apply zk 19 23; (case hlen=>rfl); (case hB=>decide +kernel); (case hn=>rfl); (case hg=>decide +kernel); (case hm=>kernel_rfl); (case hs=>rfl))
            |(apply zk 15 18; (case hlen=>rfl); (case hB=>decide +kernel); (case hn=>rfl); (case hg=>decide +kernel); (case hm=>kernel_rfl); (case hs=>rfl))
            |(apply zk 11 15; (case hlen=>rfl); (case hB=>decide +kernel); (case hn=>rfl); (case hg=>decide +kernel); (case hm=>kernel_rfl); (case hs=>rfl))
            |(apply qt; (case h2=>rfl); (case hD=>decide +kernel); (case hB=>decide +kernel); (case hg=>decide +kernel); (case hm=>kernel_rfl); (case hoL=>rfl); (case hod=>rfl)) | refine sa_ ?_ | (refine zd ?_ ?_ <;> intro hb <;> try exact no_) | refine qd ?_ (c:=by first | exact zbe | exact c1 | exact c2 | exact c3 | exact d1 | exact d2 | exact d3 | exact d4 | exact d5 | fail) | refine jd ?_ (hy:=by first | (apply zpb rfl; exact oo_; exact on_; apply zgu un_ el_; exact hat) | (apply zx rfl; exact oo_; exact oo_) | (apply zkn rfl; exact oo_; exact oo_; exact hfit) | (apply zlo rfl; exact oo_; exact zqx un_) | (apply zlo rfl; exact ql; exact zqx un_) | fail) | refine j0 ?_ | refine zr ?_ (c:=by intro hk hk2; first | exact zbe | exact c1 | exact c2 | exact c3 | exact d1 | exact d2 | exact d3 | exact d4 | exact d5 | fail) | refine qj ?_ (hy:=by intro hk hk2; first | (apply zpb rfl; exact oo_; exact on_; apply zgu un_ el_; exact hat) | (apply zx rfl; exact oo_; exact oo_) | (apply zkn rfl; exact oo_; exact oo_; exact hfit) | (apply zlo rfl; exact oo_; exact zqx un_) | (apply zlo rfl; exact ql; exact zqx un_) | fail)
            |(refine sx_ ?_ <;> intro bb)
            |(refine su_ ?_ <;> intro u hu1 hu2) | refine sw_ ?_ | refine zru ?_
           |(refine qw rfl rfl rfl rfl al_ ?_; intro bn)
           |(apply qv rfl rfl rfl; (case hx=>exact oo_); (case hz=>exact sz_); (case hy=>exact oo_); (case hc=>exact zc8); (case hl=>rfl); (case h1=>exact vw); (case hU=>exact yd); (case hs=>exact vh))
           |(apply zew rfl rfl rfl; (case hy=>exact y_)) | refine zam ?_ | refine zrt ?_
           |fail)
           all_goals first | (exfalso; omega) | (exfalso; simp at hb; done) | skip
           exact ⟨(i + 1,p',t1,r1),⟨by simp only; omega,hS1,hrq.symm⟩,by simp only; omega,wk_,sl_⟩
          ·obtain ⟨t1,v,hB⟩:=yo hp ⟨i2,rfl⟩
           generalize vi p a b = z at *
           generalize wb u a b = y at *
           obtain ⟨p9,e'⟩:=z
           obtain ⟨u',e2⟩:=y
           simp only at c1 c2 he
           rw [← i3] at hB
           have d1:=zh5 (T0:=T0) hB
           have d2:=ve (T0:=T0) hB.snd.ok
           have d3:=vd (T0:=T0) hB.snd.ok
           have d4:=zh4 (T0:=T0) hB
           have d5:=zh3 (T0:=T0) hB
           have hS1:=hB.snd
           have hl1:=hB.len
           have hl2:=hB.len2
           rw [List.length_append] at hl1 hl2
           clear hB
           generalize hrq : ku p = r1 at *
           generalize qx p = q1 at *
           clear hbl i2 hp hl
           repeat' (first
           |(with_reducible refine zoc ?_)
            |(apply zk 19 23; (case hlen=>rfl); (case hB=>decide +kernel); (case hn=>rfl); (case hg=>decide +kernel); (case hm=>kernel_rfl); (case hs=>rfl))
            |(apply zk 15 18; (case hlen=>rfl); (case hB=>decide +kernel); (case hn=>rfl); (case hg=>decide +kernel); (case hm=>kernel_rfl); (case hs=>rfl))
            |(apply zk 11 15; (case hlen=>rfl); (case hB=>decide +kernel); (case hn=>rfl); (case hg=>decide +kernel); (case hm=>kernel_rfl); (case hs=>rfl))
            |(apply qt; (case h2=>rfl); (case hD=>decide +kernel); (case hB=>decide +kernel); (case hg=>decide +kernel); (case hm=>kernel_rfl); (case hoL=>rfl); (case hod=>rfl)) | refine sa_ ?_ | (refine zd ?_ ?_ <;> intro hb <;> try exact no_) | refine qd ?_ (c:=by first | exact zbe | exact c1 | exact c2 | exact c3 | exact d1 | exact d2 | exact d3 | exact d4 | exact d5 | fail) | refine jd ?_ (hy:=by first | (apply zpb rfl; exact oo_; exact on_; apply zgu un_ el_; exact hat) | (apply zx rfl; exact oo_; exact oo_) | (apply zkn rfl; exact oo_; exact oo_; exact hfit) | (apply zlo rfl; exact oo_; exact zqx un_) | (apply zlo rfl; exact ql; exact zqx un_) | fail) | refine j0 ?_ | refine zr ?_ (c:=by intro hk hk2; first | exact zbe | exact c1 | exact c2 | exact c3 | exact d1 | exact d2 | exact d3 | exact d4 | exact d5 | fail) | refine qj ?_ (hy:=by intro hk hk2; first | (apply zpb rfl; exact oo_; exact on_; apply zgu un_ el_; exact hat) | (apply zx rfl; exact oo_; exact oo_) | (apply zkn rfl; exact oo_; exact oo_; exact hfit) | (apply zlo rfl; exact oo_; exact zqx un_) | (apply zlo rfl; exact ql; exact zqx un_) | fail)
            |(refine sx_ ?_ <;> intro bb)
            |(refine su_ ?_ <;> intro u hu1 hu2) | refine sw_ ?_ | refine zru ?_
           |(refine qw rfl rfl rfl rfl al_ ?_; intro bn)
           |(apply qv rfl rfl rfl; (case hx=>exact oo_); (case hz=>exact sz_); (case hy=>exact oo_); (case hc=>exact zc8); (case hl=>rfl); (case h1=>exact vw); (case hU=>exact yd); (case hs=>exact vh))
           |(apply zew rfl rfl rfl; (case hy=>exact y_)) | refine zam ?_ | refine zrt ?_
           |fail)
           all_goals first | (exfalso; omega) | (exfalso; simp at hb; done) | skip
           exact ⟨(i + 1,p,t1,r1),⟨by simp only; omega,hS1,hrq.symm⟩,by simp only; omega,wk_,sl_⟩
         ·obtain ⟨t1,v,hB⟩:=yo hp ⟨i2,rfl⟩
          rw [← i3] at hB
          have d1:=zh5 (T0:=T0) hB
          have d2:=ve (T0:=T0) hB.snd.ok
          have d3:=vd (T0:=T0) hB.snd.ok
          have d4:=zh4 (T0:=T0) hB
          have d5:=zh3 (T0:=T0) hB
          have hS1:=hB.snd
          have hl1:=hB.len
          have hl2:=hB.len2
          rw [List.length_append] at hl1 hl2
          clear hB
          generalize hrq : ku p = r1 at *
          generalize qx p = q1 at *
          clear hbl i2 hp hl
          repeat' (first
          |(with_reducible refine zoc ?_)
           |(apply zk 19 23; (case hlen=>rfl); (case hB=>decide +kernel); (case hn=>rfl); (case hg=>decide +kernel); (case hm=>kernel_rfl); (case hs=>rfl))
           |(apply zk 15 18; (case hlen=>rfl); (case hB=>decide +kernel); (case hn=>rfl); (case hg=>decide +kernel); (case hm=>kernel_rfl); (case hs=>rfl))
           |(apply zk 11 15; (case hlen=>rfl); (case hB=>decide +kernel); (case hn=>rfl); (case hg=>decide +kernel); (case hm=>kernel_rfl); (case hs=>rfl))
           |(apply qt; (case h2=>rfl); (case hD=>decide +kernel); (case hB=>decide +kernel); (case hg=>decide +kernel); (case hm=>kernel_rfl); (case hoL=>rfl); (case hod=>rfl)) | refine sa_ ?_ | (refine zd ?_ ?_ <;> intro hb <;> try exact no_) | refine qd ?_ (c:=by first | exact zbe | exact c1 | exact c2 | exact c3 | exact d1 | exact d2 | exact d3 | exact d4 | exact d5 | fail) | refine jd ?_ (hy:=by first | (apply zpb rfl; exact oo_; exact on_; apply zgu un_ el_; exact hat) | (apply zx rfl; exact oo_; exact oo_) | (apply zkn rfl; exact oo_; exact oo_; exact hfit) | (apply zlo rfl; exact oo_; exact zqx un_) | (apply zlo rfl; exact ql; exact zqx un_) | fail) | refine j0 ?_ | refine zr ?_ (c:=by intro hk hk2; first | exact zbe | exact c1 | exact c2 | exact c3 | exact d1 | exact d2 | exact d3 | exact d4 | exact d5 | fail) | refine qj ?_ (hy:=by intro hk hk2; first | (apply zpb rfl; exact oo_; exact on_; apply zgu un_ el_; exact hat) | (apply zx rfl; exact oo_; exact oo_) | (apply zkn rfl; exact oo_; exact oo_; exact hfit) | (apply zlo rfl; exact oo_; exact zqx un_) | (apply zlo rfl; exact ql; exact zqx un_) | fail)
           |(refine sx_ ?_ <;> intro bb)
           |(refine su_ ?_ <;> intro u hu1 hu2) | refine sw_ ?_ | refine zru ?_
          |(refine qw rfl rfl rfl rfl al_ ?_; intro bn)
          |(apply qv rfl rfl rfl; (case hx=>exact oo_); (case hz=>exact sz_); (case hy=>exact oo_); (case hc=>exact zc8); (case hl=>rfl); (case h1=>exact vw); (case hU=>exact yd); (case hs=>exact vh))
          |(apply zew rfl rfl rfl; (case hy=>exact y_)) | refine zam ?_ | refine zrt ?_
          |fail)
          all_goals first | (exfalso; omega) | (exfalso; simp at hb; done) | skip
          exact ⟨(i + 1,p,t1,r1),⟨by simp only; omega,hS1,hrq.symm⟩,by simp only; omega,wk_,sl_⟩
  ·have hat : True:=trivial
   repeat' (first
   |(with_reducible refine zoc ?_)
    |(apply zk 19 23; (case hlen=>rfl); (case hB=>decide +kernel); (case hn=>rfl); (case hg=>decide +kernel); (case hm=>kernel_rfl); (case hs=>rfl))
    |(apply zk 15 18; (case hlen=>rfl); (case hB=>decide +kernel); (case hn=>rfl); (case hg=>decide +kernel); (case hm=>kernel_rfl); (case hs=>rfl))
    |(apply zk 11 15; (case hlen=>rfl); (case hB=>decide +kernel); (case hn=>rfl); (case hg=>decide +kernel); (case hm=>kernel_rfl); (case hs=>rfl))
    |(apply qt; (case h2=>rfl); (case hD=>decide +kernel); (case hB=>decide +kernel); (case hg=>decide +kernel); (case hm=>kernel_rfl); (case hoL=>rfl); (case hod=>rfl)) | refine sa_ ?_ | (refine zd ?_ ?_ <;> intro hb <;> try exact no_) | refine qd ?_ (c:=by first | exact zbe | exact c1 | exact c2 | exact c3 | exact d1 | exact d2 | exact d3 | exact d4 | exact d5 | fail) | refine jd ?_ (hy:=by first | (apply zpb rfl; exact oo_; exact on_; apply zgu un_ el_; exact hat) | (apply zx rfl; exact oo_; exact oo_) | (apply zkn rfl; exact oo_; exact oo_; exact hfit) | (apply zlo rfl; exact oo_; exact zqx un_) | (apply zlo rfl; exact ql; exact zqx un_) | fail) | refine j0 ?_ | refine zr ?_ (c:=by intro hk hk2; first | exact zbe | exact c1 | exact c2 | exact c3 | exact d1 | exact d2 | exact d3 | exact d4 | exact d5 | fail) | refine qj ?_ (hy:=by intro hk hk2; first | (apply zpb rfl; exact oo_; exact on_; apply zgu un_ el_; exact hat) | (apply zx rfl; exact oo_; exact oo_) | (apply zkn rfl; exact oo_; exact oo_; exact hfit) | (apply zlo rfl; exact oo_; exact zqx un_) | (apply zlo rfl; exact ql; exact zqx un_) | fail)
    |(refine sx_ ?_ <;> intro bb)
    |(refine su_ ?_ <;> intro u hu1 hu2) | refine sw_ ?_ | refine zru ?_
   |(refine qw rfl rfl rfl rfl al_ ?_; intro bn)
   |(apply qv rfl rfl rfl; (case hx=>exact oo_); (case hz=>exact sz_); (case hy=>exact oo_); (case hc=>exact zc8); (case hl=>rfl); (case h1=>exact vw); (case hU=>exact yd); (case hs=>exact vh))
   |(apply zew rfl rfl rfl; (case hy=>exact y_)) | refine zam ?_ | refine zrt ?_
   |fail)
   all_goals first | (exfalso; omega) | exact ⟨_,[],rl_,List.nil_sublist _,Sub.refl _,rfl⟩ | skip
 ·generalize ze1 t.1 t.2.1 = z at *
  generalize yt t = v at *
  obtain ⟨p0,e0⟩:=z
  simp only at c1 hbig
  refine za Tryz.func10 rfl (by decide) Tryz.ntmps10 rfl ?_
  repeat' (first
  |(with_reducible refine zoc ?_)
   |(apply zk 19 23; (case hlen=>rfl); (case hB=>decide +kernel); (case hn=>rfl); (case hg=>decide +kernel); (case hm=>kernel_rfl); (case hs=>rfl))
   |(apply zk 15 18; (case hlen=>rfl); (case hB=>decide +kernel); (case hn=>rfl); (case hg=>decide +kernel); (case hm=>kernel_rfl); (case hs=>rfl))
   |(apply zk 11 15; (case hlen=>rfl); (case hB=>decide +kernel); (case hn=>rfl); (case hg=>decide +kernel); (case hm=>kernel_rfl); (case hs=>rfl))
   |(apply qt; (case h2=>rfl); (case hD=>decide +kernel); (case hB=>decide +kernel); (case hg=>decide +kernel); (case hm=>kernel_rfl); (case hoL=>rfl); (case hod=>rfl)) | refine sa_ ?_ | (refine zd ?_ ?_ <;> intro hb <;> try exact no_) | refine qd ?_ (c:=by first | exact zbe | exact c1 | exact c2 | exact c3 | exact d1 | exact d2 | exact d3 | exact d4 | exact d5 | fail) | refine jd ?_ (hy:=by first | (apply zpb rfl; exact oo_; exact on_; apply zgu un_ el_; exact hat) | (apply zx rfl; exact oo_; exact oo_) | (apply zkn rfl; exact oo_; exact oo_; exact hfit) | (apply zlo rfl; exact oo_; exact zqx un_) | (apply zlo rfl; exact ql; exact zqx un_) | fail) | refine j0 ?_ | refine zr ?_ (c:=by intro hk hk2; first | exact zbe | exact c1 | exact c2 | exact c3 | exact d1 | exact d2 | exact d3 | exact d4 | exact d5 | fail) | refine qj ?_ (hy:=by intro hk hk2; first | (apply zpb rfl; exact oo_; exact on_; apply zgu un_ el_; exact hat) | (apply zx rfl; exact oo_; exact oo_) | (apply zkn rfl; exact oo_; exact oo_; exact hfit) | (apply zlo rfl; exact oo_; exact zqx un_) | (apply zlo rfl; exact ql; exact zqx un_) | fail)
   |(refine sx_ ?_ <;> intro bb)
   |(refine su_ ?_ <;> intro u hu1 hu2) | refine sw_ ?_ | refine zru ?_
  |(refine qw rfl rfl rfl rfl al_ ?_; intro bn)
  |(apply qv rfl rfl rfl; (case hx=>exact oo_); (case hz=>exact sz_); (case hy=>exact oo_); (case hc=>exact zc8); (case hl=>rfl); (case h1=>exact vw); (case hU=>exact yd); (case hs=>exact vh))
  |(apply zew rfl rfl rfl; (case hy=>exact y_)) | refine zam ?_ | refine zrt ?_
  |fail)
  all_goals first | exact ⟨_,[],rl_,List.nil_sublist _,Sub.refl _,rfl⟩ | skip
  all_goals
   exfalso
   simp at hb
   obtain ⟨⟨⟨⟨h1,h2⟩,h3⟩,h4⟩,h5⟩:=hb
   exact hbig ⟨⟨by omega,by omega,by omega⟩,h4,h5⟩
end Go.Proofs.YtgfmjmfphmjdkaaGreatDoor
