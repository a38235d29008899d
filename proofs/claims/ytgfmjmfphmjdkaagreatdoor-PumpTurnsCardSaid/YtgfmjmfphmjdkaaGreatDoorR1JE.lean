/- Layer 30 (pump): to fill, an idle pump, a pump that pushes, by the reference. No condition. -/
import Derived.Test.YtgfmjmfphmjdkaaGreatDoorR1JA
import Derived.Test.YtgfmjmfphmjdkaaGreatDoorR1LE
import Derived.Test.YtgfmjmfphmjdkaaGreatDoorR1JD
set_option linter.unusedSimpArgs false
set_option linter.unusedVariables false
set_option linter.unusedSectionVars false
namespace Go.Proofs.YtgfmjmfphmjdkaaGreatDoor
set_option maxHeartbeats 4000000
open Go Go.RowKit
set_option maxRecDepth 200000
abbrev puU (p : Pu) (u : Value) : List AV:=[I p.1.1,I p.1.2.1,slA guT p.1.2.2.1,I p.1.2.2.2.1,I p.1.2.2.2.2.1,B p.1.2.2.2.2.2.1,B p.1.2.2.2.2.2.2,I p.2.1.1,slA ws p.2.1.2.1,I p.2.1.2.2.1,I p.2.1.2.2.2.1,B p.2.1.2.2.2.2,vA u]
abbrev z7f : List AV:=[I 0,I 0,vA (.slice none 0 0),I 0,I 0,B false,B false,I 0,vA (.slice none 0 0),I 0,I 0,B false,vA (.slice none 0 0)]
variable {T0 : Gh} [TabS T0]
theorem ztc (b : Bel) (t : Tm) : AP Tryz.prog T0 15 [blA b,tmA t] (zt [vi (zy b t).1,I (zy b t).2]):=zoh _ _ _ _ _ _ _ _ _ _ _ _ _
attribute [local irreducible] z_ zg AW AL AO QY qd zx rsA Opd xi vA gvA zt z0 slA jc ipA rpA EqK LnK IxK LdK FaK FdK
theorem ztb (p : Pu) (t : Tm) (hp : jg p = true) (hf : q9 p.1 t) : AF Tryz.prog T0 93 [puA p,tmA t] [] (fun A M' => ∃ u,A = z0 (puU (q_ p t) u) ∧ M' = [zx spT 117 u (q_ p t).2.2]):=by
 have c1 : True:=trivial
 have c2 : True:=trivial
 have c3 : True:=trivial
 have c4 : True:=trivial
 have h9 : p.2.2.length ≤ 1000:=by have:=zh8 hp; have:=(qi.1 hp).2.2.2.1; omega
 refine za Tryz.func93 rfl (by decide) Tryz.ntmps93 rfl ?_
 repeat' (first
 |refine z94 ?_ | (refine zb ?_ ?_ <;> intro hb <;> try exact no_) | (refine sx_ ?_ <;> intro bb) | (refine su_ ?_ <;> intro u hu1 hu2) | fail)
 rename_i b2 b3 u1 hv1 hv2
 refine zjj (fun (q : Pu) (u : Value)=>[(2,ptA b2),(3,ptA b3),(4,ptA bb)]) (fun q u=>[zx spT 117 u q.2.2,qd bb 50 z7f,qd b3 29 [I t.1,I t.2.1,slA qg t.2.2.1,I t.2.2.2.1,I t.2.2.2.2.1,B t.2.2.2.2.2],qd b2 50 (puU q u)]) (fun q _=>jg q = true ∧ q9 q.1 t ∧ q_ q t = q_ p t) (fun q _=>zt7 q.1 t) p _ ⟨hp,hf,rfl⟩ wk_ (List.Sublist.refl _) ?_
 rintro q u ⟨i1,i2,i3⟩
 refine zhx (List.Mem.head _) fun hu1 hu2 => ?_
 have c1:=ztc (T0:=T0) q.1 t
 have h8:=zh8 i1
 have h7:=(qi.1 i1).2.2.2.1
 cases ho : xt q t with
 |none =>
  have h':=za5.1 ho
  have e : q = q_ p t:=by rw [← i3,za6 ho]
  by_cases h0 : (zy q.1 t).2 = 0
  ·have hr : ¬ (qs q.2.1.2.1 : Int) - q.2.1.2.2.1 + xk (zy q.1 t).1 ≤ q.2.1.1:=fun z=>h' ⟨h0,z⟩
   obtain ⟨e',he,e2⟩:=zlt (pad:=q.2.1.2.2.2.1) (off:=q.2.1.2.2.2.2) hr
   have c2:=zes (T0:=T0) q.2.1.1 q.2.1.2.1 q.2.1.2.2.1 q.2.1.2.2.2.1 q.2.1.2.2.2.2 (zy q.1 t).1 (by omega)
   rw [e2] at c2
   rw [h0] at c1
   clear h0 hr h' e2 ho i1 i2 i3
   generalize (zy q.1 t).1 = z at *
   obtain ⟨k,a,d,r⟩:=z
   repeat' (first
   |refine z94 ?_ | (refine zb ?_ ?_ <;> intro hb <;> try exact no_) | (refine sx_ ?_ <;> intro bb) | (refine su_ ?_ <;> intro u hu1 hu2) | fail)
   all_goals first | (exfalso; omega) | exact ⟨_,[zx spT 117 u q.2.2],rl_,sl_,u,by rw [← e],by rw [← e]⟩ | skip
  ·generalize zy q.1 t = z at *
   obtain ⟨⟨k,a,d,r⟩,e'⟩:=z
   simp only at h0
   clear h' ho i1 i2 i3
   repeat' (first
   |refine z94 ?_ | (refine zb ?_ ?_ <;> intro hb <;> try exact no_) | (refine sx_ ?_ <;> intro bb) | (refine su_ ?_ <;> intro u hu1 hu2) | fail)
   all_goals first | (exfalso; omega) | exact ⟨_,[zx spT 117 u q.2.2],rl_,sl_,u,by rw [← e],by rw [← e]⟩ | skip
 |some q' =>
  obtain ⟨m1,m2,_⟩:=km i2 ho
  obtain ⟨m3,o2,o3,o4,o5,o6⟩:=yn i1 i2 ho
  have m4:=zd8 i2 ho
  obtain ⟨_,h2,h3,h4,_⟩:=qi.1 i1
  have hr : (qs q.2.1.2.1 : Int) - q.2.1.2.2.1 + xk (zy q.1 t).1 ≤ q.2.1.1:=Classical.byContradiction fun z=>by
   rw [za5.2 fun y=>z y.2] at ho; cases ho
  have c2:=zes (T0:=T0) q.2.1.1 q.2.1.2.1 q.2.1.2.2.1 q.2.1.2.2.2.1 q.2.1.2.2.2.2 (zy q.1 t).1 (by omega)
  rw [zls h2 o5 hr,h3] at c2
  rw [o6] at c1
  have c3 : AP Tryz.prog T0 135 [blA q.1,vi (zy q.1 t).1] (zt [I (xv q.1 (zy q.1 t).1).1,I (xv q.1 (zy q.1 t).1).2]):=zma _ _ _ _ _ _ _ _
  have c4 : AP Tryz.prog T0 112 [blA q.1,vi (zy q.1 t).1] (zt [blA (doB q.1 (zy q.1 t).1).1,I (doB q.1 (zy q.1 t).1).2]):=zmb _ _ _ _ _ _ _ _
  have eq : q' = ((doB q.1 (zy q.1 t).1).1,(48,q.2.1.2.1 ++ [(zy q.1 t).1],q.2.1.2.2.1,q.2.1.2.2.2.1,q.2.1.2.2.2.2),q.2.2 ++ [xv q.1 (zy q.1 t).1]):=Prod.ext o3 (Prod.ext o2 o4)
  have fin : jg q' = true ∧ q9 q'.1 t ∧ q_ q' t = q_ p t:=⟨m3,m1,by rw [← m4]; exact i3⟩
  obtain ⟨⟨w,h0,l,x,y,bq,s0⟩,⟨room,kl,sent,pad,off⟩,sp⟩:=q
  simp only at h3 c1 c2 c3 c4 h7 h8 eq m2 ⊢
  subst h3
  clear o2 o3 o4 o5 o6 hr ho i1 i2 i3 h2 h4 m1 m3 m4 hp hf
  generalize zy (w,h0,l,x,y,bq,s0) t = z at *
  obtain ⟨⟨k,a,d,r⟩,ez⟩:=z
  simp only at c1 c2 c3 c4 eq ⊢
  generalize xv (w,h0,l,x,y,bq,s0) (k,a,d,r) = tb at *
  generalize doB (w,h0,l,x,y,bq,s0) (k,a,d,r) = db at *
  obtain ⟨f,g⟩:=tb
  obtain ⟨⟨d1,d2,d3,d4,d5,d6,d7⟩,de⟩:=db
  repeat' (first
  |refine z94 ?_ | (refine zb ?_ ?_ <;> intro hb <;> try exact no_) | (refine sx_ ?_ <;> intro bb) | (refine su_ ?_ <;> intro u hu1 hu2) | fail)
  all_goals first | exact e2_ | skip
  exact ⟨q',_,fin,by omega,wk_,by rw [eq]; exact sl_⟩
theorem zw6 (p : Pu) (t : Tm) (hp : jg p = true) (hf : q9 p.1 t) : AP Tryz.prog T0 93 [puA p,tmA t] (puA (q_ p t)):=(ztb p t hp hf).frz1 ze8
theorem zmd (p : Pu) (g : Int) (hl : p.2.1.2.1.length ≤ 1000) (hg : g ≤ 9223372036854775807) : AP Tryz.prog T0 35 [puA p,I g] (zt [SA (ue p g).1,puA (ue p g).2]):=by
 have c1:=ky (T0:=T0) p (by omega)
 have c3 : True:=trivial
 have c4 : True:=trivial
 unfold ue
 by_cases hp : jg p = true
 ·rw [hp] at c1
  rw [if_pos hp]
  have c2:=zon (T0:=T0) p.2.1.1 p.2.1.2.1 p.2.1.2.2.1 p.2.1.2.2.2.1 p.2.1.2.2.2.2 g (by omega) hg
  rw [zp1 hp] at c2
  obtain ⟨e1,e2⟩:=zgh (g:=g) hp
  have hle:=zil (g:=g) hp
  obtain ⟨_,a1',_⟩:=wl (g:=g) hp
  have hsp:=(qi.1 hp).2.2.2.1
  have ed:=vo p.2.2 (p.2.1.2.1.length - (zo p g).2.2.1.2.1.length)
  rw [e2] at c2
  clear hp
  generalize zo p g = z at *
  obtain ⟨so,⟨d,⟨room',kl',sent',pad',off'⟩,sp'⟩⟩:=z
  simp only at e1 e2 hle c2 ed a1' ⊢
  subst a1' e1 e2
  refine za Tryz.func35 rfl (by decide) Tryz.ntmps35 rfl ?_
  repeat' (first
  |refine zqu ?_ | (refine zb ?_ ?_ <;> intro hb <;> try exact no_) | (refine sx_ ?_ <;> intro bb) | (refine su_ ?_ <;> intro u hu1 hu2) | fail)
  all_goals first | exact e2_ | skip
  exact ⟨_,[],rl_,List.nil_sublist _,Sub.eq (by rw [ed]),rfl⟩
 ·rw [if_neg hp]
  rw [show jg p = false by simpa using hp] at c1
  have c2 : True:=trivial
  refine za Tryz.func35 rfl (by decide) Tryz.ntmps35 rfl ?_
  repeat' (first
  |refine zqu ?_ | (refine zb ?_ ?_ <;> intro hb <;> try exact no_) | (refine sx_ ?_ <;> intro bb) | (refine su_ ?_ <;> intro u hu1 hu2) | fail)
  all_goals first | exact z7c | skip
theorem zw4 (p : Pu) (t : Tm) (g : Int) (hl : p.2.1.2.1.length ≤ 1000) (hg : g ≤ 9223372036854775807) : AP Tryz.prog T0 31 [puA p,tmA t,I g] (zt [SA (ua p t g).1,puA (ua p t g).2.1,I (ua p t g).2.2]):=by
 have c1 : AP Tryz.prog T0 13 [blA p.1,tmA t] (zt [I (uy p.1 t).1,I (uy p.1 t).2]):=zow _ _ _ _ _ _ _ _ _ _ _ _ _
 have c2:=ky (T0:=T0) p (by omega)
 have c3 : True:=trivial
 have c4 : True:=trivial
 unfold ua
 by_cases h : jg p = true ∧ q9 p.1 t
 ·rw [if_pos h]
  obtain ⟨hp,hf⟩:=h
  rw [u5 hf] at c1
  rw [hp] at c2
  have hN : zht p t ≤ 100000:=by
   have m:=zvy p.1 t
   have f:=qv (qi.1 hp).2.1
   have h9:=(zfo hf).2
   unfold zht; omega
  refine za Tryz.func31 rfl (by decide) Tryz.ntmps31 rfl ?_
  repeat' (first
  |(apply qx 3; (case hD=>decide +kernel); (case hB=>decide +kernel); (case hg=>decide +kernel); (case hm=>kernel_rfl); (case hs=>rfl)) | refine zl4 ?_ | (apply zm (by rfl) (by kernel_rfl) (by kernel_rfl)) | refine zqu ?_ | (refine zb ?_ ?_ <;> intro hb <;> try exact no_) | (refine sx_ ?_ <;> intro bb) | (refine su_ ?_ <;> intro u hu1 hu2) | fail)
  all_goals first | exact e2_ | skip
  refine zig (σ:=List UInt8 × Pu × Int) (fun z=>[(11,SA z.1),(2,I z.2.2)]) (fun z=>puC z.2.1) (fun z=>jg z.2.1 = true ∧ q9 z.2.1.1 t ∧ (z.1 ++ (vk z.2.1 t z.2.2).1,(vk z.2.1 t z.2.2).2) = vk p t g ∧ zht z.2.1 t + z.1.length ≤ 100000 ∧ z.2.2 ≤ 9223372036854775807) (fun z=>zht z.2.1 t) ([],p,g) ⟨hp,hf,rfl,by simpa using hN,hg⟩ rfl ?_
  rintro ⟨out,q,g'⟩ ⟨i1,i2,i3,i4,i5⟩
  simp only at i1 i2 i3 i4 i5 ⊢
  obtain ⟨f1,f2,f3,f4⟩:=up i1 i2
  have c1:=zw6 (T0:=T0) q t i1 i2
  have c2:=zmd (T0:=T0) (q_ q t) g' (zh8 f1) i5
  rw [show ue (q_ q t) g' = zo (q_ q t) g' from if_pos f1] at c2
  obtain ⟨s1,s2,_,_,s5,_⟩:=wl (g:=g') f1
  have sb:=za2 (t:=t) (g:=g') f1
  have stop:=wz (p:=q) (t:=t) (g:=g')
  have go:=zj2 (g:=g') i1 i2
  have nil:=zff (g:=g') f1
  have sf : q9 (zo (q_ q t) g').2.1 t:=by rw [s2]; exact f2
  clear s2 f1 f2 f3 hp hf i1 i2
  generalize zo (q_ q t) g' = z at *
  generalize q_ q t = qf at *
  obtain ⟨so,q'⟩:=z
  simp only at c2 s1 s5 sb stop go sf nil
  by_cases hz : so = []
  ·rw [stop hz] at i3
   subst hz
   rw [List.append_nil] at i3
   repeat' (first
   |(apply qx 3; (case hD=>decide +kernel); (case hB=>decide +kernel); (case hg=>decide +kernel); (case hm=>kernel_rfl); (case hs=>rfl)) | refine zl4 ?_ | (apply zm (by rfl) (by kernel_rfl) (by kernel_rfl)) | refine zqu ?_ | (refine zb ?_ ?_ <;> intro hb <;> try exact no_) | (refine sx_ ?_ <;> intro bb) | (refine su_ ?_ <;> intro u hu1 hu2) | fail)
   all_goals first | exact e2_ | skip
   exact ⟨_,[],rl_,List.nil_sublist _,Sub.eq (by rw [← i3]),rfl⟩
  ·rw [go hz] at i3
   have hz2:=List.length_pos_iff.2 hz
   repeat' (first
   |(apply qx 3; (case hD=>decide +kernel); (case hB=>decide +kernel); (case hg=>decide +kernel); (case hm=>kernel_rfl); (case hs=>rfl)) | refine zl4 ?_ | (apply zm (by rfl) (by kernel_rfl) (by kernel_rfl)) | refine zqu ?_ | (refine zb ?_ ?_ <;> intro hb <;> try exact no_) | (refine sx_ ?_ <;> intro bb) | (refine su_ ?_ <;> intro u hu1 hu2) | fail)
   all_goals first | (exfalso; exact hz (by simpa using hb)) | skip
   refine ⟨(out ++ so,q',g' - (so.length : Nat)),⟨s1,sf, ?_,by simp only [List.length_append]; omega,by simp only; omega⟩,by simp only; omega,wx_,sl_⟩
   rw [← i3]
   simp only [List.append_assoc]
 ·rw [if_neg h]
  by_cases hf : q9 p.1 t
  ·rw [u5 hf] at c1
   rw [show jg p = false by
    cases e : jg p with
    |false=>rfl
    |true=>exact absurd ⟨e,hf⟩ h] at c2
   refine za Tryz.func31 rfl (by decide) Tryz.ntmps31 rfl ?_
   repeat' (first
   |(apply qx 3; (case hD=>decide +kernel); (case hB=>decide +kernel); (case hg=>decide +kernel); (case hm=>kernel_rfl); (case hs=>rfl)) | refine zl4 ?_ | (apply zm (by rfl) (by kernel_rfl) (by kernel_rfl)) | refine zqu ?_ | (refine zb ?_ ?_ <;> intro hb <;> try exact no_) | (refine sx_ ?_ <;> intro bb) | (refine su_ ?_ <;> intro u hu1 hu2) | fail)
   all_goals first | exact z7b | skip
  ·rw [zce hf] at c1
   clear h
   generalize jg p = v at *
   refine za Tryz.func31 rfl (by decide) Tryz.ntmps31 rfl ?_
   repeat' (first
   |(apply qx 3; (case hD=>decide +kernel); (case hB=>decide +kernel); (case hg=>decide +kernel); (case hm=>kernel_rfl); (case hs=>rfl)) | refine zl4 ?_ | (apply zm (by rfl) (by kernel_rfl) (by kernel_rfl)) | refine zqu ?_ | (refine zb ?_ ?_ <;> intro hb <;> try exact no_) | (refine sx_ ?_ <;> intro bb) | (refine su_ ?_ <;> intro u hu1 hu2) | fail)
   all_goals first | exact z7b | skip
end Go.Proofs.YtgfmjmfphmjdkaaGreatDoor
namespace Go.Proofs.YtgfmjmfphmjdkaaGreatDoor
set_option maxHeartbeats 4000000
open Go Go.RowKit
set_option maxRecDepth 200000
variable {T0 : Gh} [TabS T0]
attribute [local irreducible] z_ zg AW AL AO QY qd zx rsA Opd xi vA gvA zt z0 slA jc ipA rpA EqK LnK IxK LdK FaK FdK
theorem zme (p : Pu) (hl : p.2.1.2.1.length ≤ 1000) : AP Tryz.prog T0 37 [puA p] (puA (xx p)):=by
 have c1:=ky (T0:=T0) p (by omega)
 have c3 : True:=trivial
 by_cases hp : jg p = true
 ·rw [hp] at c1
  rw [zap hp]
  have c2:=zg8 (T0:=T0) p.2.1.1 p.2.1.2.1 p.2.1.2.2.1 p.2.1.2.2.2.1 p.2.1.2.2.2.2 (by omega)
  rw [zkq,zgy,if_pos (qi.1 hp).2.1,if_pos (qi.1 hp).2.1] at c2
  replace c2 : AP Tryz.prog T0 85 [x_ p.2.1.1 p.2.1.2.1 p.2.1.2.2.1 p.2.1.2.2.2.1 p.2.1.2.2.2.2] (zt [x_ p.2.1.1 (p.2.1.2.1.take (zfa p.2.1.2.2.1)) p.2.1.2.2.1 p.2.1.2.2.2.1 p.2.1.2.2.2.2,slA ws (p.2.1.2.1.drop (zfa p.2.1.2.2.1))]):=c2
  have hlen:=(qi.1 hp).2.2.2.1
  have hK : (p.2.1.2.1.take (zfa p.2.1.2.2.1)).length + (p.2.1.2.1.drop (zfa p.2.1.2.2.1)).length = p.2.2.length:=by
   rw [← List.length_append,List.take_append_drop]; omega
  have h9 : p.2.2.length ≤ 1000:=by omega
  generalize p.2.1.2.1.take (zfa p.2.1.2.2.1) = K at *
  generalize p.2.1.2.1.drop (zfa p.2.1.2.2.1) = gone at *
  clear hp hlen
  have et : (List.drop 0 p.2.2).take (K.length - 0) = p.2.2.take K.length:=by simp
  have hall : gone.length = 0 → p.2.2.take K.length = p.2.2:=fun z=>List.take_of_length_le (by omega)
  refine za Tryz.func37 rfl (by decide) Tryz.ntmps37 rfl ?_
  repeat' (first
  |refine zh3 ?_ | (refine zb ?_ ?_ <;> intro hb <;> try exact no_) | (refine sx_ ?_ <;> intro bb) | (refine su_ ?_ <;> intro u hu1 hu2) | fail)
  all_goals first | exact e2_ | skip
  refine zig (σ:=Nat × Bel) (fun z=>[(5,I (K.length + z.1 : Nat))]) (fun z=>[I z.2.1,I z.2.2.1,slA guT z.2.2.2.1,I z.2.2.2.2.1,I z.2.2.2.2.2.1,B z.2.2.2.2.2.2.1,B z.2.2.2.2.2.2.2,I p.2.1.1,slA ws p.2.1.2.1,I p.2.1.2.2.1,I p.2.1.2.2.2.1,B p.2.1.2.2.2.2,slA spT p.2.2]) (fun z=>K.length + z.1 ≤ p.2.2.length ∧ z.2 = jr p.1 ((p.2.2.drop K.length).take z.1)) (fun z=>p.2.2.length - z.1) (0,p.1) ⟨by simp only; omega,rfl⟩ rfl ?_
  rintro ⟨k,d⟩ ⟨k1,k2⟩
  simp only at k1 k2
  by_cases hlt : K.length + k < p.2.2.length
  ·obtain ⟨⟨f,t⟩,hat⟩ : ∃ z,p.2.2[K.length + k]? = some z:=⟨_,List.getElem?_eq_getElem hlt⟩
   have hat2 : (p.2.2.drop K.length)[k]? = some (f,t):=by rw [List.getElem?_drop]; exact hat
   have c3 : AP Tryz.prog T0 99 [blA d,I f,I t,B true] (blA (qt d f t true)):=zkh _ _ _ _ _ _ _ _ _ _
   have k3 : qt d f t true = jr p.1 ((p.2.2.drop K.length).take (k + 1)):=by rw [zeo _ _ _ _ _ hat2,k2]
   clear hat2
   generalize qt d f t true = d' at *
   repeat' (first
   |refine zh3 ?_ | (refine zb ?_ ?_ <;> intro hb <;> try exact no_) | (refine sx_ ?_ <;> intro bb) | (refine su_ ?_ <;> intro u hu1 hu2) | fail)
   all_goals first | exact e1_ | skip
   exact ⟨(k + 1,d'),⟨by simp only; omega,k3⟩,by simp only; omega,wx_,sl_⟩
  ·rw [List.take_of_length_le (by rw [List.length_drop]; omega)] at k2
   subst k2
   repeat' (first
   |refine zh3 ?_ | (refine zb ?_ ?_ <;> intro hb <;> try exact no_) | (refine sx_ ?_ <;> intro bb) | (refine su_ ?_ <;> intro u hu1 hu2) | fail)
   all_goals first | (exfalso; omega) | exact ⟨_,[],rl_,List.nil_sublist _,Sub.eq (by rw [et]),rfl⟩ | exact ⟨_,[],rl_,List.nil_sublist _,Sub.eq (by rw [hall (by omega)]),rfl⟩ | skip
 ·have e : xx p = p:=if_neg hp
  rw [e]
  rw [show jg p = false by simpa using hp] at c1
  have c2 : True:=trivial
  refine za Tryz.func37 rfl (by decide) Tryz.ntmps37 rfl ?_
  repeat' (first
  |refine zh3 ?_ | (refine zb ?_ ?_ <;> intro hb <;> try exact no_) | (refine sx_ ?_ <;> intro bb) | (refine su_ ?_ <;> intro u hu1 hu2) | fail)
  all_goals first | exact z7c | skip
theorem zw7 (p : Pu) (hl : p.2.1.2.1.length ≤ 1000) : AP Tryz.prog T0 39 [puA p] (puA (zdc p)):=by
 have c1:=ky (T0:=T0) p (by omega)
 have c2:=zme (T0:=T0) p hl
 have c3:=w6 (T0:=T0) (xx p).1.1 (xx p).1.2.1
 unfold zdc
 generalize yg (xx p).1.1 (xx p).1.2.1 = z at *
 generalize xx p = q at *
 refine za Tryz.func39 rfl (by decide) Tryz.ntmps39 rfl ?_
 by_cases hp : jg p = true
 ·rw [hp] at c1
  rw [if_pos hp]
  repeat' (first
  |refine zh3 ?_ | (refine zb ?_ ?_ <;> intro hb <;> try exact no_) | (refine sx_ ?_ <;> intro bb) | (refine su_ ?_ <;> intro u hu1 hu2) | fail)
  all_goals first | exact zmi | skip
 ·rw [if_neg hp]
  rw [show jg p = false by simpa using hp] at c1
  repeat' (first
  |refine zh3 ?_ | (refine zb ?_ ?_ <;> intro hb <;> try exact no_) | (refine sx_ ?_ <;> intro bb) | (refine su_ ?_ <;> intro u hu1 hu2) | fail)
  all_goals first | exact zmi | skip
theorem zw2 (p : Pu) (hl : p.2.1.2.1.length ≤ 1000) : AP Tryz.prog T0 41 [puA p] (puA (zbh p)):=by
 have c1:=ky (T0:=T0) p (by omega)
 have c3 : True:=trivial
 refine za Tryz.func41 rfl (by decide) Tryz.ntmps41 rfl ?_
 by_cases hp : jg p = true
 ·rw [hp] at c1
  have c2:=zom (T0:=T0) p.2.1.1 p.2.1.2.1 p.2.1.2.2.1 p.2.1.2.2.2.1 p.2.1.2.2.2.2 (by omega)
  rw [zlh,if_pos (qi.1 hp).2.1] at c2
  rw [(zur hp).2]
  clear hp
  repeat' (first
  |refine zh3 ?_ | (refine zb ?_ ?_ <;> intro hb <;> try exact no_) | (refine sx_ ?_ <;> intro bb) | (refine su_ ?_ <;> intro u hu1 hu2) | fail)
  all_goals first | exact zmi | skip
 ·have e : zbh p = p:=if_neg hp
  rw [e]
  rw [show jg p = false by simpa using hp] at c1
  have c2 : True:=trivial
  repeat' (first
  |refine zh3 ?_ | (refine zb ?_ ?_ <;> intro hb <;> try exact no_) | (refine sx_ ?_ <;> intro bb) | (refine su_ ?_ <;> intro u hu1 hu2) | fail)
  all_goals first | exact zmi | skip
theorem zw5 (p : Pu) (off : Bool) (hl : p.2.1.2.1.length ≤ 1000) : AP Tryz.prog T0 43 [puA p,B off] (puA (zc0 p off)):=by
 have c1:=ky (T0:=T0) p (by omega)
 have c3 : True:=trivial
 refine za Tryz.func43 rfl (by decide) Tryz.ntmps43 rfl ?_
 unfold zc0
 by_cases hp : jg p = true
 ·rw [hp] at c1
  have c2:=zoq (T0:=T0) p.2.1.1 p.2.1.2.1 p.2.1.2.2.1 p.2.1.2.2.2.1 p.2.1.2.2.2.2 off (by omega)
  rw [zl1,if_pos (qi.1 hp).2.1] at c2
  rw [if_pos hp]
  clear hp
  repeat' (first
  |refine zh3 ?_ | (refine zb ?_ ?_ <;> intro hb <;> try exact no_) | (refine sx_ ?_ <;> intro bb) | (refine su_ ?_ <;> intro u hu1 hu2) | fail)
  all_goals first | exact zmi | skip
 ·rw [if_neg hp]
  rw [show jg p = false by simpa using hp] at c1
  have c2 : True:=trivial
  repeat' (first
  |refine zh3 ?_ | (refine zb ?_ ?_ <;> intro hb <;> try exact no_) | (refine sx_ ?_ <;> intro bb) | (refine su_ ?_ <;> intro u hu1 hu2) | fail)
  all_goals first | exact zmi | skip
theorem zta (p : Pu) (w h : Int) (hp : jg p = true) (h0 : (yg w h).2 = 0) : AF Tryz.prog T0 25 [puA p,I w,I h] [] (fun A M' => ∃ u,A = zt [z0 (puU (wa p w h).1 u),I 0] ∧ M' = [zx spT 117 u (wa p w h).1.2.2]):=by
 have c1:=ky (T0:=T0) p (by have:=zh8 hp; omega)
 have c2:=zg8 (T0:=T0) p.2.1.1 p.2.1.2.1 p.2.1.2.2.1 p.2.1.2.2.2.1 p.2.1.2.2.2.2 (by have:=zh8 hp; omega)
 have c3:=w6 (T0:=T0) w h
 have hl:=zh8 hp
 unfold wa
 rw [if_pos hp,if_pos h0]
 rw [zkq,if_pos (qi.1 hp).2.1] at c2
 have e : (xx p).2.1 = (p.2.1.1,p.2.1.2.1.take (zfa p.2.1.2.2.1),p.2.1.2.2.1,p.2.1.2.2.2.1,p.2.1.2.2.2.2):=by rw [zap hp]
 rw [e]
 rw [hp] at c1
 rw [h0] at c3
 replace c2 : AP Tryz.prog T0 85 [x_ p.2.1.1 p.2.1.2.1 p.2.1.2.2.1 p.2.1.2.2.2.1 p.2.1.2.2.2.2] (zt [x_ p.2.1.1 (p.2.1.2.1.take (zfa p.2.1.2.2.1)) p.2.1.2.2.1 p.2.1.2.2.2.1 p.2.1.2.2.2.2,slA ws (zgy p.2.1.1 p.2.1.2.1 p.2.1.2.2.1 p.2.1.2.2.2.1)]):=c2
 have hK : (p.2.1.2.1.take (zfa p.2.1.2.2.1)).length ≤ 1000:=by rw [List.length_take]; omega
 generalize p.2.1.2.1.take (zfa p.2.1.2.2.1) = K at *
 generalize zgy p.2.1.1 p.2.1.2.1 p.2.1.2.2.1 p.2.1.2.2.2.1 = gone at *
 generalize (yg w h).1 = d at *
 clear hp h0 e
 refine za Tryz.func25 rfl (by decide) Tryz.ntmps25 rfl ?_
 repeat' (first
 |refine z8j ?_ | (refine zb ?_ ?_ <;> intro hb <;> try exact no_) | (refine sx_ ?_ <;> intro bb) | (refine su_ ?_ <;> intro u hu1 hu2) | fail)
 all_goals first | exact e2_ | skip
 rename_i b3 b6 hh1 b8 b10
 refine zrx spT 117 ?_
 refine zjj (fun (k : Nat) (u : Value)=>[(3,ptA b3),(6,ptA b6),(10,ptA b10),(12,ptA bb),(13,I k)]) (fun k u=>[zx spT 117 u (List.replicate k (0,0)),qd bb 50 (puU (d,(p.2.1.1,K,p.2.1.2.2.1,p.2.1.2.2.2.1,p.2.1.2.2.2.2),[]) u),qd b10 47 [I p.2.1.1,slA ws K,I p.2.1.2.2.1,I p.2.1.2.2.2.1,B p.2.1.2.2.2.2],qd b6 50 z7f]) (fun k _=>k ≤ K.length) (fun k _=>K.length - k) 0 _ (Nat.zero_le _) wk_ sl_ ?_
 rintro k u i1
 refine zhx (List.Mem.head _) fun hu1 hu2 => ?_
 by_cases hlt : k < K.length
 ·repeat' (first
  |refine z8j ?_ | (refine zb ?_ ?_ <;> intro hb <;> try exact no_) | (refine sx_ ?_ <;> intro bb) | (refine su_ ?_ <;> intro u hu1 hu2) | fail)
  all_goals first | exact e1_ | skip
  exact ⟨k + 1,_,by omega,by omega,wk_,by rw [List.replicate_succ']; exact sl_⟩
 ·obtain rfl : k = K.length:=by omega
  repeat' (first
  |refine z8j ?_ | (refine zb ?_ ?_ <;> intro hb <;> try exact no_) | (refine sx_ ?_ <;> intro bb) | (refine su_ ?_ <;> intro u hu1 hu2) | fail)
  all_goals first | exact e1_ | skip
  exact ⟨_,[zx spT 117 u (List.replicate K.length (0,0))],rl_,sl_,u,rfl,rfl⟩
theorem zw3 (p : Pu) (w h : Int) (hl : p.2.1.2.1.length ≤ 1000) : AP Tryz.prog T0 25 [puA p,I w,I h] (zt [puA (wa p w h).1,I (wa p w h).2]):=by
 by_cases hp : jg p = true
 ·by_cases h0 : (yg w h).2 = 0
  ·have k:=(zta (T0:=T0) p w h hp h0).frz1 ze8
   have e : (wa p w h).2 = 0:=by unfold wa; rw [if_pos hp,if_pos h0]
   rw [e]; exact k
  ·have c1:=ky (T0:=T0) p (by omega)
   have c2 : True:=trivial
   have c3:=w6 (T0:=T0) w h
   unfold wa
   rw [if_pos hp,if_neg h0]
   rw [hp] at c1
   generalize yg w h = z at *
   obtain ⟨d,e⟩:=z
   simp only at h0
   refine za Tryz.func25 rfl (by decide) Tryz.ntmps25 rfl ?_
   repeat' (first
   |refine z8j ?_ | (refine zb ?_ ?_ <;> intro hb <;> try exact no_) | (refine sx_ ?_ <;> intro bb) | (refine su_ ?_ <;> intro u hu1 hu2) | fail)
   all_goals first | exact zmi | skip
 ·have c1:=ky (T0:=T0) p (by omega)
  have c2 : True:=trivial
  have c3 : True:=trivial
  unfold wa
  rw [if_neg hp]
  rw [show jg p = false by simpa using hp] at c1
  refine za Tryz.func25 rfl (by decide) Tryz.ntmps25 rfl ?_
  repeat' (first
  |refine z8j ?_ | (refine zb ?_ ?_ <;> intro hb <;> try exact no_) | (refine sx_ ?_ <;> intro bb) | (refine su_ ?_ <;> intro u hu1 hu2) | fail)
  all_goals first | exact zmi | skip
end Go.Proofs.YtgfmjmfphmjdkaaGreatDoor
