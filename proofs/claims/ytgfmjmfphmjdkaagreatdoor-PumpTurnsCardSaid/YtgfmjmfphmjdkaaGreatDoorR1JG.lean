/- Layer 30 (pump): the example. No condition. -/
import Derived.Test.YtgfmjmfphmjdkaaGreatDoorR1JD
import Derived.Test.YtgfmjmfphmjdkaaGreatDoorR1ZN
import Derived.Test.YtgfmjmfphmjdkaaGreatDoorR1JE
set_option linter.unusedSimpArgs false
set_option linter.unusedVariables false
set_option linter.unusedSectionVars false
namespace Go.Proofs.YtgfmjmfphmjdkaaGreatDoor
set_option maxHeartbeats 4000000
open Go Go.RowKit
set_option maxRecDepth 200000
def xP : Pu:=((3,1,[((0,0),false),((0,0),false),((0,0),false)],0,0,false,false),(48,[],0,0,false),[])
def xT : Tm:=(3,1,[(32,0),(32,0),(32,0)],0,0,false)
def xU : Tm × List UInt8 × Int:=zq0 xT [97,98]
def xA : List UInt8 × Pu × Int:=zdy xP xU.1 7
def xB : Pu:=ur xA.2.1
def xC : List UInt8 × Pu × Int:=zdy xB xU.1 99
def xV : Tm × List UInt8 × Int:=zq0 xT (xA.1 ++ xC.1)
def xN : List UInt8 × Pu × Int:=zdy xC.2.1 noT 1
def xL : Pu:=zo_ xC.2.1
def xD : List UInt8 × Pu × Int:=zdy xL xU.1 0
def xS : Pu × Int:=zno xD.2.1 4 1
def xH : Pu:=zn_ xD.2.1 true
def xI : List UInt8 × Pu:=zn9 xH 9
theorem qbp {l l' : List AV} (h : SubL l l':=by
 first
 |(repeat' (first
   |exact vj
   |apply qb
   |exact Sub.refl _
   |exact zjq
   |apply vx)
   done)
 |fail) : SubL l l':=h
variable {T0 : Gh} [TabS T0] [TabU T0]
attribute [local irreducible] z_ zg AW AL AO QY qd zx rsA Opd xi vA gvA zt z0 slA jc ipA rpA EqK LnK IxK LdK FaK FdK
theorem zq4 : AP Tryz.prog T0 26 [] (B true):=by
 have c1 : AP Tryz.prog T0 22 [I 3,I 1] (zt [puA xP,I 0]):=(zw8 3 1).to (by rw [show zh_ 3 1 = (xP,0) by kernel_rfl])
 have c2 : AP Tryz.prog T0 61 [I 3,I 1] (zt [tmA xT,I 0]):=(zwx 3 1).to (by rw [show zb_ 3 1 = ((3,1,[(32,0),(32,0),(32,0)]),0) by decide]; rfl)
 have c3 : AP Tryz.prog T0 44 [tmA xT,SA [97,98]] (zt [tmA xU.1,SA xU.2.1,I xU.2.2]):=(ziy _ _ _ _ _ _ [97,98] (by decide)).to (by rw [zwu]; rfl)
 have c4 : AP Tryz.prog T0 30 [puA xP,tmA xU.1,I 7] (zt [SA xA.1,puA xA.2.1,I xA.2.2]):=(zc9 xP xU.1 7 (by decide) (by decide)).to (by rw [zfh]; rfl)
 have c5 : AP Tryz.prog T0 36 [puA xA.2.1] (puA xB):=(zfr xA.2.1 (by decide +kernel)).to (by rw [zko]; rfl)
 have c6 : AP Tryz.prog T0 30 [puA xB,tmA xU.1,I 99] (zt [SA xC.1,puA xC.2.1,I xC.2.2]):=(zc9 xB xU.1 99 (by decide +kernel) (by decide)).to (by rw [zfh]; rfl)
 have c7 : AP Tryz.prog T0 44 [tmA xT,SA (xA.1 ++ xC.1)] (zt [tmA xV.1,SA xV.2.1,I xV.2.2]):=(ziy _ _ _ _ _ _ (xA.1 ++ xC.1) (by decide +kernel)).to (by rw [zwu]; rfl)
 have e8 : AP Tryz.prog T0 30 [puA xC.2.1,xp 0 0 [] 0 0 false,I 1] (zt [SA xN.1,puA xN.2.1,I xN.2.2]):=(zc9 xC.2.1 noT 1 (by decide +kernel) (by decide)).to (by rw [zfh]; rfl)
 have c8 : AP Tryz.prog T0 30 [puA xC.2.1,z0 [I 0,I 0,vA (.slice none 0 0),I 0,I 0,B false],I 1] (zt [SA xN.1,puA xN.2.1,I xN.2.2]):=e8.pre qbp
 have c9 : AP Tryz.prog T0 38 [puA xC.2.1] (puA xL):=(zq9 xC.2.1 (by decide +kernel)).to (by rw [z13]; rfl)
 have d1 : AP Tryz.prog T0 30 [puA xL,tmA xU.1,I 0] (zt [SA xD.1,puA xD.2.1,I xD.2.2]):=(zc9 xL xU.1 0 (by decide +kernel) (by decide)).to (by rw [zfh]; rfl)
 have d2 : AP Tryz.prog T0 24 [puA xD.2.1,I 4,I 1] (zt [puA xS.1,I xS.2]):=(zq5 xD.2.1 4 1 (by decide +kernel)).to (by rw [zzs]; rfl)
 have d3 : AP Tryz.prog T0 42 [puA xD.2.1,B true] (puA xH):=(zq8 xD.2.1 true (by decide +kernel)).to (by rw [z0x]; rfl)
 have d4 : AP Tryz.prog T0 32 [puA xH,I 9] (zt [SA xI.1,puA xI.2]):=(zq7 xH 9 (by decide +kernel) (by decide)).to (by rw [z0w]; rfl)
 have d5:=zov (T0:=T0) xV.1.2.2.1 xU.1.2.2.1
 have d6:=(zth (T0:=T0) xC.2.1.2.1.1 xC.2.1.2.1.2.1 xC.2.1.2.1.2.2.1 xC.2.1.2.1.2.2.2.1 xC.2.1.2.1.2.2.2.2 (by decide +kernel)).to (A':=SA []) (by rw [show zj1 xC.2.1.2.1.1 xC.2.1.2.1.2.1 xC.2.1.2.1.2.2.1 xC.2.1.2.1.2.2.2.1 = [] by kernel_rfl])
 have d7 : AP Tryz.prog T0 28 [puA xS.1] (B true):=(zbl xS.1 (by decide +kernel)).to (by rw [zcr,show zh9 xS.1 = true by kernel_rfl])
 have e9 : AP Tryz.prog T0 28 [puA zvq] (B false):=(zbl zvq (by decide)).to (by rw [zcr,show zh9 zvq = false by kernel_rfl])
 have d8 : AP Tryz.prog T0 28 [z0 [I 0,I 0,vA (.slice none 0 0),I 0,I 0,B false,B false,I 0,vA (.slice none 0 0),I 0,I 0,B false,vA (.slice none 0 0)]] (B false):=e9.pre qbp
 have d9 : True:=trivial
 have hat : xB.1.2.2.1[1]? = some ((0,0),false):=by kernel_rfl
 have hl : (xA.1 ++ xC.1).length ≤ 1000:=by decide +kernel
 rw [List.length_append] at hl
 have k1 : xU.2.2 = 0:=by kernel_rfl
 have k2 : xA.2.2 = 0:=by kernel_rfl
 have k3 : xC.2.2 = 0:=by kernel_rfl
 have k4 : xV.2.2 = 0:=by kernel_rfl
 have k5 : xN.2.2 = 1:=by kernel_rfl
 have k6 : xD.2.2 = 0:=by kernel_rfl
 have k7 : xS.2 = 0:=by kernel_rfl
 have k8 : xA.1 = [27,91,49,59,49,72,97]:=by kernel_rfl
 have k9 : xB.1.2.2.1.length = 3:=by kernel_rfl
 have l1 : xB.1.2.2.2.2.2.2 = false:=by kernel_rfl
 have l2 : xV.2.1 = []:=by kernel_rfl
 have l3 : xV.1.2.2.1 = xU.1.2.2.1:=by kernel_rfl
 have l4 : xV.1.2.2.2.1 = xU.1.2.2.2.1:=by kernel_rfl
 have l5 : xD.2.1.2.1.2.1.length = 5:=by kernel_rfl
 have l6 : xS.1.2.1.2.1.length = 0:=by kernel_rfl
 have l7 : xI.1 = []:=by kernel_rfl
 have l8 : xI.2.2.1.2.2.2.2 = true:=by kernel_rfl
 generalize xP = yP at *
 generalize xT = yT at *
 generalize xU = yU at *
 generalize xA = yA at *
 generalize xB = yB at *
 generalize xC = yC at *
 generalize xV = yV at *
 generalize xN = yN at *
 generalize xL = yL at *
 generalize xD = yD at *
 generalize xS = yS at *
 generalize xH = yH at *
 generalize xI = yI at *
 clear e8 e9
 refine za Tryz.func26 rfl (by decide) Tryz.ntmps26 rfl ?_
 repeat' (first
 |(with_reducible refine zaw ?_) | refine qc ?_ (hy:=by intro hk hk2; first | (apply zk6 rfl; exact qe; exact zgo; apply zam un_ el_; exact hat) | fail) | (apply j7 8; (case hB=>decide +kernel); (case hn=>rfl); (case hg=>decide +kernel); (case hm=>kernel_rfl); (case hs=>rfl)) | refine zo5 ?_ | (refine um rfl rfl rfl rfl al_ ?_; intro bn) | (apply ul rfl rfl rfl; (case hx=>exact oo_); (case hz=>exact sz_); (case hy=>exact oo_); (case hc=>exact zx8); (case hl=>rfl); (case h1=>exact zlr); (case hU=>exact zdi); (case hs=>exact zh7)) | (apply z4g rfl rfl rfl; (case hy=>exact y_)) | refine z66 ?_ | (apply zm (by rfl) (by kernel_rfl) (by kernel_rfl)) | refine sa_ ?_ | refine zw ?_ (c:=by first | exact c1 | exact c2 | exact c3 | exact c4 | exact c5 | exact c6 | exact c7 | exact c8 | exact c9 | exact d1 | exact d2 | exact d3 | exact d4 | exact d5 | exact d6 | exact d7 | exact d8 | exact d9 | fail) | refine x5 ?_ | refine zk ?_ (c:=by intro hk hk2; first | exact c1 | exact c2 | exact c3 | exact c4 | exact c5 | exact c6 | exact c7 | exact c8 | exact c9 | exact d1 | exact d2 | exact d3 | exact d4 | exact d5 | exact d6 | exact d7 | exact d8 | exact d9 | fail) | refine sw_ ?_ | (refine zb ?_ ?_ <;> intro hb <;> try exact no_) | (refine sx_ ?_ <;> intro bb) | (refine su_ ?_ <;> intro u hu1 hu2) | fail)
 refine ⟨_,[],rl_,List.nil_sublist _,Sub.eq (congrArg B ?_),rfl⟩
 simp [k1,k2,k3,k4,k5,k6,k7,k8,k9,l1,l2,l3,l4,l5,l6,l7,l8]
end Go.Proofs.YtgfmjmfphmjdkaaGreatDoor
namespace Go.Proofs.YtgfmjmfphmjdkaaGreatDoor
set_option maxHeartbeats 4000000
open Go Go.RowKit
set_option maxRecDepth 200000
def jx (p : Pu) : Prop:=p.1.2.2.1.length ≤ 2000 ∧ p.2.1.2.1.length ≤ 1000 ∧ p.2.2.length ≤ 1000
theorem zp0 {p : Pu} (hp : jg p = true) : jx p:=by
 obtain ⟨h1,_,_,h4,_⟩:=qi.1 hp
 have:=zh8 hp
 have:=(zj7 h1).2.1
 exact ⟨by omega,by omega,by omega⟩
theorem zn1 (X Y : Int) : (yg X Y).1.2.2.1.length ≤ 1920:=by
 unfold yg
 split
 ·rename_i h
  obtain ⟨w,h,rfl,rfl,h1,h2,h3,h4⟩:=kx h
  have:=vb h2 h4
  simpa using this
 ·simp [noB]
theorem zfe : jx zvq:=⟨by decide,by decide,by decide⟩
theorem zuy (w h : Int) : jx (zh_ w h).1:=by
 unfold zh_
 split
 ·exact ⟨by have:=zn1 w h; simp only; omega,by simp,by simp⟩
 ·exact zfe
theorem zdv {p : Pu} (hs : jx p) : jx (xx p):=by
 by_cases hp : jg p = true
 ·rw [zap hp]
  obtain ⟨h1,_,_,_,h5⟩:=qi.1 hp
  have k:=(zc7 (p.2.2.drop (p.2.1.2.1.take (zfa p.2.1.2.2.1)).length) p.1 h1 (by
   rw [List.all_eq_true] at h5 ⊢
   exact fun s z=>h5 s (List.mem_of_mem_drop z))).2.2.2.1
  refine ⟨by show (jr _ _).2.2.1.length ≤ 2000; rw [k]; exact hs.1, ?_, ?_⟩
  ·simp only [List.length_take]; have:=hs.2.1; omega
  ·simp only [List.length_take]; have:=hs.2.2; omega
 ·rw [show xx p = p from if_neg hp]; exact hs
theorem zsa {p : Pu} (hs : jx p) : jx (zdc p):=by
 have d:=zdv hs
 unfold zdc
 split
 ·exact ⟨by have:=zn1 (xx p).1.1 (xx p).1.2.1; simp only; omega,d.2.1,d.2.2⟩
 ·exact hs
theorem zr7 {p : Pu} (w h : Int) (hs : jx p) : jx (wa p w h).1:=by
 have d:=zdv hs
 unfold wa
 split
 ·split
  ·exact ⟨by have:=zn1 w h; simp only; omega,d.2.1,by simp only [List.length_replicate]; exact d.2.1⟩
  ·exact zfe
 ·exact zfe
theorem zr6 {p : Pu} (hs : jx p) : jx (zbh p):=by
 unfold zbh
 split
 ·exact ⟨hs.1,hs.2.1,hs.2.2⟩
 ·exact hs
theorem zr_ {p : Pu} (off : Bool) (hs : jx p) : jx (zc0 p off):=by
 unfold zc0 zwa
 split
 ·exact ⟨hs.1,hs.2.1,hs.2.2⟩
 ·exact hs
theorem zr9 {p : Pu} (g : Int) (hs : jx p) : jx (ue p g).2:=by
 by_cases hp : jg p = true
 ·rw [show ue p g = zo p g from if_pos hp]
  exact zp0 (wl hp).1
 ·rw [show ue p g = ([],p) from if_neg hp]; exact hs
theorem zr8 (p : Pu) (t : Tm) (g : Int) : jx (ua p t g).2.1:=by
 unfold ua
 split
 ·rename_i h; exact zp0 (znw (g:=g) h.1 h.2).2.2.2
 ·exact zfe
variable {T0 : Gh} [TabS T0] [TabU T0]
theorem zan {p : Pu} (hs : jx p) : AP Tryz.prog T0 27 [puA p,puA p] (B true):=z1f p (by have:=hs.1; omega) (by have:=hs.2.1; omega) (by have:=hs.2.2; omega)
attribute [local irreducible] z_ zg AW AL AO QY qd zx rsA Opd xi vA gvA zt z0 slA jc ipA rpA EqK LnK IxK LdK FaK FdK
theorem zsv (w h : Int) (p : Pu) : AP Tryz.prog T0 5 [I w,I h,puA p] (B true):=by
 have c2 : True:=trivial
 have c3 : True:=trivial
 have c4 : True:=trivial
 have c5 : True:=trivial
 have c6 : True:=trivial
 have c7 : True:=trivial
 have c8 : True:=trivial
 have c9 : True:=trivial
 have d1 : True:=trivial
 have d2 : True:=trivial
 have d3 : True:=trivial
 have d4 : True:=trivial
 have d5 : True:=trivial
 have d6 : True:=trivial
 have d7 : True:=trivial
 have d8 : True:=trivial
 have d9 : True:=trivial
 have c1:=zox (T0:=T0) p
 by_cases hbig : p.1.2.2.1.length ≤ 2000 ∧ p.2.1.2.1.length ≤ 200 ∧ p.2.2.length ≤ 200
 ·have hs : jx p:=⟨hbig.1,by omega,by omega⟩
  have c2:=zw8 (T0:=T0) w h
  have c3:=zs5 (T0:=T0) w h
  have c4:=zq5 (T0:=T0) p w h (by omega)
  have c5:=zw3 (T0:=T0) p w h (by omega)
  have c6:=zbl (T0:=T0) p (by omega)
  have c7:=ky (T0:=T0) p (by omega)
  have c8:=zan (T0:=T0) (zuy w h)
  have c9:=zan (T0:=T0) (zr7 w h hs)
  generalize zh_ w h = z1 at *
  generalize wa p w h = z2 at *
  generalize jg p = v at *
  refine za Tryz.func5 rfl (by decide) Tryz.ntmps5 rfl ?_
  repeat' (first
  |refine z63 ?_ | (refine zb ?_ ?_ <;> intro hb <;> try exact no_) | (refine sx_ ?_ <;> intro bb) | (refine su_ ?_ <;> intro u hu1 hu2) | fail)
  all_goals first | exact z7a | skip
 ·refine za Tryz.func5 rfl (by decide) Tryz.ntmps5 rfl ?_
  repeat' (first
  |refine z63 ?_ | (refine zb ?_ ?_ <;> intro hb <;> try exact no_) | (refine sx_ ?_ <;> intro bb) | (refine su_ ?_ <;> intro u hu1 hu2) | fail)
  all_goals first | exact z7a | skip
theorem zl0 (p : Pu) (t : Tm) (g : Int) (hg : g ≤ 9223372036854775807) : AP Tryz.prog T0 6 [puA p,tmA t,I g] (B true):=by
 have c2 : True:=trivial
 have c3 : True:=trivial
 have c4 : True:=trivial
 have c5 : True:=trivial
 have c6 : True:=trivial
 have c7 : True:=trivial
 have c8 : True:=trivial
 have c9 : True:=trivial
 have d1 : True:=trivial
 have d2 : True:=trivial
 have d3 : True:=trivial
 have d4 : True:=trivial
 have d5 : True:=trivial
 have d6 : True:=trivial
 have d7 : True:=trivial
 have d8 : True:=trivial
 have d9 : True:=trivial
 have c1:=zox (T0:=T0) p
 by_cases hbig : p.1.2.2.1.length ≤ 2000 ∧ p.2.1.2.1.length ≤ 200 ∧ p.2.2.length ≤ 200
 ·have c2:=zc9 (T0:=T0) p t g (by omega) hg
  have c3:=zw4 (T0:=T0) p t g (by omega) hg
  have c4:=zan (T0:=T0) (zr8 p t g)
  generalize ua p t g = z at *
  refine za Tryz.func6 rfl (by decide) Tryz.ntmps6 rfl ?_
  repeat' (first
  |refine z63 ?_ | (refine zb ?_ ?_ <;> intro hb <;> try exact no_) | (refine sx_ ?_ <;> intro bb) | (refine su_ ?_ <;> intro u hu1 hu2) | fail)
  all_goals first | exact z7a | skip
 ·refine za Tryz.func6 rfl (by decide) Tryz.ntmps6 rfl ?_
  repeat' (first
  |refine z63 ?_ | (refine zb ?_ ?_ <;> intro hb <;> try exact no_) | (refine sx_ ?_ <;> intro bb) | (refine su_ ?_ <;> intro u hu1 hu2) | fail)
  all_goals first | exact z7a | skip
theorem zn7 (p : Pu) (g : Int) (off : Bool) (hg : g ≤ 9223372036854775807) : AP Tryz.prog T0 8 [puA p,I g,B off] (B true):=by
 have c2 : True:=trivial
 have c3 : True:=trivial
 have c4 : True:=trivial
 have c5 : True:=trivial
 have c6 : True:=trivial
 have c7 : True:=trivial
 have c8 : True:=trivial
 have c9 : True:=trivial
 have d1 : True:=trivial
 have d2 : True:=trivial
 have d3 : True:=trivial
 have d4 : True:=trivial
 have d5 : True:=trivial
 have d6 : True:=trivial
 have d7 : True:=trivial
 have d8 : True:=trivial
 have d9 : True:=trivial
 have c1:=zox (T0:=T0) p
 by_cases hbig : p.1.2.2.1.length ≤ 2000 ∧ p.2.1.2.1.length ≤ 200 ∧ p.2.2.length ≤ 200
 ·have hs : jx p:=⟨hbig.1,by omega,by omega⟩
  have c2:=zq7 (T0:=T0) p g (by omega) hg
  have c3:=zmd (T0:=T0) p g (by omega) hg
  have c4:=zfr (T0:=T0) p (by omega)
  have c5:=zme (T0:=T0) p (by omega)
  have c6:=zq9 (T0:=T0) p (by omega)
  have c7:=zw7 (T0:=T0) p (by omega)
  have c8:=z1e (T0:=T0) p (by omega)
  have c9:=zw2 (T0:=T0) p (by omega)
  have d1:=zq8 (T0:=T0) p off (by omega)
  have d2:=zw5 (T0:=T0) p off (by omega)
  have d3:=zan (T0:=T0) (zr9 g hs)
  have d4:=zan (T0:=T0) (zdv hs)
  have d5:=zan (T0:=T0) (zsa hs)
  have d6:=zan (T0:=T0) (zr6 hs)
  have d7:=zan (T0:=T0) (zr_ off hs)
  generalize ue p g = z1 at *
  generalize xx p = z2 at *
  generalize zdc p = z3 at *
  generalize zbh p = z4 at *
  generalize zc0 p off = z5 at *
  refine za Tryz.func8 rfl (by decide) Tryz.ntmps8 rfl ?_
  repeat' (first
  |refine z63 ?_ | (refine zb ?_ ?_ <;> intro hb <;> try exact no_) | (refine sx_ ?_ <;> intro bb) | (refine su_ ?_ <;> intro u hu1 hu2) | fail)
  all_goals first | exact z7a | skip
 ·refine za Tryz.func8 rfl (by decide) Tryz.ntmps8 rfl ?_
  repeat' (first
  |refine z63 ?_ | (refine zb ?_ ?_ <;> intro hb <;> try exact no_) | (refine sx_ ?_ <;> intro bb) | (refine su_ ?_ <;> intro u hu1 hu2) | fail)
  all_goals first | exact z7a | skip
end Go.Proofs.YtgfmjmfphmjdkaaGreatDoor
