/- Layer 30 (pump): the example. No condition. -/
import Derived.Test.YtgfmjmfphmjdkaaGreatDoorR3JD
import Derived.Test.YtgfmjmfphmjdkaaGreatDoorR3ZN
import Derived.Test.YtgfmjmfphmjdkaaGreatDoorR3JA
import Derived.Test.YtgfmjmfphmjdkaaGreatDoorR3LA
import Derived.Test.YtgfmjmfphmjdkaaGreatDoorR3O2
import Derived.Test.YtgfmjmfphmjdkaaGreatDoorR3O4
set_option linter.unusedSimpArgs false
set_option linter.unusedVariables false
set_option linter.unusedSectionVars false
namespace Go.Proofs.YtgfmjmfphmjdkaaGreatDoor
set_option maxHeartbeats 4000000
open Go Go.RowKit
set_option maxRecDepth 200000
def xP : Pu:=((3,1,[((0,0),false),((0,0),false),((0,0),false)],0,0,false,false),(48,[],0,0,false),[])
def xT : Tm:=(3,1,[(32,0),(32,0),(32,0)],0,0,false)
def xU : Tm × List UInt8 × Int:=zpk xT [97,98]
def xA : List UInt8 × Pu × Int:=zdv xP xU.1 7
def xB : Pu:=u4 xA.2.1
def xC : List UInt8 × Pu × Int:=zdv xB xU.1 99
def xV : Tm × List UInt8 × Int:=zpk xT (xA.1 ++ xC.1)
def xN : List UInt8 × Pu × Int:=zdv xC.2.1 noT 1
def xL : Pu:=zn3 xC.2.1
def xD : List UInt8 × Pu × Int:=zdv xL xU.1 0
def xS : Pu × Int:=zm3 xD.2.1 4 1
def xH : Pu:=znm xD.2.1 true
def xI : List UInt8 × Pu:=znl xH 9
theorem qax {l l' : List AV} (h : SubL l l':=by
 first
 |(repeat' (first
   |exact y4
   |apply qu
   |exact Sub.refl _
   |exact zjb
   |apply un)
   done)
 |fail) : SubL l l':=h
variable {T0 : Gh} [TabS T0] [TabU T0]
attribute [local irreducible] zz zg AW AL AO QY qh z_ rsA Opd xh vA gvA zy qb slA jl ipA rpA EqK LnK IxK LdK FaK FdK
theorem zbe : AP Tryz.prog T0 26 [] (B true):=by
 have c1 : AP Tryz.prog T0 22 [I 3,I 1] (zy [puA xP,I 0]):=(zvi 3 1).to (by rw [show ze1 3 1 = (xP,0) by kernel_rfl])
 have c2 : AP Tryz.prog T0 61 [I 3,I 1] (zy [tmA xT,I 0]):=(zvf 3 1).to (by rw [show ze0 3 1 = ((3,1,[(32,0),(32,0),(32,0)]),0) by decide]; rfl)
 have c3 : AP Tryz.prog T0 44 [tmA xT,SA [97,98]] (zy [tmA xU.1,SA xU.2.1,I xU.2.2]):=(wo _ _ _ _ _ _ [97,98] (by decide)).to (by rw [zvb]; rfl)
 have c4 : AP Tryz.prog T0 30 [puA xP,tmA xU.1,I 7] (zy [SA xA.1,puA xA.2.1,I xA.2.2]):=(wm xP xU.1 7 (by decide) (by decide)).to (by rw [zfd]; rfl)
 have c5 : AP Tryz.prog T0 36 [puA xA.2.1] (puA xB):=(zfo xA.2.1 (by decide +kernel)).to (by rw [zkb]; rfl)
 have c6 : AP Tryz.prog T0 30 [puA xB,tmA xU.1,I 99] (zy [SA xC.1,puA xC.2.1,I xC.2.2]):=(wm xB xU.1 99 (by decide +kernel) (by decide)).to (by rw [zfd]; rfl)
 have c7 : AP Tryz.prog T0 44 [tmA xT,SA (xA.1 ++ xC.1)] (zy [tmA xV.1,SA xV.2.1,I xV.2.2]):=(wo _ _ _ _ _ _ (xA.1 ++ xC.1) (by decide +kernel)).to (by rw [zvb]; rfl)
 have e8 : AP Tryz.prog T0 30 [puA xC.2.1,vg 0 0 [] 0 0 false,I 1] (zy [SA xN.1,puA xN.2.1,I xN.2.2]):=(wm xC.2.1 noT 1 (by decide +kernel) (by decide)).to (by rw [zfd]; rfl)
 have c8 : AP Tryz.prog T0 30 [puA xC.2.1,qb [I 0,I 0,vA (.slice none 0 0),I 0,I 0,B false],I 1] (zy [SA xN.1,puA xN.2.1,I xN.2.2]):=e8.pre qax
 have c9 : AP Tryz.prog T0 38 [puA xC.2.1] (puA xL):=(zpr xC.2.1 (by decide +kernel)).to (by rw [z03]; rfl)
 have d1 : AP Tryz.prog T0 30 [puA xL,tmA xU.1,I 0] (zy [SA xD.1,puA xD.2.1,I xD.2.2]):=(wm xL xU.1 0 (by decide +kernel) (by decide)).to (by rw [zfd]; rfl)
 have d2 : AP Tryz.prog T0 24 [puA xD.2.1,I 4,I 1] (zy [puA xS.1,I xS.2]):=(zpo xD.2.1 4 1 (by decide +kernel)).to (by rw [zyj]; rfl)
 have d3 : AP Tryz.prog T0 42 [puA xD.2.1,B true] (puA xH):=(zpq xD.2.1 true (by decide +kernel)).to (by rw [zzq]; rfl)
 have d4 : AP Tryz.prog T0 32 [puA xH,I 9] (zy [SA xI.1,puA xI.2]):=(zj4 xH 9 (by decide +kernel) (by decide)).to (by rw [zzo]; rfl)
 have d5:=zb6 (T0:=T0) xV.1.2.2.1 xU.1.2.2.1
 have d6:=(zir (T0:=T0) xC.2.1.2.1.1 xC.2.1.2.1.2.1 xC.2.1.2.1.2.2.1 xC.2.1.2.1.2.2.2.1 xC.2.1.2.1.2.2.2.2 (by decide +kernel)).to (A':=SA []) (by rw [show ztj xC.2.1.2.1.1 xC.2.1.2.1.2.1 xC.2.1.2.1.2.2.1 xC.2.1.2.1.2.2.2.1 = [] by kernel_rfl])
 have d7 : AP Tryz.prog T0 28 [puA xS.1] (B true):=(wk xS.1 (by decide +kernel)).to (by rw [zcp,show zhz xS.1 = true by kernel_rfl])
 have e9 : AP Tryz.prog T0 28 [puA zxi] (B false):=(wk zxi (by decide)).to (by rw [zcp,show zhz zxi = false by kernel_rfl])
 have d8 : AP Tryz.prog T0 28 [qb [I 0,I 0,vA (.slice none 0 0),I 0,I 0,B false,B false,I 0,vA (.slice none 0 0),I 0,I 0,B false,vA (.slice none 0 0)]] (B false):=e9.pre qax
 have d9 : True:=trivial
 have hat : xB.1.2.2.1[1]? = some ((0,0),false):=by kernel_rfl
 have hl : (xA.1 ++ xC.1).length ≤ 1000:=by decide +kernel
 rw [List.length_append] at hl
 have k1 : xU.2.2 = 0:=by kernel_rfl
 have k2 : xA.2.2 = 0:=by kernel_rfl
 have k3 : xC.2.2 = 0:=by kernel_rfl
 have k4 : xV.2.2 = 0:=by kernel_rfl
 have k5 : xN.2.2 = 1:=by kernel_rfl
 have k6 : xD.2.2 = 0:=by kernel_rfl
 have k7 : xS.2 = 0:=by kernel_rfl
 have k8 : xA.1 = [27,91,49,59,49,72,97]:=by kernel_rfl
 have k9 : xB.1.2.2.1.length = 3:=by kernel_rfl
 have l1 : xB.1.2.2.2.2.2.2 = false:=by kernel_rfl
 have l2 : xV.2.1 = []:=by kernel_rfl
 have l3 : xV.1.2.2.1 = xU.1.2.2.1:=by kernel_rfl
 have l4 : xV.1.2.2.2.1 = xU.1.2.2.2.1:=by kernel_rfl
 have l5 : xD.2.1.2.1.2.1.length = 5:=by kernel_rfl
 have l6 : xS.1.2.1.2.1.length = 0:=by kernel_rfl
 have l7 : xI.1 = []:=by kernel_rfl
 have l8 : xI.2.2.1.2.2.2.2 = true:=by kernel_rfl
 generalize xP = yP at *
 generalize xT = yT at *
 generalize xU = yU at *
 generalize xA = yA at *
 generalize xB = yB at *
 generalize xC = yC at *
 generalize xV = yV at *
 generalize xN = yN at *
 generalize xL = yL at *
 generalize xD = yD at *
 generalize xS = yS at *
 generalize xH = yH at *
 generalize xI = yI at *
 clear e8 e9
 refine za Tryz.func26 rfl (by decide) Tryz.ntmps26 rfl ?_
 repeat' (first
 |(with_reducible refine zoc ?_) | refine qj ?_ (hy:=by intro hk hk2; first | (apply zpb rfl; exact ql; exact zih; apply zgu un_ el_; exact hat) | fail) | (apply xf 8; (case hB=>decide +kernel); (case hn=>rfl); (case hg=>decide +kernel); (case hm=>kernel_rfl); (case hs=>rfl)) | refine zru ?_ | (refine qw rfl rfl rfl rfl al_ ?_; intro bn) | (apply qv rfl rfl rfl; (case hx=>exact oo_); (case hz=>exact sz_); (case hy=>exact oo_); (case hc=>exact zc8); (case hl=>rfl); (case h1=>exact vw); (case hU=>exact yd); (case hs=>exact vh)) | (apply zew rfl rfl rfl; (case hy=>exact y_)) | refine z_1 ?_ | (apply zw (by rfl) (by kernel_rfl) (by kernel_rfl)) | refine sa_ ?_ | refine qd ?_ (c:=by first | exact c1 | exact c2 | exact c3 | exact c4 | exact c5 | exact c6 | exact c7 | exact c8 | exact c9 | exact d1 | exact d2 | exact d3 | exact d4 | exact d5 | exact d6 | exact d7 | exact d8 | exact d9 | fail) | refine j0 ?_ | refine zr ?_ (c:=by intro hk hk2; first | exact c1 | exact c2 | exact c3 | exact c4 | exact c5 | exact c6 | exact c7 | exact c8 | exact c9 | exact d1 | exact d2 | exact d3 | exact d4 | exact d5 | exact d6 | exact d7 | exact d8 | exact d9 | fail) | refine sw_ ?_ | (refine zd ?_ ?_ <;> intro hb <;> try exact no_) | (refine sx_ ?_ <;> intro bb) | (refine su_ ?_ <;> intro u hu1 hu2) | fail)
 refine ⟨_,[],rl_,List.nil_sublist _,Sub.eq (congrArg B ?_),rfl⟩
 simp [k1,k2,k3,k4,k5,k6,k7,k8,k9,l1,l2,l3,l4,l5,l6,l7,l8]
end Go.Proofs.YtgfmjmfphmjdkaaGreatDoor
namespace Go.Proofs.YtgfmjmfphmjdkaaGreatDoor
set_option maxHeartbeats 4000000
open Go Go.RowKit
set_option maxRecDepth 200000
def zs9 (p : Pu) : Prop:=p.1.2.2.1.length ≤ 2000 ∧ p.2.1.2.1.length ≤ 1000 ∧ p.2.2.length ≤ 1000
theorem zyh {p : Pu} (hp : x8 p = true) : zs9 p:=by
 obtain ⟨h1,_,_,h4,_⟩:=zm.1 hp
 have:=zhy hp
 have:=(zfe h1).2.1
 exact ⟨by omega,by omega,by omega⟩
variable {T0 : Gh} [TabS T0] [TabU T0]
theorem z4c {p : Pu} (hs : zs9 p) : AP Tryz.prog T0 27 [puA p,puA p] (B true):=z0a p (by have:=hs.1; omega) (by have:=hs.2.1; omega) (by have:=hs.2.2; omega)
attribute [local irreducible] zz zg AW AL AO QY qh z_ rsA Opd xh vA gvA zy qb slA jl ipA rpA EqK LnK IxK LdK FaK FdK
end Go.Proofs.YtgfmjmfphmjdkaaGreatDoor
