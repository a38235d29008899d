/- Layer 30 (pump), plainly: what the law PumpSound looks at behind each of its steps. No condition. -/
import Derived.Test.YtgfmjmfphmjdkaaGreatDoorR3J0
set_option linter.unusedSimpArgs false
set_option linter.unusedVariables false
set_option linter.unusedSectionVars false
namespace Go.Proofs.YtgfmjmfphmjdkaaGreatDoor
set_option maxHeartbeats 4000000
open Go Go.RowKit
set_option maxRecDepth 200000
structure Beh (rest s : List UInt8) (p : Pu) (t t1 v : Tm) : Prop where
 feed : km t (rest ++ s) = (t1,ku p,0)
 snd : Snd p t1
 feed2 : km t1 (ku p ++ qx p) = (v,[],0)
 agr : zxr p.1 v = true
 len : (rest ++ s).length ≤ 20000
 len2 : (ku p ++ qx p).length ≤ 20000
theorem u7 {p : Pu} (hp : x8 p = true) : (ku p ++ qx p).length ≤ 100 ∧ (ku p).length ≤ 48:=by
 obtain ⟨h1,h2,h3,h4,h5⟩:=zm.1 hp
 obtain ⟨f1,f2,f3,f4⟩:=zv h2
 have e : qr p.2.1.2.1 ≤ p.2.1.2.2.1.toNat + 48:=by omega
 have o:=zab h2
 have h9 : p.2.1.2.2.1.toNat ≤ 8:=by
  cases hL : p.2.1.2.1 with
  |nil=>rw [hL] at o; have:=o.2.1 rfl; omega
  |cons c l =>
   rw [hL] at o f2
   have:=o.2.2 c l rfl
   simp only [List.all_cons,Bool.and_eq_true] at f2
   have:=zau c
   omega
 rw [zfs,jf]
 refine ⟨by omega, ?_⟩
 unfold ku
 rw [List.length_take]
 omega
theorem zwn {p p' : Pu} {t : Tm} {s : List UInt8} (hp : x8 p = true) (ht : yt t = true) (h : ∃ cs : List Cmd,cs.all z9 = true ∧ ku p ++ s = qo cs ++ ku p' ∧ Snd p' (zae t cs)) (hs : s.length ≤ 10000) : ∃ t1 v,Beh (ku p) s p' t t1 v:=by
 obtain ⟨t1,h1,h2,v,h3,h4⟩:=zyf ht h
 have k:=u7 hp
 have k':=u7 h2.ok
 exact ⟨t1,v,h1,h2,h3,decide_eq_true h4,by rw [List.length_append]; omega,by omega⟩
theorem yo {p p' : Pu} {t : Tm} (hp : x8 p = true) (h : Snd p' t ∧ ku p' = ku p) : ∃ t1 v,Beh (ku p) [] p' t t1 v :=
 zwn hp h.1.tok ⟨[],rfl,by rw [h.2,List.append_nil]; rfl,h.1⟩ (by simp)
theorem z05 {p : Pu} {t want : Tm} {g : Int} (hS : Snd p t) (h0 : (vj p want g).2.2 = 0) (hg : g ≤ 10000) : ∃ t1 v,Beh (ku p) (vj p want g).1 (vj p want g).2.1 t t1 v:=by
 unfold vj at h0 ⊢
 by_cases hf : qz p.1 want
 ·rw [if_pos ⟨hS.ok,hf⟩]
  exact zwn hS.ok hS.tok (zyd hS hf) (by have:=(zgd (g:=g) hS.ok hf).2.1; simp only; omega)
 ·rw [if_neg (fun z=>hf z.2)] at h0
  exact absurd h0 (by decide)
theorem z06 {p : Pu} {t : Tm} {g : Int} (hS : Snd p t) : ∃ t1 v,Beh (ku p) (zbv p g).1 (zbv p g).2 t t1 v:=by
 rw [show zbv p g = zi p g from if_pos hS.ok]
 have k:=u7 hS.ok
 have e : (zi p g).1 ++ qx (zi p g).2 = qx p:=(k_ (g:=g) hS.ok).2.2.2.1
 have:=congrArg List.length e
 rw [List.length_append] at this
 rw [List.length_append] at k
 exact zwn hS.ok hS.tok (zop hS) (by omega)
theorem zs_ {p : Pu} {t : Tm} {W H : Int} (hS : Snd p t) : (wb t W H).2 = (vi p W H).2:=by
 rw [(zk9 t W H hS.tok).1]
 unfold vi
 rw [if_pos hS.ok]
 by_cases z : (ye W H).2 = 0
 ·rw [if_pos z,z]
 ·rw [if_neg z]
theorem z04 {p : Pu} {t : Tm} {W H : Int} (hS : Snd p t) (h0 : (vi p W H).2 = 0) : ∃ t1 v,Beh (ku p) [] (vi p W H).1 (wb t W H).1 t1 v:=by
 obtain ⟨_,s2,s3⟩:=zyc hS h0
 exact yo hS.ok ⟨s2,s3⟩
theorem z27 {t : Tm} (ht : yt t = true) : (ze1 t.1 t.2.1).2 = 0 ∧ Snd (ze1 t.1 t.2.1).1 t ∧ ku (ze1 t.1 t.2.1).1 = []:=by
 obtain ⟨n1,n2⟩:=znc ht
 have e : ze1 t.1 t.2.1 = (((ye t.1 t.2.1).1,(48,[],0,0,false),[]),0):=by unfold ze1; rw [if_pos n2]
 rw [e]
 exact ⟨rfl,⟨zm.2 ⟨n1.1,(zb1.2 ⟨⟨by decide,by decide,by decide,by decide,by decide⟩,rfl⟩ : okL 48 [] 0 0 = true),rfl,rfl,rfl⟩,ht,n1,fun _=>trivial,fun c l s sp e1 e2=>by cases e1⟩,rfl⟩
end Go.Proofs.YtgfmjmfphmjdkaaGreatDoor
