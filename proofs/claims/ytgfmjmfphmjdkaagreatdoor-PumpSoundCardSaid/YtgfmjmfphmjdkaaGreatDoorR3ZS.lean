/- Several texts in one: see the comment ahead of each. No condition. -/
import Derived.Test.YtgfmjmfphmjdkaaGreatDoorR3ZU
import Derived.Test.YtgfmjmfphmjdkaaGreatDoorR3ZV
import Derived.Recover
import Derived.Defers
set_option linter.unusedSimpArgs false
set_option linter.unusedVariables false
set_option linter.unusedSectionVars false
namespace Go.Proofs.YtgfmjmfphmjdkaaGreatDoor
set_option maxHeartbeats 4000000
section
open Go Go.RowKit
variable {T0 : Gh}
set_option maxRecDepth 100000
theorem zsu : Tryz.prog.underlying 168 = some (.struct #[{ name := "s",type:=9,offset:=0,embedded:=false,tag := "",pkgPath := "typebar/scan",byteOffset:=0 },{ name := "at",type:=3,offset:=1,embedded:=false,tag := "",pkgPath := "typebar/scan",byteOffset:=16 }]):=Tryz.underlying168
instance qd5 : FldC 168 0 0 9:=⟨_,_,zsu,rfl,rfl,rfl⟩
instance qd4 : FldC 168 1 1 3:=⟨_,_,zsu,rfl,rfl,rfl⟩
instance qe9 : SzC 168 2:=⟨xg (by kernel_rfl)⟩
instance qbr : SpC 9:=⟨jn (n:=0) (by kernel_rfl)⟩
instance qfg : StC 168 [SA [],I 0] [(0,1),(1,1)]:=⟨StT.mk' _ [.string ⟨#[]⟩,.int .i64 0] zsu (by kernel_rfl) (by kernel_rfl)⟩
instance qf1 : AlC 168 (.agg #[.string ⟨#[]⟩,.int .i64 0]) [.string ⟨#[]⟩,.int .i64 0] [SA [],I 0]:=⟨by kernel_rfl,rfl,rfl⟩
instance qbn : UnC 31 (.int .i64):=⟨Tryz.underlying31⟩
instance qbq : SzC 31 1:=⟨xg (by kernel_rfl)⟩
abbrev ptA (b : Nat) : AV:=vA (.pointer (some ⟨b,0,none⟩))
abbrev rdO (b : Nat) (s : List UInt8) (p : Nat) : Own:=qh b 168 [SA s,I p]
abbrev zv0 (e : Int) : List PanicEntry:=[{ v:=.iface 31 (.int .i64 e),recovered:=false }]
attribute [local irreducible] zz zg AW AL AO QY qh z_ rsA Opd xh vA gvA zy qb slA jl ipA rpA EqK LnK IxK LdK FaK FdK
theorem ziq (b : Nat) (s : List UInt8) (p : Nat) (x : UInt8) (hs : s.length ≤ 9223372036854775807) (hx : s[p]? = some x) : AF Tryz.prog T0 174 [ptA b] [rdO b s p] (fun A M'=>A = UB x ∧ M' = [rdO b s p]) (fun _ _=>False):=by
 have hp : p < s.length:=(List.getElem?_eq_some_iff.1 hx).1
 refine za Tryz.func174 rfl (by decide) Tryz.ntmps174 rfl ?_
 repeat' (first
 |(apply qi rfl rfl rfl; (case hx=>exact oo_)) | refine ze3 ?_ | (refine zd ?_ ?_ <;> intro hb <;> try exact no_) | (refine sx_ ?_ <;> intro bb) | (refine su_ ?_ <;> intro u hu1 hu2) | fail)
 exact ⟨_,[rdO b s p],rl_,sl_,rfl,rfl⟩
theorem zj6 (b : Nat) (s : List UInt8) (hs : s.length ≤ 9223372036854775807) : AF Tryz.prog T0 174 [ptA b] [rdO b s s.length] (fun _ _=>False) (fun c _=>c = zv0 3):=by
 refine za Tryz.func174 rfl (by decide) Tryz.ntmps174 rfl ?_
 repeat' (first
 |(apply qi rfl rfl rfl; (case hx=>exact oo_)) | refine ze3 ?_ | (refine zd ?_ ?_ <;> intro hb <;> try exact no_) | (refine sx_ ?_ <;> intro bb) | (refine su_ ?_ <;> intro u hu1 hu2) | fail)
 exact zcg rfl
theorem zpm (b : Nat) (s : List UInt8) (p : Nat) (x : UInt8) (hs : s.length ≤ 9223372036854775807) (hx : s[p]? = some x) : AF Tryz.prog T0 175 [ptA b] [rdO b s p] (fun A M'=>A = UB x ∧ M' = [rdO b s (p + 1)]) (fun _ _=>False):=by
 have hp : p < s.length:=(List.getElem?_eq_some_iff.1 hx).1
 have cp:=ziq (T0:=T0) b s p x hs hx
 refine za Tryz.func175 rfl (by decide) Tryz.ntmps175 rfl ?_
 repeat' (first
 |(apply zb rfl rfl rfl rfl (c:=cp)
   case ha=>exact os_
   case hM=>exact zf
   rintro _ _ ⟨rfl,rfl⟩)
 |refine ze3 ?_ | (refine zd ?_ ?_ <;> intro hb <;> try exact no_) | (refine sx_ ?_ <;> intro bb) | (refine su_ ?_ <;> intro u hu1 hu2) | fail)
 exact ⟨_,[rdO b s (p + 1)],rl_,sl_,rfl,rfl⟩
theorem z4a (b : Nat) (s : List UInt8) (hs : s.length ≤ 9223372036854775807) : AF Tryz.prog T0 175 [ptA b] [rdO b s s.length] (fun _ _=>False) (fun c _=>c = zv0 3):=by
 have cp:=zj6 (T0:=T0) b s hs
 refine za Tryz.func175 rfl (by decide) Tryz.ntmps175 rfl ?_
 repeat' (first
 |(apply zo rfl rfl rfl rfl (c:=cp)
   case ha=>exact os_
   case hM=>exact zf
   case h=>exact fun _ _ h=>h.elim
   rintro _ _ rfl)
 |refine ze3 ?_ | (refine zd ?_ ?_ <;> intro hb <;> try exact no_) | (refine sx_ ?_ <;> intro bb) | (refine su_ ?_ <;> intro u hu1 hu2) | fail)
 exact zcg rfl
end
section
open Go Go.RowKit
variable {T0 : Gh}
set_option maxRecDepth 100000
theorem zv5 {s : List UInt8} {p : Nat} {x : UInt8} (h : s[p]? = some x) : s.drop p = x :: s.drop (p + 1):=by
 obtain ⟨h1,h2⟩:=List.getElem?_eq_some_iff.1 h
 rw [← h2]; exact List.drop_eq_getElem_cons h1
attribute [local irreducible] zz zg AW AL AO QY qh z_ rsA Opd xh vA gvA zy qb slA jl ipA rpA EqK LnK IxK LdK FaK FdK
theorem zpt (b : Nat) (s : List UInt8) (p : Nat) (hs : s.length ≤ 9223372036854775807) (hp : p ≤ s.length) : AF Tryz.prog T0 190 [ptA b,I 80] [rdO b s p]
  (fun A M' => ∃ n t,zai 80 0 (s.drop p) = (0,n,t) ∧ A = I n ∧ M' = [rdO b s (s.length - t.length)]) (fun c _ => ∃ e,e ≠ 0 ∧ (zai 80 0 (s.drop p)).1 = e ∧ c = zv0 e):=by
 by_cases h0 : p = s.length
 ·subst h0
  have cp : True:=trivial
  have cq:=zj6 (T0:=T0) b s hs
  have e : zai 80 0 (s.drop s.length) = (3,0,[]):=by rw [List.drop_length]; rfl
  rw [e]
  refine za Tryz.func190 rfl (by decide) Tryz.ntmps190 rfl ?_
  repeat' (first
  |(apply zb rfl rfl rfl rfl (c:=cp)
    case ha=>exact os_
    case hM=>exact zf
    rintro _ _ ⟨rfl,rfl⟩)
   |(apply zo rfl rfl rfl rfl (c:=cq)
     case ha=>exact os_
     case hM=>exact zf
     case h=>exact fun _ _ h=>h.elim
     rintro _ _ rfl)
  |(apply qi rfl rfl rfl; (case hx=>exact oo_)) | refine ze3 ?_ | (refine zd ?_ ?_ <;> intro hb <;> try exact no_) | (refine sx_ ?_ <;> intro bb) | (refine su_ ?_ <;> intro u hu1 hu2) | fail)
  exact zcg ⟨3,by decide,rfl,rfl⟩
 ·obtain ⟨x,hx⟩ : ∃ x,s[p]? = some x:=⟨_,List.getElem?_eq_getElem (by omega)⟩
  have cp:=ziq (T0:=T0) b s p x hs hx
  have cq : True:=trivial
  refine za Tryz.func190 rfl (by decide) Tryz.ntmps190 rfl ?_
  repeat' (first
  |(apply zb rfl rfl rfl rfl (c:=cp)
    case ha=>exact os_
    case hM=>exact zf
    rintro _ _ ⟨rfl,rfl⟩)
   |(apply zo rfl rfl rfl rfl (c:=cq)
     case ha=>exact os_
     case hM=>exact zf
     case h=>exact fun _ _ h=>h.elim
     rintro _ _ rfl)
  |(apply qi rfl rfl rfl; (case hx=>exact oo_)) | refine ze3 ?_ | (refine zd ?_ ?_ <;> intro hb <;> try exact no_) | (refine sx_ ?_ <;> intro bb) | (refine su_ ?_ <;> intro u hu1 hu2) | fail)
  refine zr_ (σ:=Nat × Nat × UInt8) (fun y=>[(5,I y.1),(6,UB y.2.2)]) (fun y=>[SA s,I y.2.1]) (fun y=>s[y.2.1]? = some y.2.2 ∧ y.1 ≤ 80 ∧ zai 80 0 (s.drop p) = zai 80 y.1 (s.drop y.2.1)) (fun y=>s.length - y.2.1) (0,p,x) ⟨hx,Nat.zero_le _,rfl⟩ rfl ?_
  rintro ⟨n,q,z⟩ ⟨hz,hn,he⟩
  simp only at hz hn he ⊢
  have hq:=(List.getElem?_eq_some_iff.1 hz).1
  have hz2:=z.toNat_lt
  rw [zv5 hz,zas] at he
  clear cp cq
  by_cases hd : dig z
  ·rw [if_pos hd] at he
   unfold dig at hd
   by_cases hk : n * 10 + (z.toNat - 48) = 0 ∨ 80 < n * 10 + (z.toNat - 48)
   ·rw [if_pos hk] at he
    have cp : True:=trivial
    have cq : True:=trivial
    repeat' (first
    |(apply zb rfl rfl rfl rfl (c:=cp)
      case ha=>exact os_
      case hM=>exact zf
      rintro _ _ ⟨rfl,rfl⟩)
     |(apply zo rfl rfl rfl rfl (c:=cq)
       case ha=>exact os_
       case hM=>exact zf
       case h=>exact fun _ _ h=>h.elim
       rintro _ _ rfl)
    |(apply qi rfl rfl rfl; (case hx=>exact oo_)) | refine ze3 ?_ | (refine zd ?_ ?_ <;> intro hb <;> try exact no_) | (refine sx_ ?_ <;> intro bb) | (refine su_ ?_ <;> intro u hu1 hu2) | fail)
    ·exact zcg ⟨2,by decide,by rw [he],rfl⟩
    all_goals (exfalso; omega)
   ·rw [if_neg hk] at he
    by_cases hl : q + 1 = s.length
    ·have cp : True:=trivial
     have cq : AF Tryz.prog T0 174 [ptA b] [rdO b s (q + 1)] (fun _ _=>False) (fun c _=>c = zv0 3):=by rw [hl]; exact zj6 b s hs
     have e : zai 80 (n * 10 + (z.toNat - 48)) (s.drop (q + 1)) = (3,0,[]):=by rw [hl,List.drop_length]; rfl
     rw [e] at he
     repeat' (first
     |(apply zb rfl rfl rfl rfl (c:=cp)
       case ha=>exact os_
       case hM=>exact zf
       rintro _ _ ⟨rfl,rfl⟩)
      |(apply zo rfl rfl rfl rfl (c:=cq)
        case ha=>exact os_
        case hM=>exact zf
        case h=>exact fun _ _ h=>h.elim
        rintro _ _ rfl)
     |(apply qi rfl rfl rfl; (case hx=>exact oo_)) | refine ze3 ?_ | (refine zd ?_ ?_ <;> intro hb <;> try exact no_) | (refine sx_ ?_ <;> intro bb) | (refine su_ ?_ <;> intro u hu1 hu2) | fail)
     all_goals first | exact zcg ⟨3,by decide,by rw [he],rfl⟩ | (exfalso; omega)
    ·obtain ⟨y,hy⟩ : ∃ y,s[q + 1]? = some y:=⟨_,List.getElem?_eq_getElem (by omega)⟩
     have cp:=ziq (T0:=T0) b s (q + 1) y hs hy
     have cq : True:=trivial
     repeat' (first
     |(apply zb rfl rfl rfl rfl (c:=cp)
       case ha=>exact os_
       case hM=>exact zf
       rintro _ _ ⟨rfl,rfl⟩)
      |(apply zo rfl rfl rfl rfl (c:=cq)
        case ha=>exact os_
        case hM=>exact zf
        case h=>exact fun _ _ h=>h.elim
        rintro _ _ rfl)
     |(apply qi rfl rfl rfl; (case hx=>exact oo_)) | refine ze3 ?_ | (refine zd ?_ ?_ <;> intro hb <;> try exact no_) | (refine sx_ ?_ <;> intro bb) | (refine su_ ?_ <;> intro u hu1 hu2) | fail)
     all_goals first | exact e1_ | skip
     exact ⟨(n * 10 + (z.toNat - 48),q + 1,y),⟨hy,by simp only; omega,he⟩,by simp only; omega,by dsimp only; exact wx_,sl_⟩
  ·rw [if_neg hd] at he
   unfold dig at hd
   have cp : True:=trivial
   have cq : True:=trivial
   by_cases hk : n = 0
   ·subst hk
    rw [if_pos rfl] at he
    repeat' (first
    |(apply zb rfl rfl rfl rfl (c:=cp)
      case ha=>exact os_
      case hM=>exact zf
      rintro _ _ ⟨rfl,rfl⟩)
     |(apply zo rfl rfl rfl rfl (c:=cq)
       case ha=>exact os_
       case hM=>exact zf
       case h=>exact fun _ _ h=>h.elim
       rintro _ _ rfl)
    |(apply qi rfl rfl rfl; (case hx=>exact oo_)) | refine ze3 ?_ | (refine zd ?_ ?_ <;> intro hb <;> try exact no_) | (refine sx_ ?_ <;> intro bb) | (refine su_ ?_ <;> intro u hu1 hu2) | fail)
    all_goals first | exact zcg ⟨2,by decide,by rw [he],rfl⟩ | (exfalso; omega)
   ·rw [if_neg hk] at he
    repeat' (first
    |(apply zb rfl rfl rfl rfl (c:=cp)
      case ha=>exact os_
      case hM=>exact zf
      rintro _ _ ⟨rfl,rfl⟩)
     |(apply zo rfl rfl rfl rfl (c:=cq)
       case ha=>exact os_
       case hM=>exact zf
       case h=>exact fun _ _ h=>h.elim
       rintro _ _ rfl)
    |(apply qi rfl rfl rfl; (case hx=>exact oo_)) | refine ze3 ?_ | (refine zd ?_ ?_ <;> intro hb <;> try exact no_) | (refine sx_ ?_ <;> intro bb) | (refine su_ ?_ <;> intro u hu1 hu2) | fail)
    all_goals first | exact e1_ | skip
    refine ⟨_,[rdO b s q],rl_,sl_,n,_,he,rfl, ?_⟩
    rw [show s.length - (z :: s.drop (q + 1)).length = q by rw [List.length_cons,List.length_drop]; omega]
end
section
open Go Go.RowKit
variable {T0 : Gh}
set_option maxRecDepth 100000
theorem zfq {s t : List UInt8} {p : Nat} (h : s.drop p = t) (hp : p ≤ s.length) : t.length = s.length - p:=by rw [← h,List.length_drop]
theorem z2o {s l t : List UInt8} {p : Nat} (h : s.drop p = l ++ t) (hp : p ≤ s.length) : s.drop (p + l.length) = t ∧ p + l.length + t.length = s.length:=by
 have h1:=congrArg (List.drop l.length) h
 rw [List.drop_drop,List.drop_left] at h1
 have h2:=congrArg List.length h
 rw [List.length_drop,List.length_append] at h2
 exact ⟨h1,by omega⟩
theorem z0r {m : Nat} (h : m < 100) : ∃ k y,(v8 m).length = k + 1 ∧ (v8 m)[k]? = some y ∧ y.toNat ≤ 57:=by
 unfold v8; split
 ·exact ⟨0,_,rfl,rfl,by simp; omega⟩
 ·exact ⟨1,_,rfl,rfl,by simp; omega⟩
theorem zkf {s t : List UInt8} {p : Nat} {x : UInt8} (h : s.drop p = x :: t) : s[p]? = some x ∧ s.drop (p + 1) = t:=by
 have h1 : s[p]? = some x:=by
  have:=congrArg (fun l : List UInt8=>l[0]?) h
  simpa [List.getElem?_drop] using this
 rw [zv5 h1] at h
 exact ⟨h1,(List.cons.inj h).2⟩
def RdK (b : Nat) (s : List UInt8) (r : Sc) : AV → List Own → Prop:=fun A M' => ∃ c t,r = (0,c,t) ∧ A = yw c ∧ M' = [rdO b s (s.length - t.length)]
def RdP (r : Sc) : List PanicEntry → List Own → Prop:=fun c _ => ∃ e,e ≠ 0 ∧ r.1 = e ∧ c = zv0 e
attribute [local irreducible] zz zg AW AL AO QY qh z_ rsA Opd xh vA gvA zy qb slA jl ipA rpA EqK LnK IxK LdK FaK FdK
theorem zlj {b : Nat} {s : List UInt8} {p m : Nat} {t : List UInt8} (hs : s.length ≤ 9223372036854775807) (hp : p ≤ s.length) (h : zai 80 0 (s.drop p) = (0,m,t)) : AF Tryz.prog T0 190 [ptA b,I 80] [rdO b s p] (fun A M'=>A = I m ∧ M' = [rdO b s (s.length - t.length)]) (fun _ _=>False):=by
 refine (zpt b s p hs hp).mono (fun A M' ⟨n,t',h1,h2,h3⟩ => ?_) (fun c _ ⟨e,h1,h2,_⟩ => ?_)
 ·rw [h] at h1
  simp only [Prod.mk.injEq,true_and] at h1
  obtain ⟨rfl,rfl⟩:=h1
  exact ⟨h2,h3⟩
 ·rw [h] at h2; exact h1 h2.symm
theorem zcq {b : Nat} {s : List UInt8} {p : Nat} {e : Int} (hs : s.length ≤ 9223372036854775807) (hp : p ≤ s.length) (h : zai 80 0 (s.drop p) = (e,0,[])) (he : e ≠ 0) : AF Tryz.prog T0 190 [ptA b,I 80] [rdO b s p] (fun _ _=>False) (fun c _=>c = zv0 e):=by
 refine (zpt b s p hs hp).mono (fun A M' ⟨n,t',h1,h2,h3⟩ => ?_) (fun c _ ⟨e',h1,h2,h3⟩ => ?_)
 ·rw [h] at h1
  simp only [Prod.mk.injEq] at h1
  exact he h1.1
 ·rw [h] at h2; simp only at h2; rw [h2]; exact h3
theorem zvr (b : Nat) (s : List UInt8) (p : Nat) (hs : s.length ≤ 9223372036854775807) (hp : p + 1 ≤ s.length) (h91 : s[p]? = some 91) : AF Tryz.prog T0 176 [ptA b] [rdO b s (p + 1)] (RdK b s (zem (s.drop (p + 1)))) (RdP (zem (s.drop (p + 1)))):=by
 cases hl : s.drop (p + 1) with
 |nil =>
  have hp2 : p + 1 = s.length:=by have:=congrArg List.length hl; rw [List.length_drop] at this; simp at this; omega
  have cq : AF Tryz.prog T0 174 [ptA b] [rdO b s (p + 1)] (fun _ _=>False) (fun c _=>c = zv0 3):=by rw [hp2]; exact zj6 b s hs
  have cp : True:=trivial
  have ct : True:=trivial
  have cn : True:=trivial
  have cm : True:=trivial
  have cv : True:=trivial
  have cw : True:=trivial
  refine za Tryz.func176 rfl (by decide) Tryz.ntmps176 rfl ?_
  repeat' (first
  |(apply zb rfl rfl rfl rfl (c:=cp)
    case ha=>exact os_
    case hM=>exact zf
    rintro _ _ ⟨rfl,rfl⟩)
   |(apply zb rfl rfl rfl rfl (c:=ct)
     case ha=>exact os_
     case hM=>exact zf
     rintro _ _ ⟨rfl,rfl⟩)
   |(apply zb rfl rfl rfl rfl (c:=cn)
     case ha=>exact os_
     case hM=>exact zf
     rintro _ _ ⟨rfl,rfl⟩)
   |(apply zb rfl rfl rfl rfl (c:=cm)
     case ha=>exact os_
     case hM=>exact zf
     rintro _ _ ⟨rfl,rfl⟩)
   |(apply zb rfl rfl rfl rfl (c:=cv)
     case ha=>exact os_
     case hM=>exact zf
     rintro _ _ ⟨rfl,rfl⟩)
   |(apply zb rfl rfl rfl rfl (c:=cw)
     case ha=>exact os_
     case hM=>exact zf
     rintro _ _ ⟨rfl,rfl⟩)
   |(apply zo rfl rfl rfl rfl (c:=cq)
     case ha=>exact os_
     case hM=>exact zf
     case h=>exact fun _ _ h=>h.elim
     rintro _ _ rfl)
  |(apply qi rfl rfl rfl; (case hx=>exact oo_)) | refine ze3 ?_ | (refine zd ?_ ?_ <;> intro hb <;> try exact no_) | (refine sx_ ?_ <;> intro bb) | (refine su_ ?_ <;> intro u hu1 hu2) | fail)
  exact zcg ⟨3,by decide,rfl,rfl⟩
 |cons x l =>
  obtain ⟨hx,hl2⟩:=zkf hl
  have hxp:=(List.getElem?_eq_some_iff.1 hx).1
  have hx2:=x.toNat_lt
  have cp:=ziq (T0:=T0) b s (p + 1) x hs hx
  by_cases hd : dig x
  ·have hd':=hd
   unfold dig at hd'
   rcases zfg (most:=80) (by decide) (x :: l) with ⟨k,m,m1,m2,e,hk,hn⟩ | ⟨m,b2,t,m1,m2,e,hb2,hn⟩ | hn | h0
   ·have e2 : zem (x :: l) = nok 3:=by rw [zem,if_pos hd,hn]; rfl
    rw [e2]
    have cq:=zcq (T0:=T0) (b:=b) hs (by omega) (hl ▸ hn) (by decide)
    have ct : True:=trivial
    have cn : True:=trivial
    have cm : True:=trivial
    have cv : True:=trivial
    have cw : True:=trivial
    refine za Tryz.func176 rfl (by decide) Tryz.ntmps176 rfl ?_
    repeat' (first
    |(apply zb rfl rfl rfl rfl (c:=cp)
      case ha=>exact os_
      case hM=>exact zf
      rintro _ _ ⟨rfl,rfl⟩)
     |(apply zb rfl rfl rfl rfl (c:=ct)
       case ha=>exact os_
       case hM=>exact zf
       rintro _ _ ⟨rfl,rfl⟩)
     |(apply zb rfl rfl rfl rfl (c:=cn)
       case ha=>exact os_
       case hM=>exact zf
       rintro _ _ ⟨rfl,rfl⟩)
     |(apply zb rfl rfl rfl rfl (c:=cm)
       case ha=>exact os_
       case hM=>exact zf
       rintro _ _ ⟨rfl,rfl⟩)
     |(apply zb rfl rfl rfl rfl (c:=cv)
       case ha=>exact os_
       case hM=>exact zf
       rintro _ _ ⟨rfl,rfl⟩)
     |(apply zb rfl rfl rfl rfl (c:=cw)
       case ha=>exact os_
       case hM=>exact zf
       rintro _ _ ⟨rfl,rfl⟩)
     |(apply zo rfl rfl rfl rfl (c:=cq)
       case ha=>exact os_
       case hM=>exact zf
       case h=>exact fun _ _ h=>h.elim
       rintro _ _ rfl)
    |(apply qi rfl rfl rfl; (case hx=>exact oo_)) | refine ze3 ?_ | (refine zd ?_ ?_ <;> intro hb <;> try exact no_) | (refine sx_ ?_ <;> intro bb) | (refine su_ ?_ <;> intro u hu1 hu2) | fail)
    all_goals first | exact zcg ⟨3,by decide,rfl,rfl⟩ | (exfalso; omega)
   ·rw [e,zhh m1 m2 hb2]
    have hal:=z2o (hl.trans e) (by omega)
    obtain ⟨k,y,k1,k2,k3⟩:=z0r (m:=m) (by omega)
    rw [k1] at hal
    have hq : s.length - (b2 :: t).length = p + 1 + (k + 1):=by simp at hal ⊢; omega
    have hy : s[p + 1 + k]? = some y:=by
     have h1 : (s.drop (p + 1))[k]? = some y:=by rw [hl,e,List.getElem?_append_left (by omega)]; exact k2
     rwa [List.getElem?_drop] at h1
    have hy2 : y.toNat ≠ 91:=by omega
    obtain ⟨hb,ht⟩:=zkf hal.1
    have hbl:=(List.getElem?_eq_some_iff.1 hb).1
    have hb3:=b2.toNat_lt
    have cn:=zlj (T0:=T0) (b:=b) hs (by omega) (hl ▸ hn)
    rw [hq] at cn
    have cm:=ziq (T0:=T0) b s (p + 1 + (k + 1)) b2 hs hb
    have ct:=zpm (T0:=T0) b s (p + 1 + (k + 1)) b2 hs hb
    clear hn hal
    by_cases h1 : m = 1 ∧ b2.toNat ≠ 59
    ·rw [if_pos h1]
     have cq : True:=trivial
     have cv : True:=trivial
     have cw : True:=trivial
     refine za Tryz.func176 rfl (by decide) Tryz.ntmps176 rfl ?_
     repeat' (first
     |(apply zb rfl rfl rfl rfl (c:=cp)
       case ha=>exact os_
       case hM=>exact zf
       rintro _ _ ⟨rfl,rfl⟩)
      |(apply zb rfl rfl rfl rfl (c:=ct)
        case ha=>exact os_
        case hM=>exact zf
        rintro _ _ ⟨rfl,rfl⟩)
      |(apply zb rfl rfl rfl rfl (c:=cn)
        case ha=>exact os_
        case hM=>exact zf
        rintro _ _ ⟨rfl,rfl⟩)
      |(apply zb rfl rfl rfl rfl (c:=cm)
        case ha=>exact os_
        case hM=>exact zf
        rintro _ _ ⟨rfl,rfl⟩)
      |(apply zb rfl rfl rfl rfl (c:=cv)
        case ha=>exact os_
        case hM=>exact zf
        rintro _ _ ⟨rfl,rfl⟩)
      |(apply zb rfl rfl rfl rfl (c:=cw)
        case ha=>exact os_
        case hM=>exact zf
        rintro _ _ ⟨rfl,rfl⟩)
      |(apply zo rfl rfl rfl rfl (c:=cq)
        case ha=>exact os_
        case hM=>exact zf
        case h=>exact fun _ _ h=>h.elim
        rintro _ _ rfl)
     |(apply qi rfl rfl rfl; (case hx=>exact oo_)) | refine ze3 ?_ | (refine zd ?_ ?_ <;> intro hb <;> try exact no_) | (refine sx_ ?_ <;> intro bb) | (refine su_ ?_ <;> intro u hu1 hu2) | fail)
     all_goals first | exact zcg ⟨2,by decide,rfl,rfl⟩ | (exfalso; omega)
    ·rw [if_neg h1]
     by_cases hm : 65 ≤ b2.toNat ∧ b2.toNat ≤ 68
     ·rw [zhb,if_pos hm]
      have cq : True:=trivial
      have cv : True:=trivial
      have cw : True:=trivial
      refine za Tryz.func176 rfl (by decide) Tryz.ntmps176 rfl ?_
      repeat' (first
      |(apply zb rfl rfl rfl rfl (c:=cp)
        case ha=>exact os_
        case hM=>exact zf
        rintro _ _ ⟨rfl,rfl⟩)
       |(apply zb rfl rfl rfl rfl (c:=ct)
         case ha=>exact os_
         case hM=>exact zf
         rintro _ _ ⟨rfl,rfl⟩)
       |(apply zb rfl rfl rfl rfl (c:=cn)
         case ha=>exact os_
         case hM=>exact zf
         rintro _ _ ⟨rfl,rfl⟩)
       |(apply zb rfl rfl rfl rfl (c:=cm)
         case ha=>exact os_
         case hM=>exact zf
         rintro _ _ ⟨rfl,rfl⟩)
       |(apply zb rfl rfl rfl rfl (c:=cv)
         case ha=>exact os_
         case hM=>exact zf
         rintro _ _ ⟨rfl,rfl⟩)
       |(apply zb rfl rfl rfl rfl (c:=cw)
         case ha=>exact os_
         case hM=>exact zf
         rintro _ _ ⟨rfl,rfl⟩)
       |(apply zo rfl rfl rfl rfl (c:=cq)
         case ha=>exact os_
         case hM=>exact zf
         case h=>exact fun _ _ h=>h.elim
         rintro _ _ rfl)
      |(apply qi rfl rfl rfl; (case hx=>exact oo_)) | refine ze3 ?_ | (refine zd ?_ ?_ <;> intro hb <;> try exact no_) | (refine sx_ ?_ <;> intro bb) | (refine su_ ?_ <;> intro u hu1 hu2) | fail)
      all_goals first | exact e1_ | skip
      refine ⟨_,[rdO b s (p + 1 + (k + 1) + 1)],rl_,sl_,_,_,rfl, ?_, ?_⟩
      ·show qb _ = qb _
       rw [show 3 + (b2.toNat - 65) = b2.toNat - 62 by omega]
      ·have:=zfq ht (by omega)
       rw [this,show s.length - (s.length - (p + 1 + (k + 1) + 1)) = p + 1 + (k + 1) + 1 by omega]
     ·by_cases hf : b2.toNat ≠ 59 ∨ 24 < m ∨ true = false
      ·rw [zhb,if_neg hm,if_pos hf]
       have cq : True:=trivial
       have cv : True:=trivial
       have cw : True:=trivial
       refine za Tryz.func176 rfl (by decide) Tryz.ntmps176 rfl ?_
       repeat' (first
       |(apply zb rfl rfl rfl rfl (c:=cp)
         case ha=>exact os_
         case hM=>exact zf
         rintro _ _ ⟨rfl,rfl⟩)
        |(apply zb rfl rfl rfl rfl (c:=ct)
          case ha=>exact os_
          case hM=>exact zf
          rintro _ _ ⟨rfl,rfl⟩)
        |(apply zb rfl rfl rfl rfl (c:=cn)
          case ha=>exact os_
          case hM=>exact zf
          rintro _ _ ⟨rfl,rfl⟩)
        |(apply zb rfl rfl rfl rfl (c:=cm)
          case ha=>exact os_
          case hM=>exact zf
          rintro _ _ ⟨rfl,rfl⟩)
        |(apply zb rfl rfl rfl rfl (c:=cv)
          case ha=>exact os_
          case hM=>exact zf
          rintro _ _ ⟨rfl,rfl⟩)
        |(apply zb rfl rfl rfl rfl (c:=cw)
          case ha=>exact os_
          case hM=>exact zf
          rintro _ _ ⟨rfl,rfl⟩)
        |(apply zo rfl rfl rfl rfl (c:=cq)
          case ha=>exact os_
          case hM=>exact zf
          case h=>exact fun _ _ h=>h.elim
          rintro _ _ rfl)
       |(apply qi rfl rfl rfl; (case hx=>exact oo_)) | refine ze3 ?_ | (refine zd ?_ ?_ <;> intro hb <;> try exact no_) | (refine sx_ ?_ <;> intro bb) | (refine su_ ?_ <;> intro u hu1 hu2) | fail)
       all_goals first | exact zcg ⟨2,by decide,rfl,rfl⟩ | (exfalso; omega) | (exfalso; simp at hf; omega)
      ·have h59 : b2.toNat = 59:=by omega
       have hm24 : m ≤ 24:=by omega
       have hy' : s[p + 1 + (k + 1) + 1 - 2]? = some y:=by rw [show p + 1 + (k + 1) + 1 - 2 = p + 1 + k by omega]; exact hy
       have htl:=zfq ht (by omega)
       have h59' : b2 = 59:=kd (by show b2.toNat = 59; omega)
       rcases zfg (most:=80) (by decide) t with ⟨k2,n,n1,n2,e2,hk2,hn2⟩ | ⟨n,b3,t2,n1,n2,e2,hb3,hn2⟩ | hn2 | h0
       ·have e3 : zhb true m (b2 :: t) = nok 3:=by rw [zhb,if_neg hm,if_neg hf,hn2]; rfl
        rw [e3]
        have cq:=zcq (T0:=T0) (b:=b) (p:=p + 1 + (k + 1) + 1) hs (by omega) (ht ▸ hn2) (by decide)
        have cv : True:=trivial
        have cw : True:=trivial
        refine za Tryz.func176 rfl (by decide) Tryz.ntmps176 rfl ?_
        repeat' (first
        |(apply zb rfl rfl rfl rfl (c:=cp)
          case ha=>exact os_
          case hM=>exact zf
          rintro _ _ ⟨rfl,rfl⟩)
         |(apply zb rfl rfl rfl rfl (c:=ct)
           case ha=>exact os_
           case hM=>exact zf
           rintro _ _ ⟨rfl,rfl⟩)
         |(apply zb rfl rfl rfl rfl (c:=cn)
           case ha=>exact os_
           case hM=>exact zf
           rintro _ _ ⟨rfl,rfl⟩)
         |(apply zb rfl rfl rfl rfl (c:=cm)
           case ha=>exact os_
           case hM=>exact zf
           rintro _ _ ⟨rfl,rfl⟩)
         |(apply zb rfl rfl rfl rfl (c:=cv)
           case ha=>exact os_
           case hM=>exact zf
           rintro _ _ ⟨rfl,rfl⟩)
         |(apply zb rfl rfl rfl rfl (c:=cw)
           case ha=>exact os_
           case hM=>exact zf
           rintro _ _ ⟨rfl,rfl⟩)
         |(apply zo rfl rfl rfl rfl (c:=cq)
           case ha=>exact os_
           case hM=>exact zf
           case h=>exact fun _ _ h=>h.elim
           rintro _ _ rfl)
        |(apply qi rfl rfl rfl; (case hx=>exact oo_)) | refine ze3 ?_ | (refine zd ?_ ?_ <;> intro hb <;> try exact no_) | (refine sx_ ?_ <;> intro bb) | (refine su_ ?_ <;> intro u hu1 hu2) | fail)
        all_goals first | exact zcg ⟨3,by decide,rfl,rfl⟩ | (exfalso; omega)
       ·have e3 : zhb true m (b2 :: t) = if b3.toNat = 72 then (0,(2,(m : Int) - 1,(n : Int) - 1,0),t2) else nok 2:=by
         rw [e2,h59']; exact zv3 hm24 n1 n2 hb3
        rw [e3]
        have hal:=z2o (ht.trans e2) (by omega)
        have hq3 : s.length - (b3 :: t2).length = p + 1 + (k + 1) + 1 + (v8 n).length:=by simp at hal ⊢; omega
        obtain ⟨hb4,ht2⟩:=zkf hal.1
        have hbl4:=(List.getElem?_eq_some_iff.1 hb4).1
        have hb5:=b3.toNat_lt
        have cv:=zlj (T0:=T0) (b:=b) (p:=p + 1 + (k + 1) + 1) hs (by omega) (ht ▸ hn2)
        rw [hq3] at cv
        have cw:=zpm (T0:=T0) b s (p + 1 + (k + 1) + 1 + (v8 n).length) b3 hs hb4
        have cq : True:=trivial
        by_cases h72 : b3.toNat = 72
        ·rw [if_pos h72]
         refine za Tryz.func176 rfl (by decide) Tryz.ntmps176 rfl ?_
         repeat' (first
         |(apply zb rfl rfl rfl rfl (c:=cp)
           case ha=>exact os_
           case hM=>exact zf
           rintro _ _ ⟨rfl,rfl⟩)
          |(apply zb rfl rfl rfl rfl (c:=ct)
            case ha=>exact os_
            case hM=>exact zf
            rintro _ _ ⟨rfl,rfl⟩)
          |(apply zb rfl rfl rfl rfl (c:=cn)
            case ha=>exact os_
            case hM=>exact zf
            rintro _ _ ⟨rfl,rfl⟩)
          |(apply zb rfl rfl rfl rfl (c:=cm)
            case ha=>exact os_
            case hM=>exact zf
            rintro _ _ ⟨rfl,rfl⟩)
          |(apply zb rfl rfl rfl rfl (c:=cv)
            case ha=>exact os_
            case hM=>exact zf
            rintro _ _ ⟨rfl,rfl⟩)
          |(apply zb rfl rfl rfl rfl (c:=cw)
            case ha=>exact os_
            case hM=>exact zf
            rintro _ _ ⟨rfl,rfl⟩)
          |(apply zo rfl rfl rfl rfl (c:=cq)
            case ha=>exact os_
            case hM=>exact zf
            case h=>exact fun _ _ h=>h.elim
            rintro _ _ rfl)
         |(apply qi rfl rfl rfl; (case hx=>exact oo_)) | refine ze3 ?_ | (refine zd ?_ ?_ <;> intro hb <;> try exact no_) | (refine sx_ ?_ <;> intro bb) | (refine su_ ?_ <;> intro u hu1 hu2) | fail)
         all_goals first | exact e1_ | skip
         refine ⟨_,[rdO b s (p + 1 + (k + 1) + 1 + (v8 n).length + 1)],rl_,sl_,_,_,rfl, ?_, ?_⟩
         ·show qb _ = qb _
          rw [show ((m - 1 : Nat) : Int) = (m : Int) - 1 by omega,show ((n - 1 : Nat) : Int) = (n : Int) - 1 by omega]
         ·have:=zfq ht2 (by omega)
          rw [this,show s.length - (s.length - (p + 1 + (k + 1) + 1 + (v8 n).length + 1)) = p + 1 + (k + 1) + 1 + (v8 n).length + 1 by omega]
        ·rw [if_neg h72]
         refine za Tryz.func176 rfl (by decide) Tryz.ntmps176 rfl ?_
         repeat' (first
         |(apply zb rfl rfl rfl rfl (c:=cp)
           case ha=>exact os_
           case hM=>exact zf
           rintro _ _ ⟨rfl,rfl⟩)
          |(apply zb rfl rfl rfl rfl (c:=ct)
            case ha=>exact os_
            case hM=>exact zf
            rintro _ _ ⟨rfl,rfl⟩)
          |(apply zb rfl rfl rfl rfl (c:=cn)
            case ha=>exact os_
            case hM=>exact zf
            rintro _ _ ⟨rfl,rfl⟩)
          |(apply zb rfl rfl rfl rfl (c:=cm)
            case ha=>exact os_
            case hM=>exact zf
            rintro _ _ ⟨rfl,rfl⟩)
          |(apply zb rfl rfl rfl rfl (c:=cv)
            case ha=>exact os_
            case hM=>exact zf
            rintro _ _ ⟨rfl,rfl⟩)
          |(apply zb rfl rfl rfl rfl (c:=cw)
            case ha=>exact os_
            case hM=>exact zf
            rintro _ _ ⟨rfl,rfl⟩)
          |(apply zo rfl rfl rfl rfl (c:=cq)
            case ha=>exact os_
            case hM=>exact zf
            case h=>exact fun _ _ h=>h.elim
            rintro _ _ rfl)
         |(apply qi rfl rfl rfl; (case hx=>exact oo_)) | refine ze3 ?_ | (refine zd ?_ ?_ <;> intro hb <;> try exact no_) | (refine sx_ ?_ <;> intro bb) | (refine su_ ?_ <;> intro u hu1 hu2) | fail)
         all_goals first | exact zcg ⟨2,by decide,rfl,rfl⟩ | (exfalso; omega)
       ·have e3 : zhb true m (b2 :: t) = nok 2:=by rw [zhb,if_neg hm,if_neg hf,hn2]; rfl
        rw [e3]
        have cq:=zcq (T0:=T0) (b:=b) (p:=p + 1 + (k + 1) + 1) hs (by omega) (ht ▸ hn2) (by decide)
        have cv : True:=trivial
        have cw : True:=trivial
        refine za Tryz.func176 rfl (by decide) Tryz.ntmps176 rfl ?_
        repeat' (first
        |(apply zb rfl rfl rfl rfl (c:=cp)
          case ha=>exact os_
          case hM=>exact zf
          rintro _ _ ⟨rfl,rfl⟩)
         |(apply zb rfl rfl rfl rfl (c:=ct)
           case ha=>exact os_
           case hM=>exact zf
           rintro _ _ ⟨rfl,rfl⟩)
         |(apply zb rfl rfl rfl rfl (c:=cn)
           case ha=>exact os_
           case hM=>exact zf
           rintro _ _ ⟨rfl,rfl⟩)
         |(apply zb rfl rfl rfl rfl (c:=cm)
           case ha=>exact os_
           case hM=>exact zf
           rintro _ _ ⟨rfl,rfl⟩)
         |(apply zb rfl rfl rfl rfl (c:=cv)
           case ha=>exact os_
           case hM=>exact zf
           rintro _ _ ⟨rfl,rfl⟩)
         |(apply zb rfl rfl rfl rfl (c:=cw)
           case ha=>exact os_
           case hM=>exact zf
           rintro _ _ ⟨rfl,rfl⟩)
         |(apply zo rfl rfl rfl rfl (c:=cq)
           case ha=>exact os_
           case hM=>exact zf
           case h=>exact fun _ _ h=>h.elim
           rintro _ _ rfl)
        |(apply qi rfl rfl rfl; (case hx=>exact oo_)) | refine ze3 ?_ | (refine zd ?_ ?_ <;> intro hb <;> try exact no_) | (refine sx_ ?_ <;> intro bb) | (refine su_ ?_ <;> intro u hu1 hu2) | fail)
        all_goals first | exact zcg ⟨2,by decide,rfl,rfl⟩ | (exfalso; omega)
       ·exact absurd h0 (by decide)
   ·have e2 : zem (x :: l) = nok 2:=by rw [zem,if_pos hd,hn]; rfl
    rw [e2]
    have cq:=zcq (T0:=T0) (b:=b) hs (by omega) (hl ▸ hn) (by decide)
    have ct : True:=trivial
    have cn : True:=trivial
    have cm : True:=trivial
    have cv : True:=trivial
    have cw : True:=trivial
    refine za Tryz.func176 rfl (by decide) Tryz.ntmps176 rfl ?_
    repeat' (first
    |(apply zb rfl rfl rfl rfl (c:=cp)
      case ha=>exact os_
      case hM=>exact zf
      rintro _ _ ⟨rfl,rfl⟩)
     |(apply zb rfl rfl rfl rfl (c:=ct)
       case ha=>exact os_
       case hM=>exact zf
       rintro _ _ ⟨rfl,rfl⟩)
     |(apply zb rfl rfl rfl rfl (c:=cn)
       case ha=>exact os_
       case hM=>exact zf
       rintro _ _ ⟨rfl,rfl⟩)
     |(apply zb rfl rfl rfl rfl (c:=cm)
       case ha=>exact os_
       case hM=>exact zf
       rintro _ _ ⟨rfl,rfl⟩)
     |(apply zb rfl rfl rfl rfl (c:=cv)
       case ha=>exact os_
       case hM=>exact zf
       rintro _ _ ⟨rfl,rfl⟩)
     |(apply zb rfl rfl rfl rfl (c:=cw)
       case ha=>exact os_
       case hM=>exact zf
       rintro _ _ ⟨rfl,rfl⟩)
     |(apply zo rfl rfl rfl rfl (c:=cq)
       case ha=>exact os_
       case hM=>exact zf
       case h=>exact fun _ _ h=>h.elim
       rintro _ _ rfl)
    |(apply qi rfl rfl rfl; (case hx=>exact oo_)) | refine ze3 ?_ | (refine zd ?_ ?_ <;> intro hb <;> try exact no_) | (refine sx_ ?_ <;> intro bb) | (refine su_ ?_ <;> intro u hu1 hu2) | fail)
    all_goals first | exact zcg ⟨2,by decide,rfl,rfl⟩ | (exfalso; omega)
   ·exact absurd h0 (by decide)
  ·have cn : True:=trivial
   have cm : True:=trivial
   have cv : True:=trivial
   have cw : True:=trivial
   have cq : True:=trivial
   unfold dig at hd
   have h91' : s[p + 1 + 1 - 2]? = some 91:=h91
   have ct:=zpm (T0:=T0) b s (p + 1) x hs hx
   have hll:=zfq hl2 (by omega)
   rw [zem,if_neg hd]
   by_cases h75 : x.toNat = 75
   ·rw [if_pos h75]
    refine za Tryz.func176 rfl (by decide) Tryz.ntmps176 rfl ?_
    repeat' (first
    |(apply zb rfl rfl rfl rfl (c:=cp)
      case ha=>exact os_
      case hM=>exact zf
      rintro _ _ ⟨rfl,rfl⟩)
     |(apply zb rfl rfl rfl rfl (c:=ct)
       case ha=>exact os_
       case hM=>exact zf
       rintro _ _ ⟨rfl,rfl⟩)
     |(apply zb rfl rfl rfl rfl (c:=cn)
       case ha=>exact os_
       case hM=>exact zf
       rintro _ _ ⟨rfl,rfl⟩)
     |(apply zb rfl rfl rfl rfl (c:=cm)
       case ha=>exact os_
       case hM=>exact zf
       rintro _ _ ⟨rfl,rfl⟩)
     |(apply zb rfl rfl rfl rfl (c:=cv)
       case ha=>exact os_
       case hM=>exact zf
       rintro _ _ ⟨rfl,rfl⟩)
     |(apply zb rfl rfl rfl rfl (c:=cw)
       case ha=>exact os_
       case hM=>exact zf
       rintro _ _ ⟨rfl,rfl⟩)
     |(apply zo rfl rfl rfl rfl (c:=cq)
       case ha=>exact os_
       case hM=>exact zf
       case h=>exact fun _ _ h=>h.elim
       rintro _ _ rfl)
    |(apply qi rfl rfl rfl; (case hx=>exact oo_)) | refine ze3 ?_ | (refine zd ?_ ?_ <;> intro hb <;> try exact no_) | (refine sx_ ?_ <;> intro bb) | (refine su_ ?_ <;> intro u hu1 hu2) | fail)
    all_goals first | exact e1_ | skip
    refine ⟨_,[rdO b s (p + 1 + 1)],rl_,sl_,_,_,rfl, ?_, ?_⟩
    ·show qb _ = qb _
     rw [show ((8 - (x.toNat - 74) : Nat) : Int) = 7 by omega]
    ·rw [hll,show s.length - (s.length - (p + 1 + 1)) = p + 1 + 1 by omega]
   ·rw [if_neg h75]
    by_cases h74 : x.toNat = 74
    ·rw [if_pos h74]
     refine za Tryz.func176 rfl (by decide) Tryz.ntmps176 rfl ?_
     repeat' (first
     |(apply zb rfl rfl rfl rfl (c:=cp)
       case ha=>exact os_
       case hM=>exact zf
       rintro _ _ ⟨rfl,rfl⟩)
      |(apply zb rfl rfl rfl rfl (c:=ct)
        case ha=>exact os_
        case hM=>exact zf
        rintro _ _ ⟨rfl,rfl⟩)
      |(apply zb rfl rfl rfl rfl (c:=cn)
        case ha=>exact os_
        case hM=>exact zf
        rintro _ _ ⟨rfl,rfl⟩)
      |(apply zb rfl rfl rfl rfl (c:=cm)
        case ha=>exact os_
        case hM=>exact zf
        rintro _ _ ⟨rfl,rfl⟩)
      |(apply zb rfl rfl rfl rfl (c:=cv)
        case ha=>exact os_
        case hM=>exact zf
        rintro _ _ ⟨rfl,rfl⟩)
      |(apply zb rfl rfl rfl rfl (c:=cw)
        case ha=>exact os_
        case hM=>exact zf
        rintro _ _ ⟨rfl,rfl⟩)
      |(apply zo rfl rfl rfl rfl (c:=cq)
        case ha=>exact os_
        case hM=>exact zf
        case h=>exact fun _ _ h=>h.elim
        rintro _ _ rfl)
     |(apply qi rfl rfl rfl; (case hx=>exact oo_)) | refine ze3 ?_ | (refine zd ?_ ?_ <;> intro hb <;> try exact no_) | (refine sx_ ?_ <;> intro bb) | (refine su_ ?_ <;> intro u hu1 hu2) | fail)
     all_goals first | exact e1_ | skip
     refine ⟨_,[rdO b s (p + 1 + 1)],rl_,sl_,_,_,rfl, ?_, ?_⟩
     ·show qb _ = qb _
      rw [show ((8 - (x.toNat - 74) : Nat) : Int) = 8 by omega]
     ·rw [hll,show s.length - (s.length - (p + 1 + 1)) = p + 1 + 1 by omega]
    ·rw [if_neg h74]
     by_cases hm : 65 ≤ x.toNat ∧ x.toNat ≤ 68
     ·rw [zhb,if_pos hm]
      refine za Tryz.func176 rfl (by decide) Tryz.ntmps176 rfl ?_
      repeat' (first
      |(apply zb rfl rfl rfl rfl (c:=cp)
        case ha=>exact os_
        case hM=>exact zf
        rintro _ _ ⟨rfl,rfl⟩)
       |(apply zb rfl rfl rfl rfl (c:=ct)
         case ha=>exact os_
         case hM=>exact zf
         rintro _ _ ⟨rfl,rfl⟩)
       |(apply zb rfl rfl rfl rfl (c:=cn)
         case ha=>exact os_
         case hM=>exact zf
         rintro _ _ ⟨rfl,rfl⟩)
       |(apply zb rfl rfl rfl rfl (c:=cm)
         case ha=>exact os_
         case hM=>exact zf
         rintro _ _ ⟨rfl,rfl⟩)
       |(apply zb rfl rfl rfl rfl (c:=cv)
         case ha=>exact os_
         case hM=>exact zf
         rintro _ _ ⟨rfl,rfl⟩)
       |(apply zb rfl rfl rfl rfl (c:=cw)
         case ha=>exact os_
         case hM=>exact zf
         rintro _ _ ⟨rfl,rfl⟩)
       |(apply zo rfl rfl rfl rfl (c:=cq)
         case ha=>exact os_
         case hM=>exact zf
         case h=>exact fun _ _ h=>h.elim
         rintro _ _ rfl)
      |(apply qi rfl rfl rfl; (case hx=>exact oo_)) | refine ze3 ?_ | (refine zd ?_ ?_ <;> intro hb <;> try exact no_) | (refine sx_ ?_ <;> intro bb) | (refine su_ ?_ <;> intro u hu1 hu2) | fail)
      all_goals first | exact e1_ | skip
      refine ⟨_,[rdO b s (p + 1 + 1)],rl_,sl_,_,_,rfl, ?_, ?_⟩
      ·show qb _ = qb _
       rw [show 3 + (x.toNat - 65) = x.toNat - 62 by omega]; rfl
      ·rw [hll,show s.length - (s.length - (p + 1 + 1)) = p + 1 + 1 by omega]
     ·rw [zhb,if_neg hm,if_pos (.inr (.inr rfl))]
      refine za Tryz.func176 rfl (by decide) Tryz.ntmps176 rfl ?_
      repeat' (first
      |(apply zb rfl rfl rfl rfl (c:=cp)
        case ha=>exact os_
        case hM=>exact zf
        rintro _ _ ⟨rfl,rfl⟩)
       |(apply zb rfl rfl rfl rfl (c:=ct)
         case ha=>exact os_
         case hM=>exact zf
         rintro _ _ ⟨rfl,rfl⟩)
       |(apply zb rfl rfl rfl rfl (c:=cn)
         case ha=>exact os_
         case hM=>exact zf
         rintro _ _ ⟨rfl,rfl⟩)
       |(apply zb rfl rfl rfl rfl (c:=cm)
         case ha=>exact os_
         case hM=>exact zf
         rintro _ _ ⟨rfl,rfl⟩)
       |(apply zb rfl rfl rfl rfl (c:=cv)
         case ha=>exact os_
         case hM=>exact zf
         rintro _ _ ⟨rfl,rfl⟩)
       |(apply zb rfl rfl rfl rfl (c:=cw)
         case ha=>exact os_
         case hM=>exact zf
         rintro _ _ ⟨rfl,rfl⟩)
       |(apply zo rfl rfl rfl rfl (c:=cq)
         case ha=>exact os_
         case hM=>exact zf
         case h=>exact fun _ _ h=>h.elim
         rintro _ _ rfl)
      |(apply qi rfl rfl rfl; (case hx=>exact oo_)) | refine ze3 ?_ | (refine zd ?_ ?_ <;> intro hb <;> try exact no_) | (refine sx_ ?_ <;> intro bb) | (refine su_ ?_ <;> intro u hu1 hu2) | fail)
      all_goals first | exact zcg ⟨2,by decide,rfl,rfl⟩ | (exfalso; simp at hb; done) | (exfalso; omega)
end
section
open Go Go.RowKit
variable {T0 : Gh} [TabU T0]
set_option maxRecDepth 2000000
instance qbi : UnC 189 (.map 5 3):=⟨Tryz.underlying189⟩
attribute [local irreducible] zz zg AW AL AO QY qh z_ rsA Opd xh vA gvA zy qb slA jl ipA rpA EqK LnK IxK LdK FaK FdK
theorem zvs (b : Nat) (s : List UInt8) (hs : s.length ≤ 9223372036854775807) (h0 : s ≠ []) : AF Tryz.prog T0 138 [ptA b] [rdO b s 0] (RdK b s (zdi s)) (RdP (zdi s)):=by
 cases hsl : s with
 |nil=>exact absurd hsl h0
 |cons x l =>
  rw [← hsl]
  have hx : s[0]? = some x:=by rw [hsl]; rfl
  have hx2:=x.toNat_lt
  have hlen : s.length = l.length + 1:=by rw [hsl]; rfl
  have hl : s.drop 1 = l:=by rw [hsl]; rfl
  have cp:=ziq (T0:=T0) b s 0 x (by omega) hx
  have hll : s.length - l.length = 0 + 1:=by omega
  by_cases hk : zaw x.toNat ≠ 0
  ·have e : zdi s = (0,(zaw x.toNat,0,0,0),l):=by rw [hsl,za0,if_pos hk]
   rw [e]
   have cq : True:=trivial
   have ct : True:=trivial
   have cc : True:=trivial
   have cg : True:=trivial
   have fin : ∀ k,zaw x.toNat = k → RdK b s (0,(zaw x.toNat,0,0,0),l) (qb [I k,I 0,I 0,R 0]) [rdO b s (0 + 1)]:=fun k h=>⟨_,_,rfl,by rw [h]; rfl,by rw [hll]⟩
   rcases zil x.toNat with h | ⟨h,hk2⟩ | ⟨h,hk2⟩ | ⟨h,hk2⟩ | ⟨h,hk2⟩
   ·exact absurd h hk
   ·have : x = 13:=kd (by show x.toNat = 13; omega)
    subst this
    refine za Tryz.func138 rfl (by decide) Tryz.ntmps138 rfl ?_
    repeat' (first
    |(apply zb rfl rfl rfl rfl (c:=cp)
      case ha=>exact os_
      case hM=>exact zf
      rintro _ _ ⟨rfl,rfl⟩)
     |(apply zb rfl rfl rfl rfl (c:=ct)
       case ha=>exact os_
       case hM=>exact zf
       rintro _ _ ⟨rfl,rfl⟩)
     |(apply zo rfl rfl rfl rfl (c:=cq)
       case ha=>exact os_
       case hM=>exact zf
       case h=>exact fun _ _ h=>h.elim
       rintro _ _ rfl)
     |(apply zo rfl rfl rfl rfl (c:=cc)
       case ha=>exact os_
       case hM=>exact zf
       case hp =>
        intro ch M1 hk
        repeat' (first | refine zqj ?_ | refine zq7 ?_)
        exact zcg hk
       rintro _ _ ⟨c,t,hct,rfl,rfl⟩)
    |(apply qi rfl rfl rfl; (case hx=>exact oo_)) | refine zxp ?_ | (apply j6 rfl rfl rfl rfl; intro bm) | (apply kr rfl rfl rfl un_ un_; (case hx=>exact oo_); (case hy=>exact oo_); (case hz=>exact oo_); (case hk=>exact (rfl : IntKind.u8 = IntKind.u8)); (case hU=>exact yd); (case hn=>rfl)) | refine zxo ?_ | (refine zd ?_ ?_ <;> intro hb <;> try exact no_) | (refine sx_ ?_ <;> intro bb) | (refine su_ ?_ <;> intro u hu1 hu2) | fail)
    all_goals first | exact e1_ | skip
    exact ⟨_,[rdO b s (0 + 1)],rl_,sl_,fin 9 rfl⟩
   ·have : x = 10:=kd (by show x.toNat = 10; omega)
    subst this
    refine za Tryz.func138 rfl (by decide) Tryz.ntmps138 rfl ?_
    repeat' (first
    |(apply zb rfl rfl rfl rfl (c:=cp)
      case ha=>exact os_
      case hM=>exact zf
      rintro _ _ ⟨rfl,rfl⟩)
     |(apply zb rfl rfl rfl rfl (c:=ct)
       case ha=>exact os_
       case hM=>exact zf
       rintro _ _ ⟨rfl,rfl⟩)
     |(apply zo rfl rfl rfl rfl (c:=cq)
       case ha=>exact os_
       case hM=>exact zf
       case h=>exact fun _ _ h=>h.elim
       rintro _ _ rfl)
     |(apply zo rfl rfl rfl rfl (c:=cc)
       case ha=>exact os_
       case hM=>exact zf
       case hp =>
        intro ch M1 hk
        repeat' (first | refine zqj ?_ | refine zq7 ?_)
        exact zcg hk
       rintro _ _ ⟨c,t,hct,rfl,rfl⟩)
    |(apply qi rfl rfl rfl; (case hx=>exact oo_)) | refine zxp ?_ | (apply j6 rfl rfl rfl rfl; intro bm) | (apply kr rfl rfl rfl un_ un_; (case hx=>exact oo_); (case hy=>exact oo_); (case hz=>exact oo_); (case hk=>exact (rfl : IntKind.u8 = IntKind.u8)); (case hU=>exact yd); (case hn=>rfl)) | refine zxo ?_ | (refine zd ?_ ?_ <;> intro hb <;> try exact no_) | (refine sx_ ?_ <;> intro bb) | (refine su_ ?_ <;> intro u hu1 hu2) | fail)
    all_goals first | exact e1_ | skip
    exact ⟨_,[rdO b s (0 + 1)],rl_,sl_,fin 10 rfl⟩
   ·have : x = 8:=kd (by show x.toNat = 8; omega)
    subst this
    refine za Tryz.func138 rfl (by decide) Tryz.ntmps138 rfl ?_
    repeat' (first
    |(apply zb rfl rfl rfl rfl (c:=cp)
      case ha=>exact os_
      case hM=>exact zf
      rintro _ _ ⟨rfl,rfl⟩)
     |(apply zb rfl rfl rfl rfl (c:=ct)
       case ha=>exact os_
       case hM=>exact zf
       rintro _ _ ⟨rfl,rfl⟩)
     |(apply zo rfl rfl rfl rfl (c:=cq)
       case ha=>exact os_
       case hM=>exact zf
       case h=>exact fun _ _ h=>h.elim
       rintro _ _ rfl)
     |(apply zo rfl rfl rfl rfl (c:=cc)
       case ha=>exact os_
       case hM=>exact zf
       case hp =>
        intro ch M1 hk
        repeat' (first | refine zqj ?_ | refine zq7 ?_)
        exact zcg hk
       rintro _ _ ⟨c,t,hct,rfl,rfl⟩)
    |(apply qi rfl rfl rfl; (case hx=>exact oo_)) | refine zxp ?_ | (apply j6 rfl rfl rfl rfl; intro bm) | (apply kr rfl rfl rfl un_ un_; (case hx=>exact oo_); (case hy=>exact oo_); (case hz=>exact oo_); (case hk=>exact (rfl : IntKind.u8 = IntKind.u8)); (case hU=>exact yd); (case hn=>rfl)) | refine zxo ?_ | (refine zd ?_ ?_ <;> intro hb <;> try exact no_) | (refine sx_ ?_ <;> intro bb) | (refine su_ ?_ <;> intro u hu1 hu2) | fail)
    all_goals first | exact e1_ | skip
    exact ⟨_,[rdO b s (0 + 1)],rl_,sl_,fin 11 rfl⟩
   ·have : x = 7:=kd (by show x.toNat = 7; omega)
    subst this
    refine za Tryz.func138 rfl (by decide) Tryz.ntmps138 rfl ?_
    repeat' (first
    |(apply zb rfl rfl rfl rfl (c:=cp)
      case ha=>exact os_
      case hM=>exact zf
      rintro _ _ ⟨rfl,rfl⟩)
     |(apply zb rfl rfl rfl rfl (c:=ct)
       case ha=>exact os_
       case hM=>exact zf
       rintro _ _ ⟨rfl,rfl⟩)
     |(apply zo rfl rfl rfl rfl (c:=cq)
       case ha=>exact os_
       case hM=>exact zf
       case h=>exact fun _ _ h=>h.elim
       rintro _ _ rfl)
     |(apply zo rfl rfl rfl rfl (c:=cc)
       case ha=>exact os_
       case hM=>exact zf
       case hp =>
        intro ch M1 hk
        repeat' (first | refine zqj ?_ | refine zq7 ?_)
        exact zcg hk
       rintro _ _ ⟨c,t,hct,rfl,rfl⟩)
    |(apply qi rfl rfl rfl; (case hx=>exact oo_)) | refine zxp ?_ | (apply j6 rfl rfl rfl rfl; intro bm) | (apply kr rfl rfl rfl un_ un_; (case hx=>exact oo_); (case hy=>exact oo_); (case hz=>exact oo_); (case hk=>exact (rfl : IntKind.u8 = IntKind.u8)); (case hU=>exact yd); (case hn=>rfl)) | refine zxo ?_ | (refine zd ?_ ?_ <;> intro hb <;> try exact no_) | (refine sx_ ?_ <;> intro bb) | (refine su_ ?_ <;> intro u hu1 hu2) | fail)
    all_goals first | exact e1_ | skip
    exact ⟨_,[rdO b s (0 + 1)],rl_,sl_,fin 12 rfl⟩
  ·have hk0 : zaw x.toNat = 0:=by omega
   have hn : x.toNat ≠ 13 ∧ x.toNat ≠ 10 ∧ x.toNat ≠ 8 ∧ x.toNat ≠ 7:=by
    refine ⟨?_, ?_, ?_, ?_⟩ <;> (intro h; rw [h] at hk0; revert hk0; decide)
   by_cases h27 : x.toNat = 27
   ·have e0 : x = 27:=kd (by show x.toNat = 27; omega)
    have cg : True:=trivial
    cases hl2 : l with
    |nil =>
     have e : zdi s = nok 3:=by rw [hsl,e0,hl2]; rfl
     rw [e]
     have hlen1 : s.length = 0 + 1:=by rw [hlen,hl2]; rfl
     have cq : AF Tryz.prog T0 175 [ptA b] [rdO b s (0 + 1)] (fun _ _=>False) (fun c _=>c = zv0 3):=by rw [← hlen1]; exact z4a b s (by omega)
     have ct : True:=trivial
     have cc : True:=trivial
     refine za Tryz.func138 rfl (by decide) Tryz.ntmps138 rfl ?_
     repeat' (first
     |(apply zb rfl rfl rfl rfl (c:=cp)
       case ha=>exact os_
       case hM=>exact zf
       rintro _ _ ⟨rfl,rfl⟩)
      |(apply zb rfl rfl rfl rfl (c:=ct)
        case ha=>exact os_
        case hM=>exact zf
        rintro _ _ ⟨rfl,rfl⟩)
      |(apply zo rfl rfl rfl rfl (c:=cq)
        case ha=>exact os_
        case hM=>exact zf
        case h=>exact fun _ _ h=>h.elim
        rintro _ _ rfl)
      |(apply zo rfl rfl rfl rfl (c:=cc)
        case ha=>exact os_
        case hM=>exact zf
        case hp =>
         intro ch M1 hk
         repeat' (first | refine zqj ?_ | refine zq7 ?_)
         exact zcg hk
        rintro _ _ ⟨c,t,hct,rfl,rfl⟩)
     |(apply qi rfl rfl rfl; (case hx=>exact oo_)) | refine zxp ?_ | (apply j6 rfl rfl rfl rfl; intro bm) | (apply kr rfl rfl rfl un_ un_; (case hx=>exact oo_); (case hy=>exact oo_); (case hz=>exact oo_); (case hk=>exact (rfl : IntKind.u8 = IntKind.u8)); (case hU=>exact yd); (case hn=>rfl)) | refine zxo ?_ | (refine zd ?_ ?_ <;> intro hb <;> try exact no_) | (refine sx_ ?_ <;> intro bb) | (refine su_ ?_ <;> intro u hu1 hu2) | fail)
     all_goals first | exact zcg ⟨3,by decide,rfl,rfl⟩ | (exfalso; omega)
    |cons y l2 =>
     rw [hl2] at hl
     obtain ⟨hy,hl3⟩:=zkf hl
     have hy2:=y.toNat_lt
     have ct:=zpm (T0:=T0) b s (0 + 1) y (by omega) hy
     have cq : True:=trivial
     by_cases h91 : y.toNat = 91
     ·have e1 : y = 91:=kd (by show y.toNat = 91; omega)
      have e : zdi s = zem (s.drop (0 + 1 + 1)):=by rw [show s.drop (0 + 1 + 1) = l2 from hl3,hsl,e0,hl2,e1,yv]
      rw [e]
      have hyl:=(List.getElem?_eq_some_iff.1 hy).1
      have cc:=zvr (T0:=T0) b s (0 + 1) (by omega) (by omega) (by rw [← e1]; exact hy)
      refine za Tryz.func138 rfl (by decide) Tryz.ntmps138 rfl ?_
      repeat' (first
      |(apply zb rfl rfl rfl rfl (c:=cp)
        case ha=>exact os_
        case hM=>exact zf
        rintro _ _ ⟨rfl,rfl⟩)
       |(apply zb rfl rfl rfl rfl (c:=ct)
         case ha=>exact os_
         case hM=>exact zf
         rintro _ _ ⟨rfl,rfl⟩)
       |(apply zo rfl rfl rfl rfl (c:=cq)
         case ha=>exact os_
         case hM=>exact zf
         case h=>exact fun _ _ h=>h.elim
         rintro _ _ rfl)
       |(apply zo rfl rfl rfl rfl (c:=cc)
         case ha=>exact os_
         case hM=>exact zf
         case hp =>
          intro ch M1 hk
          repeat' (first | refine zqj ?_ | refine zq7 ?_)
          exact zcg hk
         rintro _ _ ⟨c,t,hct,rfl,rfl⟩)
      |(apply qi rfl rfl rfl; (case hx=>exact oo_)) | refine zxp ?_ | (apply j6 rfl rfl rfl rfl; intro bm) | (apply kr rfl rfl rfl un_ un_; (case hx=>exact oo_); (case hy=>exact oo_); (case hz=>exact oo_); (case hk=>exact (rfl : IntKind.u8 = IntKind.u8)); (case hU=>exact yd); (case hn=>rfl)) | refine zxo ?_ | (refine zd ?_ ?_ <;> intro hb <;> try exact no_) | (refine sx_ ?_ <;> intro bb) | (refine su_ ?_ <;> intro u hu1 hu2) | fail)
      all_goals first | exact e1_ | skip
      exact ⟨_,[rdO b s (s.length - t.length)],rl_,sl_,c,t,hct,rfl,rfl⟩
     ·have e : zdi s = nok 2:=by
       rw [hsl,e0,hl2,zwi]
       exact if_neg h91
      rw [e]
      have cc : True:=trivial
      refine za Tryz.func138 rfl (by decide) Tryz.ntmps138 rfl ?_
      repeat' (first
      |(apply zb rfl rfl rfl rfl (c:=cp)
        case ha=>exact os_
        case hM=>exact zf
        rintro _ _ ⟨rfl,rfl⟩)
       |(apply zb rfl rfl rfl rfl (c:=ct)
         case ha=>exact os_
         case hM=>exact zf
         rintro _ _ ⟨rfl,rfl⟩)
       |(apply zo rfl rfl rfl rfl (c:=cq)
         case ha=>exact os_
         case hM=>exact zf
         case h=>exact fun _ _ h=>h.elim
         rintro _ _ rfl)
       |(apply zo rfl rfl rfl rfl (c:=cc)
         case ha=>exact os_
         case hM=>exact zf
         case hp =>
          intro ch M1 hk
          repeat' (first | refine zqj ?_ | refine zq7 ?_)
          exact zcg hk
         rintro _ _ ⟨c,t,hct,rfl,rfl⟩)
      |(apply qi rfl rfl rfl; (case hx=>exact oo_)) | refine zxp ?_ | (apply j6 rfl rfl rfl rfl; intro bm) | (apply kr rfl rfl rfl un_ un_; (case hx=>exact oo_); (case hy=>exact oo_); (case hz=>exact oo_); (case hk=>exact (rfl : IntKind.u8 = IntKind.u8)); (case hU=>exact yd); (case hn=>rfl)) | refine zxo ?_ | (refine zd ?_ ?_ <;> intro hb <;> try exact no_) | (refine sx_ ?_ <;> intro bb) | (refine su_ ?_ <;> intro u hu1 hu2) | fail)
      all_goals first | exact zcg ⟨2,by decide,rfl,rfl⟩ | (exfalso; omega)
   ·have cq : True:=trivial
    have ct : True:=trivial
    have cc : True:=trivial
    have cg0:=znt (T0:=T0) s (by omega)
    have cg1 : List.take (s.length - 0) (List.drop 0 s) = s:=by simp
    have e : zdi s = if zb3 s = false then nok 3 else if zag s = (65533,1) ∨ ja ((zag s).1 : Nat) = false then nok 2 else (0,(1,0,0,((zag s).1 : Nat)),s.drop (zag s).2):=by
     rw [hsl,za0,if_neg hk,if_neg h27]
    rw [e]
    unfold zt8 at cg0
    rw [if_neg h0] at cg0
    by_cases hf : zb3 s = false
    ·rw [if_pos hf] at cg0 ⊢
     have cg : AP Tryz.prog T0 177 [SA (List.take (s.length - 0) (List.drop 0 s))] (zy [R 0,I 0,I 3]):=by rw [cg1]; exact cg0
     refine za Tryz.func138 rfl (by decide) Tryz.ntmps138 rfl ?_
     repeat' (first
     |(apply zb rfl rfl rfl rfl (c:=cp)
       case ha=>exact os_
       case hM=>exact zf
       rintro _ _ ⟨rfl,rfl⟩)
      |(apply zb rfl rfl rfl rfl (c:=ct)
        case ha=>exact os_
        case hM=>exact zf
        rintro _ _ ⟨rfl,rfl⟩)
      |(apply zo rfl rfl rfl rfl (c:=cq)
        case ha=>exact os_
        case hM=>exact zf
        case h=>exact fun _ _ h=>h.elim
        rintro _ _ rfl)
      |(apply zo rfl rfl rfl rfl (c:=cc)
        case ha=>exact os_
        case hM=>exact zf
        case hp =>
         intro ch M1 hk
         repeat' (first | refine zqj ?_ | refine zq7 ?_)
         exact zcg hk
        rintro _ _ ⟨c,t,hct,rfl,rfl⟩)
     |(apply qi rfl rfl rfl; (case hx=>exact oo_)) | refine zxp ?_ | (apply j6 rfl rfl rfl rfl; intro bm) | (apply kr rfl rfl rfl un_ un_; (case hx=>exact oo_); (case hy=>exact oo_); (case hz=>exact oo_); (case hk=>exact (rfl : IntKind.u8 = IntKind.u8)); (case hU=>exact yd); (case hn=>rfl)) | refine zxo ?_ | (refine zd ?_ ?_ <;> intro hb <;> try exact no_) | (refine sx_ ?_ <;> intro bb) | (refine su_ ?_ <;> intro u hu1 hu2) | fail)
     all_goals first | exact zcg ⟨3,by decide,rfl,rfl⟩ | (exfalso; omega)
    ·rw [if_neg hf] at cg0 ⊢
     have hds:=zl6 h0
     obtain ⟨r,k,hrk⟩ : ∃ r k,zag s = (r,k):=⟨_,_,rfl⟩
     rw [hrk] at cg0 hds ⊢
     simp only at cg0 hds ⊢
     have cg : AP Tryz.prog T0 177 [SA (List.take (s.length - 0) (List.drop 0 s))] (zy [R r,I k,I 0]):=by rw [cg1]; exact cg0
     have hk1 : k ≤ s.length:=by
      rcases hds with h | h
      ·simp at h; omega
      ·exact h.2.1
     by_cases hb1 : (r,k) = (65533,1) ∨ ja (r : Int) = false
     ·rw [if_pos hb1]
      refine za Tryz.func138 rfl (by decide) Tryz.ntmps138 rfl ?_
      repeat' (first
      |(apply zb rfl rfl rfl rfl (c:=cp)
        case ha=>exact os_
        case hM=>exact zf
        rintro _ _ ⟨rfl,rfl⟩)
       |(apply zb rfl rfl rfl rfl (c:=ct)
         case ha=>exact os_
         case hM=>exact zf
         rintro _ _ ⟨rfl,rfl⟩)
       |(apply zo rfl rfl rfl rfl (c:=cq)
         case ha=>exact os_
         case hM=>exact zf
         case h=>exact fun _ _ h=>h.elim
         rintro _ _ rfl)
       |(apply zo rfl rfl rfl rfl (c:=cc)
         case ha=>exact os_
         case hM=>exact zf
         case hp =>
          intro ch M1 hk
          repeat' (first | refine zqj ?_ | refine zq7 ?_)
          exact zcg hk
         rintro _ _ ⟨c,t,hct,rfl,rfl⟩)
      |(apply qi rfl rfl rfl; (case hx=>exact oo_)) | refine zxp ?_ | (apply j6 rfl rfl rfl rfl; intro bm) | (apply kr rfl rfl rfl un_ un_; (case hx=>exact oo_); (case hy=>exact oo_); (case hz=>exact oo_); (case hk=>exact (rfl : IntKind.u8 = IntKind.u8)); (case hU=>exact yd); (case hn=>rfl)) | refine zxo ?_ | (refine zd ?_ ?_ <;> intro hb <;> try exact no_) | (refine sx_ ?_ <;> intro bb) | (refine su_ ?_ <;> intro u hu1 hu2) | fail)
      all_goals first
      |exact zcg ⟨2,by decide,rfl,rfl⟩
      |(exfalso; omega)
      |(exfalso; rcases hb1 with h | h
        ·simp only [Prod.mk.injEq] at h; omega
        ·rename_i h2; first | (rw [h] at h2; cases h2) | (rw [h] at hb; cases hb))
     ·rw [if_neg hb1]
      have hsh : ja (r : Int) = true:=by
       cases h : ja (r : Int) with
       |true=>rfl
       |false=>exact absurd (.inr h) hb1
      have hrk2 : ¬ (r = 65533 ∧ k = 1):=fun h=>hb1 (.inl (by rw [h.1,h.2]))
      refine za Tryz.func138 rfl (by decide) Tryz.ntmps138 rfl ?_
      repeat' (first
      |(apply zb rfl rfl rfl rfl (c:=cp)
        case ha=>exact os_
        case hM=>exact zf
        rintro _ _ ⟨rfl,rfl⟩)
       |(apply zb rfl rfl rfl rfl (c:=ct)
         case ha=>exact os_
         case hM=>exact zf
         rintro _ _ ⟨rfl,rfl⟩)
       |(apply zo rfl rfl rfl rfl (c:=cq)
         case ha=>exact os_
         case hM=>exact zf
         case h=>exact fun _ _ h=>h.elim
         rintro _ _ rfl)
       |(apply zo rfl rfl rfl rfl (c:=cc)
         case ha=>exact os_
         case hM=>exact zf
         case hp =>
          intro ch M1 hk
          repeat' (first | refine zqj ?_ | refine zq7 ?_)
          exact zcg hk
         rintro _ _ ⟨c,t,hct,rfl,rfl⟩)
      |(apply qi rfl rfl rfl; (case hx=>exact oo_)) | refine zxp ?_ | (apply j6 rfl rfl rfl rfl; intro bm) | (apply kr rfl rfl rfl un_ un_; (case hx=>exact oo_); (case hy=>exact oo_); (case hz=>exact oo_); (case hk=>exact (rfl : IntKind.u8 = IntKind.u8)); (case hU=>exact yd); (case hn=>rfl)) | refine zxo ?_ | (refine zd ?_ ?_ <;> intro hb <;> try exact no_) | (refine sx_ ?_ <;> intro bb) | (refine su_ ?_ <;> intro u hu1 hu2) | fail)
      all_goals first | (exfalso; omega) | (exfalso; rw [hsh] at hb; cases hb; done) | skip
      refine ⟨_,[rdO b s (0 + k)],rl_,sl_,_,_,rfl,rfl, ?_⟩
      rw [List.length_drop,show s.length - (s.length - k) = 0 + k by omega]
end
section
open Go Go.RowKit
set_option maxRecDepth 100000
section
variable {P : Program} {T0 : Gh} {N : Fz} {Q : ko} {fr : Fr} {M : List Own} {ops : Array Oper} {o : Oper}
theorem zlu {G : Gh} {t : Array Value} : frRel G [] t:=fun s A _ e=>by simp [Fr.get] at e
theorem ue {G : Gh} {fr : Fr} {t : Array Value} {s : Nat} {A : AV} {u : Value} (h : t[s]? = some u) (hr : Rep G A u) (k : frRel G fr t) : frRel G ((s,A) :: fr) t:=fun x B _ e=>by
 by_cases hx : x = s
 ·subst hx; rw [qm] at e; obtain rfl:=Option.some.inj e; exact ⟨u,h,hr⟩
 ·rw [qf hx] at e; exact k x B trivial e
theorem z58 {c : Code} {a : Act} {cs : List Frame} {w w0 : World} {G : Gh} {F : List Own} {R : Exit → Act → List Frame → World → Prop} (h : AW P T0 N c Q fr M) (hc : Con T0 N w0 G F fr M a w) (hq : ∀ e a' w',cQ T0 N w0 G F Q e a' w' → R e a' cs w') : c.wpS P R a cs w:=wpS_of_wp (wp_mono (h w0 G F a w hc) hq)
theorem z9s {c : Code} {a : Act} {w w0 : World} {G : Gh} {F : List Own} {R : Exit → Act → World → Prop} (h : AW P T0 N c Q fr M) (hc : Con T0 N w0 G F fr M a w) (hq : ∀ e a' w',cQ T0 N w0 G F Q e a' w' → R e a' w') : c.wp P R a w:=wp_mono (h w0 G F a w hc) hq
theorem z1g {c next : Code} {a : Act} {w w0 : World} {G : Gh} {F : List Own} {R : Exit → Act → World → Prop} (KK : Fr → List Own → Prop) (h : AW P T0 N c (zz KK fun _ _ _=>False) fr M) (hc : Con T0 N w0 G F fr M a w)
  (hk : ∀ fr' M' G' a' w',KK fr' M' → Gh.le G G' → Con T0 N w0 G' F fr' M' a' w' → next.wp P R a' w') : (Code.seq c next).wp P R a w :=
 wp_seq (wp_mono (h w0 G F a w hc) fun e a' w' q=>by
  obtain ⟨fr',M',G',q1,q2,q3⟩:=q
  cases e with
  |normal=>exact hk fr' M' G' a' w' q1 q2 q3
  |_=>exact q1.elim)
theorem Con.weak {fr' : Fr} {M' : List Own} {a : Act} {w w0 : World} {G : Gh} {F : List Own} (h : Con T0 N w0 G F fr M a w) (hw : Weak fr fr') (hs : List.Sublist M' M) : Con T0 N w0 G F fr' M' a w :=
 ⟨h.st.sub (hs.append (List.Sublist.refl F)),hw G _ h.fr,h.size,h.defers⟩
theorem z2l {op : BinOp} {t t' : TypeId} {x y : Operand} {a b r : Value} (ho : o.op = .binOp op t x y t') (hx : Opd T0 fr x (vA a)) (hy : Opd T0 fr y (vA b)) (hr : ∀ w,(do eqGuard op t x y a b; binOp op t a b : Sem Value).run P w = .ok r w) : AY P T0 ops o fr M (vA r):=xd fun w0 G F ac w hs hf=>by
 have e1:=(hx.use (o:=o) (ops:=ops) (by simp [ho,Op.operands]) hs.tab hf).eq
 have e2:=(hy.use (o:=o) (ops:=ops) (by simp [ho,Op.operands]) hs.tab hf).eq
 refine ⟨r, ?_,Rep.va _ _⟩
 simp only [execOp,ho,e1,e2]
 rw [Sem.run_bind,hr]; rfl
theorem zwo {x : Operand} {t u : TypeId} {k : IntKind} {v : Value} (ho : o.op = .typeAssert x t u true) (hu : P.underlying u = some (.int k)) (hx : Opd T0 fr x (vA (.iface u v))) : AY P T0 ops o fr M (zy [vA v,B true]):=xd fun w0 G F ac w hs hf=>by
 have e1:=(hx.use (o:=o) (ops:=ops) (by simp [ho,Op.operands]) hs.tab hf).eq
 refine ⟨.tuple #[v,.bool true], ?_,.of ⟨[_,_],rfl,Rep.va _ _,Rep.va _ _,trivial⟩⟩
 simp [execOp,ho,e1,Instr.typeAssert,run_underlying hu]
end
abbrev zsq (b : Nat) (c : Cmd) : Own:=qh b 35 [I c.1,I c.2.1,I c.2.2.1,R c.2.2.2]
abbrev zsg (b : Nat) (l : List UInt8) : Own:=qh b 9 [SA l]
abbrev zsj (b : Nat) (n : Int) : Own:=qh b 31 [I n]
variable {T0 : Gh}
attribute [local irreducible] zz zg AW AL AO QY qh z_ rsA Opd xh vA gvA zy qb slA jl ipA rpA EqK LnK IxK LdK FaK FdK
theorem z4y (e : Int) (he : e = 2 ∨ e = 3) {w0 : World} {G : Gh} {F : List Own} {w : World} {b2 b3 b4 : Nat} {c : Cmd} {l : List UInt8} {n : Int} (hs : St T0 w0 G ([zsj b4 n,zsg b3 l,zsq b2 c] ++ F) w) :
  CallsD Tryz.prog 137 #[.pointer (some ⟨b2,0,none⟩),.pointer (some ⟨b3,0,none⟩),.pointer (some ⟨b4,0,none⟩)] (.panicking (zv0 e)) w fun en u' w' =>
   (∃ v,en = .returned v) ∧ u' = .panicking [{ v:=.iface 31 (.int .i64 e),recovered:=true }] ∧ ∃ G',Gh.le G G' ∧ St T0 w0 G' ([zsj b4 e,zsg b3 [],zsq b2 (0,0,0,0)] ++ F) w':=by
 refine callsD_of_wpS Tryz.func137 rfl fun c₀ cs hu => ?_
 apply wpS_seq
 apply wpS_region
 simp [wpOpsS,go_sem,recoverD,hu,Tryz.ntmps137,Exit.thenS]
 refine z58 (T0:=T0) (N:=⟨21,[]⟩) (w0:=w0) (G:=G) (F:=F) (fr:=[(0,ptA b2),(1,ptA b3),(2,ptA b4),(3,vA (.iface 31 (.int .i64 e)))]) (M:=[zsj b4 n,zsg b3 l,zsq b2 c]) (Q:=fun ex _ M'=>ex = .normal ∧ List.Sublist [zsj b4 e,zsg b3 [],zsq b2 (0,0,0,0)] M') ?_ ?_ ?_
 ·rcases he with rfl | rfl
  all_goals
   repeat' (first
   |refine sa_ ?_ | refine jd ?_ (hy:=by first | (apply z2l rfl; (case hx=>exact oo_); (case hy=>exact oo_); (case hr=>intro w; simp [eqGuard,binOp,Op.equal,Op.equalIn,go_sem]; rfl)) | (apply zwo rfl un_; exact oo_; done) | fail) | refine j0 ?_ | refine qj ?_ (hy:=by intro hk hk2; first | (apply z2l rfl; (case hx=>exact oo_); (case hy=>exact oo_); (case hr=>intro w; simp [eqGuard,binOp,Op.equal,Op.equalIn,go_sem]; rfl)) | (apply zwo rfl un_; exact oo_; done) | fail) | refine sw_ ?_ | (refine zd ?_ ?_ <;> intro hb <;> try exact no_) | (refine sx_ ?_ <;> intro bb) | (refine su_ ?_ <;> intro u hu1 hu2) | fail)
  all_goals first | exact ⟨rfl,sl_⟩ | (exfalso; omega)
 ·refine ⟨hs, ?_, ?_,rfl⟩
  ·refine ue (u:=.pointer (some ⟨b2,0,none⟩)) ?_ (Rep.va _ _) (ue (u:=.pointer (some ⟨b3,0,none⟩)) ?_ (Rep.va _ _) (ue (u:=.pointer (some ⟨b4,0,none⟩)) ?_ (Rep.va _ _) (ue (u:=.iface 31 (.int .i64 e)) ?_ (Rep.va _ _) zlu)))
   all_goals simp [Act.put,Array.getElem?_append,Array.getElem?_setIfInBounds]
  ·simp
 ·rintro ex a' w' ⟨fr',M',G',⟨rfl,hsub⟩,hl,hc⟩
  have hres : (results Tryz.f137 a'.tmps).run Tryz.prog w' = .ok (.tuple #[]) w':=by simp [results,Tryz.results137]
  have hst:=hc.st.sub (hsub.append (List.Sublist.refl F))
  have hdf : a'.defers = []:=hc.defers
  clear hc hsub
  exact ⟨hdf,_,rfl,.tuple #[],hres,⟨_,rfl⟩,rfl,G',hl,hst⟩
theorem z8k {w : World} {p2 p3 p4 : Value} : CallsD Tryz.prog 137 #[p2,p3,p4] .returning w fun en u' w'=>(∃ v,en = .returned v) ∧ u' = .returning ∧ w' = w:=by
 refine callsD_of_wpS Tryz.func137 rfl fun c₀ cs hu => ?_
 apply wpS_seq
 apply wpS_region
 simp [wpOpsS,go_sem,recoverD,hu,Tryz.ntmps137,Exit.thenS]
 apply wpS_seq
 apply wpS_region
 simp [wpOpsS,go_sem,eqGuard,binOp,Op.equal,Op.equalIn,Exit.thenS]
 refine wpS_cond (t:=false) (by simp [Act.eval,Act.put,Array.replicate]) ?_
 simp only [Bool.false_eq_true,if_false]
 refine wpS_of_wp (wp_skip ?_)
 cases c₀
 simp_all [bodyPostS,Act.put,results,Tryz.results137]
end
section
open Go Go.RowKit
set_option maxRecDepth 200000
def xj (s : List UInt8) : Cmd × List UInt8 × Int:=if s = [] then ((0,0,0,0),[],6) else ((zdi s).2.1,(zdi s).2.2,(zdi s).1)
theorem zxv {P : Program} {id : Nat} {o1 o2 : Oper} {x : Nat} {f : FuncId} {caps : Array Operand} {ts : Array TypeId} {a : Act} {w : World} {R : Exit → Act → World → Prop} (hg1 : o1.guard = none) (hg2 : o2.guard = none) (hd1 : o1.dst = some x) (hd2 : o2.dst = none) (h1 : o1.op = .makeFunc (.func f) #[] caps) (h2 : o2.op = .defer { callee:=.value (.tmp x),args := #[],argTypes:=ts }) (hx : x < a.tmps.size)
  (h : R .normal { tmps:=a.tmps.setIfInBounds x (.func (.func f) #[] (caps.map a.eval)),defers:={ target:=.fn (.func f) (caps.map a.eval),args := #[] } :: a.defers } w) : (Code.region id [o1,o2].toArray false).wp P R a w:=by
 refine wp_region_lit (wpList_plain hg1 fun K hK => ?_)
 have r1 : (execOp a.eval o1).run P w = .ok (.value (.func (.func f) #[] (caps.map a.eval))) w:=by
  simp only [execOp,h1,Sem.run_bind,show ∀ (fn : Fn) (first cap : Array Value),(Instr.makeFunc fn first cap).run P w = .ok (.func fn first cap) w from fun _ _ _=>rfl,Result.andThen_ok,Sem.run_pure]
  simp
 unfold Oper.wp; rw [r1]
 refine hK _ _ (wpList_plain hg2 fun K2 hK2 => ?_)
 have e : (a.put o1.dst (.func (.func f) #[] (caps.map a.eval))).eval (.tmp x) = .func (.func f) #[] (caps.map a.eval):=by
  simp [Act.put,hd1,Act.eval,hx]
 have r2 : (execOp (a.put o1.dst (.func (.func f) #[] (caps.map a.eval))).eval o2).run P w = .ok (.defer { target:=.fn (.func f) (caps.map a.eval),args := #[] }) w:=by
  simp only [execOp,h2,resolve,e]
  simp [Deferred.ofValue]
 unfold Oper.wp; rw [r2]
 refine hK2 _ _ (wpList_nil ?_)
 rw [hd1,hd2]; exact h
theorem zrv {α : Type} (l : List α) (n : Nat) : (l.drop n).take (l.length - n) = l.drop n:=List.take_of_length_le (by rw [List.length_drop]; omega)
instance qcm : AlC 9 (.string ⟨#[]⟩) [.string ⟨#[]⟩] [SA []]:=⟨by kernel_rfl,rfl,rfl⟩
instance qcn : AlC 31 (.int .i64 0) [.int .i64 0] [I 0]:=⟨by kernel_rfl,rfl,rfl⟩
variable {T0 : Gh} [TabU T0]
attribute [local irreducible] zz zg AW AL AO QY qh z_ rsA Opd xh vA gvA zy qb slA jl ipA rpA EqK LnK IxK LdK FaK FdK
theorem znp : AP Tryz.prog T0 95 [SA []] (zy [yw (0,0,0,0),SA [],I 6]):=by
 refine za Tryz.func95 rfl (by decide) Tryz.ntmps95 rfl ?_
 repeat' (first
 |refine g2_ ?_ | (refine zd ?_ ?_ <;> intro hb <;> try exact no_) | (refine sx_ ?_ <;> intro bb) | (refine su_ ?_ <;> intro u hu1 hu2) | fail)
 all_goals first | exact ⟨_,[],rl_,List.nil_sublist _,Sub.eq (by rfl),rfl⟩ | (exfalso; simp at hb; done)
def z57 (b2 b3 b4 : Nat) : List Own:=[zsj b4 0,zsg b3 [],zsq b2 (0,0,0,0)]
abbrev fr4 (s : List UInt8) (b2 b3 b4 : Nat) : Fr:=[(0,SA s),(2,ptA b2),(3,ptA b3),(4,ptA b4)]
def z_j (s : List UInt8) (b2 b3 b4 : Nat) : ko:=fun ex fr M=>Weak fr (fr4 s b2 b3 b4) ∧ ((ex = .ret ∧ ∃ c t,zdi s = (0,c,t) ∧ List.Sublist [zsj b4 0,zsg b3 t,zsq b2 c] M) ∨ (∃ e,ex = .panic (zv0 e) ∧ e ≠ 0 ∧ (zdi s).1 = e ∧ List.Sublist [zsj b4 0,zsg b3 [],zsq b2 (0,0,0,0)] M))
theorem zt2 (s : List UInt8) (hs : s.length ≤ 9223372036854775807) (h0 : s ≠ []) (D : List Deferred) (b2 b3 b4 : Nat) : ∀ c1 c2 c3 c4 : Code,Tryz.f95.body = some (.seq c1 (.seq c2 (.seq c3 c4))) → AW Tryz.prog T0 ⟨18,D⟩ c4 (z_j s b2 b3 b4) (fr4 s b2 b3 b4) (z57 b2 b3 b4):=by
 have htail : ∀ c t,zdi s = (0,c,t) → t.length ≤ s.length ∧ List.take (s.length - (s.length - t.length)) (List.drop (s.length - t.length) s) = t:=fun c t h=>by
  rcases zaz s h0 with ⟨c',l,t',_,h2,h3⟩ | ⟨h1,_⟩ | h1
  ·rw [h] at h3
   simp only [Prod.mk.injEq,true_and] at h3
   obtain ⟨_,rfl⟩:=h3
   rw [zrv,h2,List.length_append]
   exact ⟨by omega,by rw [show l.length + t.length - t.length = l.length by omega,List.drop_left]⟩
  ·rw [h] at h1; cases h1
  ·rw [h] at h1; cases h1
 intro c1 c2 c3 c4 hb
 obtain ⟨rfl,rfl,rfl,rfl⟩ : _ ∧ _ ∧ _ ∧ _:=by
  have:=Option.some.inj hb
  injection this with e1 e2
  injection e2 with e3 e4
  injection e4 with e5 e6
  exact ⟨e1,e3,e5,e6⟩
 unfold z57
 repeat' (first
 |(apply zo rfl rfl rfl rfl (c:=zvs _ s hs h0)
   case ha=>exact os_
   case hM=>exact zf
   case hp =>
    rintro ch M1 ⟨e,k1,k2,rfl⟩
    repeat' (first | refine zqj ?_ | refine zq7 ?_)
    exact ⟨wk_,.inr ⟨e,rfl,k1,k2,List.sublist_append_of_sublist_right sl_⟩⟩
   rintro _ _ ⟨c,t,hct,rfl,rfl⟩
   have ht:=htail c t hct)
 |(apply qe; (case hn=>rfl); (case hm=>kernel_rfl)) | refine g6_ ?_ | (apply jx; (case hL=>rfl); (case hne=>rfl)) | exact jy | apply xr | (apply ze7; (case ho=>rfl)) | (apply xp; exact wg) | (apply jv; (case h=>exact zel); (case hk=>exact wk_); (case hc=>rfl)) | refine g2_ ?_ | (refine zd ?_ ?_ <;> intro hb <;> try exact no_) | (refine sx_ ?_ <;> intro bb) | (refine su_ ?_ <;> intro u hu1 hu2) | fail)
 refine ⟨wk_,.inl ⟨rfl,c,t,hct, ?_⟩⟩
 rw [ht.2]
 exact sl_
def K1 (s : List UInt8) : Fr → List Own → Prop:=fun fr M => ∃ b2 b3 b4,Weak fr (fr4 s b2 b3 b4) ∧ List.Sublist [zsj b4 0,zsg b3 [],zsq b2 (0,0,0,0)] M
def K2 (s : List UInt8) (b2 b3 b4 : Nat) : Fr → List Own → Prop:=fun fr M=>Weak fr (fr4 s b2 b3 b4) ∧ List.Sublist [zsj b4 0,zsg b3 [],zsq b2 (0,0,0,0)] M
theorem z3t (s : List UInt8) : ∀ c1 c2 c3 c4 : Code,Tryz.f95.body = some (.seq c1 (.seq c2 (.seq c3 c4))) → AW Tryz.prog T0 ⟨18,[]⟩ c1 (zz (K1 s) fun _ _ _=>False) [(0,SA s)] []:=by
 intro c1 c2 c3 c4 hb
 obtain ⟨rfl,rfl,rfl,rfl⟩ : _ ∧ _ ∧ _ ∧ _:=by
  have:=Option.some.inj hb
  injection this with e1 e2
  injection e2 with e3 e4
  injection e4 with e5 e6
  exact ⟨e1,e3,e5,e6⟩
 repeat' (first
 |refine g2_ ?_ | (refine zd ?_ ?_ <;> intro hb <;> try exact no_) | (refine sx_ ?_ <;> intro bb) | (refine su_ ?_ <;> intro u hu1 hu2) | fail)
 exact ⟨_,_,_,wk_,sl_⟩
theorem z3s (s : List UInt8) (h0 : s ≠ []) (b2 b3 b4 : Nat) : ∀ c1 c2 c3 c4 : Code,Tryz.f95.body = some (.seq c1 (.seq c2 (.seq c3 c4))) → AW Tryz.prog T0 ⟨18,[]⟩ c2 (zz (K2 s b2 b3 b4) fun _ _ _=>False) (fr4 s b2 b3 b4) [zsj b4 0,zsg b3 [],zsq b2 (0,0,0,0)]:=by
 intro c1 c2 c3 c4 hb
 obtain ⟨rfl,rfl,rfl,rfl⟩ : _ ∧ _ ∧ _ ∧ _:=by
  have:=Option.some.inj hb
  injection this with e1 e2
  injection e2 with e3 e4
  injection e4 with e5 e6
  exact ⟨e1,e3,e5,e6⟩
 repeat' (first
 |refine g2_ ?_ | (refine zd ?_ ?_ <;> intro hb <;> try exact no_) | (refine sx_ ?_ <;> intro bb) | (refine su_ ?_ <;> intro u hu1 hu2) | fail)
 all_goals first | exact ⟨wk_,sl_⟩ | (exact absurd (by simpa using hb) h0)
def dN (b2 b3 b4 : Nat) : Deferred:={ target:=.fn (.func 137) #[.pointer (some ⟨b2,0,none⟩),.pointer (some ⟨b3,0,none⟩),.pointer (some ⟨b4,0,none⟩)],args := #[] }
theorem z3r (s : List UInt8) (b2 b3 b4 : Nat) : ∀ c1 c2 c3 c4 : Code,Tryz.f95.body = some (.seq c1 (.seq c2 (.seq c3 c4))) → ∀ {a : Act} {w w0 : World} {G : Gh} {F M : List Own} {R : Exit → Act → World → Prop},Con T0 ⟨18,[]⟩ w0 G F (fr4 s b2 b3 b4) M a w →
  (∀ a',Con T0 ⟨18,[dN b2 b3 b4]⟩ w0 G F (fr4 s b2 b3 b4) M a' w → R .normal a' w) → c3.wp Tryz.prog R a w:=by
 intro c1 c2 c3 c4 hb a w w0 G F M R hc h
 obtain ⟨rfl,rfl,rfl,rfl⟩ : _ ∧ _ ∧ _ ∧ _:=by
  have:=Option.some.inj hb
  injection this with e1 e2
  injection e2 with e3 e4
  injection e4 with e5 e6
  exact ⟨e1,e3,e5,e6⟩
 have hsz : a.tmps.size = 18:=hc.size
 refine zxv rfl rfl rfl rfl rfl rfl (by rw [hsz]; decide) ?_
 have s2:=(hc.slot (t:=2) (A:=ptA b2) rfl).eq
 have s3:=(hc.slot (t:=3) (A:=ptA b3) rfl).eq
 have s4:=(hc.slot (t:=4) (A:=ptA b4) rfl).eq
 have hcaps : (#[Operand.tmp 2,Operand.tmp 3,Operand.tmp 4].map a.eval) = #[.pointer (some ⟨b2,0,none⟩),.pointer (some ⟨b3,0,none⟩),.pointer (some ⟨b4,0,none⟩)]:=by simp [s2,s3,s4]
 have hdef : a.defers = []:=hc.defers
 refine h _ ⟨hc.st, ?_, ?_, ?_⟩
 ·have hput:=frRel.put (a:=a) (d:=some 9) (A:=z0_) hc.fr (fun x hx=>by cases hx; rw [hsz]; decide) (Rep.any G (.func (.func 137) #[] (#[Operand.tmp 2,Operand.tmp 3,Operand.tmp 4].map a.eval)))
  exact (zak rfl (zak rfl (zak rfl (zak rfl zog))) : Weak ((9,z0_) :: fr4 s b2 b3 b4) (fr4 s b2 b3 b4)) G _ hput
 ·simp [hsz]
 ·show _ :: a.defers = _
  rw [hdef,hcaps]; rfl
theorem zri (s : List UInt8) (hs : s.length ≤ 9223372036854775807) : AP Tryz.prog T0 95 [SA s] (zy [yw (xj s).1,SA (xj s).2.1,I (xj s).2.2]):=by
 by_cases h0 : s = []
 ·subst h0
  exact znp.to (by rw [xj,if_pos rfl])
 rw [xj,if_neg h0]
 obtain ⟨c1,c2,c3,c4,hb⟩ : ∃ c1 c2 c3 c4,Tryz.f95.body = some (.seq c1 (.seq c2 (.seq c3 c4))):=⟨_,_,_,_,rfl⟩
 have n1:=z3t (T0:=T0) s c1 c2 c3 c4 hb
 have n2:=fun b2 b3 b4=>z3s (T0:=T0) s h0 b2 b3 b4 c1 c2 c3 c4 hb
 have n4:=fun D b2 b3 b4=>zt2 (T0:=T0) s hs h0 D b2 b3 b4 c1 c2 c3 c4 hb
 refine ⟨⟨Tryz.f95,Tryz.func95,by decide,by rw [hb]; rfl⟩,fun w0 G F w vs hst hr => ?_⟩
 obtain ⟨v,rfl⟩ : ∃ v,vs = [v]:=List.length_eq_one_iff.1 hr.len
 have hv:=hr.1.eq
 subst hv
 refine calls_of_wp_defers Tryz.func95 hb ?_
 have hc : Con T0 ⟨18,[]⟩ w0 G F [(0,SA s)] [] { tmps:=[Value.string ⟨s.toArray⟩].toArray ++ Array.replicate (Tryz.f95.ntmps - [Value.string ⟨s.toArray⟩].toArray.size) undef,defers:=[] } w :=
  ⟨hst,ue (u:=.string ⟨s.toArray⟩) (by simp) (Rep.va _ _) zlu,by simp [Tryz.ntmps95],rfl⟩
 refine z1g (K1 s) n1 hc ?_
 rintro fr1 M1 G1 a1 w1 ⟨b2,b3,b4,k1,k2⟩ l1 hc1
 refine z1g (K2 s b2 b3 b4) (n2 b2 b3 b4) (hc1.weak k1 k2) ?_
 rintro fr2 M2 G2 a2 w2 ⟨k3,k4⟩ l2 hc2
 refine wp_seq (z3r s b2 b3 b4 c1 c2 c3 c4 hb (hc2.weak k3 k4) fun a3 hc3 => ?_)
 refine z9s (n4 [dN b2 b3 b4] b2 b3 b4) hc3 ?_
 have hinv : ∀ w,(invoke (.fn (.func 137) #[.pointer (some ⟨b2,0,none⟩),.pointer (some ⟨b3,0,none⟩),.pointer (some ⟨b4,0,none⟩)]) #[]).run Tryz.prog w = .ok (.enter 137 #[.pointer (some ⟨b2,0,none⟩),.pointer (some ⟨b3,0,none⟩),.pointer (some ⟨b4,0,none⟩)]) w:=fun w=>by
  have hcl : zkv Tryz.prog 137:=⟨_,Tryz.func137,by decide,rfl⟩
  simp [invoke,zap hcl]
 rintro ex a4 w4 ⟨fr5,M4,G4,⟨k5,k6⟩,l4,hc4⟩
 have hfr:=k5 G4 _ hc4.fr
 have hdef : a4.defers = [dN b2 b3 b4]:=hc4.defers
 rcases k6 with ⟨rfl,c,t,hct,hsub⟩ | ⟨e,rfl,he,hce,hsub⟩
 ·have hst4:=hc4.st.sub (hsub.append (List.Sublist.refl F))
  show Leaves Tryz.prog Tryz.f95 a4.tmps _ a4.defers .returning w4
  rw [hdef]
  refine leaves_cons (by simp) (hinv w4) (z8k.mono ?_)
  rintro en u' w5 ⟨⟨v,rfl⟩,rfl,rfl⟩
  have hres : zi3 Tryz.prog T0 Tryz.f95 (fr4 s b2 b3 b4) [zsj b4 0,zsg b3 t,zsq b2 c] (zy [yw c,SA t,I 0]):=rl_
  obtain ⟨u,hu1,hu2⟩:=hres w0 G4 F a4.tmps w5 hst4 hfr
  rw [hct]
  exact ⟨u,hu1,.inl ⟨u,_,[],G4,rfl,⟨Sub.refl _,rfl⟩,hu2,l1.trans (l2.trans l4),hst4.sub (List.sublist_append_right _ _)⟩⟩
 ·have hst4:=hc4.st.sub (hsub.append (List.Sublist.refl F))
  have he23 : (e = 2 ∨ e = 3) ∧ zdi s = nok e:=by
   rcases zaz s h0 with ⟨c',l,t',_,h2,h3⟩ | ⟨h1,_⟩ | h1
   ·rw [h3] at hce; exact absurd hce.symm he
   ·rw [h1] at hce; simp only [nok] at hce; exact ⟨.inr hce.symm,by rw [h1,hce]⟩
   ·rw [h1] at hce; simp only [nok] at hce; exact ⟨.inl hce.symm,by rw [h1,hce]⟩
  show Leaves Tryz.prog Tryz.f95 a4.tmps _ a4.defers (.panicking (zv0 e)) w4
  rw [hdef]
  refine leaves_cons (by simp) (hinv w4) ((z4y e he23.1 hst4).mono ?_)
  rintro en u' w5 ⟨⟨v,rfl⟩,rfl,G5,l5,hst5⟩
  have hres : zi3 Tryz.prog T0 Tryz.f95 (fr4 s b2 b3 b4) [zsj b4 e,zsg b3 [],zsq b2 (0,0,0,0)] (zy [yw (0,0,0,0),SA [],I e]):=rl_
  obtain ⟨u,hu1,hu2⟩:=hres w0 G5 F a4.tmps w5 hst5 (frOn.gmono l5 hfr)
  rw [he23.2]
  exact ⟨u,hu1,.inl ⟨u,_,[],G5,rfl,⟨Sub.refl _,rfl⟩,hu2,l1.trans (l2.trans (l4.trans l5)),hst5.sub (List.sublist_append_right _ _)⟩⟩
end
section
open Go Go.RowKit
set_option maxRecDepth 200000
def zxb : Nat → List UInt8 → List Cmd × List UInt8 × Int
 |0,s=>([],s,0)
 |n + 1,s=>if (xj s).2.2 = 0 then (if (zxb n (xj s).2.1).2.2 = 2 then ([],[],2) else ((xj s).1 :: (zxb n (xj s).2.1).1,(zxb n (xj s).2.1).2)) else if (xj s).2.2 = 2 then ([],[],2) else ([],s,0)
def v9 (s : List UInt8) : List Cmd × List UInt8 × Int:=zxb s.length s
def zsd (o : List Cmd) (y : List Cmd × List UInt8 × Int) : List Cmd × List UInt8 × Int:=if y.2.2 = 2 then ([],[],2) else (o ++ y.1,y.2)
theorem zla {c : Cmd} {l : List UInt8} (h : Shape c l) : 1 ≤ l.length:=by
 cases h <;> first | exact (zj_ _).1 | (simp only [List.length_cons]; omega) | (unfold zgz; (repeat' split) <;> simp)
theorem zt3 {s : List UInt8} (h : (xj s).2.2 = 0) : ∃ l,Shape (xj s).1 l ∧ s = l ++ (xj s).2.1:=by
 by_cases h0 : s = []
 ·rw [xj,if_pos h0] at h; cases h
 ·rw [xj,if_neg h0] at h ⊢
  rcases zaz s h0 with ⟨c,l,t,h1,h2,h3⟩ | ⟨h1,_⟩ | h1
  ·rw [h3]; exact ⟨l,h1,h2⟩
  ·rw [h1] at h; cases h
  ·rw [h1] at h; cases h
theorem zcs {s : List UInt8} (h : (xj s).2.2 = 0) : (xj s).2.1.length < s.length:=by
 obtain ⟨l,h1,h2⟩:=zt3 h
 have:=zla h1
 have e : s.length = l.length + (xj s).2.1.length:=by rw [← List.length_append,← h2]
 omega
theorem zzb (s : List UInt8) : (xj s).2.2 = 0 ∨ (xj s).2.2 = 2 ∨ (xj s).2.2 = 3 ∨ (xj s).2.2 = 6:=by
 by_cases h0 : s = []
 ·rw [xj,if_pos h0]; simp
 ·rw [xj,if_neg h0]
  rcases zaz s h0 with ⟨c,l,t,h1,h2,h3⟩ | ⟨h1,_⟩ | h1
  ·rw [h3]; simp
  ·rw [h1]; simp [nok]
  ·rw [h1]; simp [nok]
theorem zdg : ∀ (n m : Nat) (s : List UInt8),s.length ≤ n → s.length ≤ m → zxb n s = zxb m s
 |0,0,s,_,_=>rfl
 |0,m + 1,s,h,_=>by
  have h0 : s = []:=List.length_eq_zero_iff.1 (by omega)
  subst h0; rfl
 |n + 1,0,s,_,h=>by
  have h0 : s = []:=List.length_eq_zero_iff.1 (by omega)
  subst h0; rfl
 |n + 1,m + 1,s,h1,h2=>by
  rw [zxb,zxb]
  by_cases he : (xj s).2.2 = 0
  ·have:=zcs he
   rw [if_pos he,if_pos he,zdg n m (xj s).2.1 (by omega) (by omega)]
  ·rw [if_neg he,if_neg he]
theorem zks {s : List UInt8} (h : (xj s).2.2 = 0) : v9 s = zsd [(xj s).1] (v9 (xj s).2.1):=by
 have hl:=zcs h
 rw [v9,zdg s.length (s.length + 1) s (Nat.le_refl _) (by omega),zxb,if_pos h,zdg s.length (xj s).2.1.length _ (by omega) (Nat.le_refl _)]
 rfl
theorem zhs {s : List UInt8} (h : (xj s).2.2 = 2) : v9 s = ([],[],2):=by
 rw [v9,zdg s.length (s.length + 1) s (Nat.le_refl _) (by omega),zxb,if_neg (by rw [h]; decide),if_pos h]
theorem zdf {s : List UInt8} (h : (xj s).2.2 ≠ 0) (h2 : (xj s).2.2 ≠ 2) : v9 s = ([],s,0):=by
 rw [v9,zdg s.length (s.length + 1) s (Nat.le_refl _) (by omega),zxb,if_neg h,if_neg h2]
theorem zqh (o p : List Cmd) (y : List Cmd × List UInt8 × Int) : zsd o (zsd p y) = zsd (o ++ p) y:=by
 unfold zsd
 by_cases h : y.2.2 = 2
 ·rw [if_pos h,if_pos h,if_pos rfl]
 ·rw [if_neg h,if_neg h,if_neg h,List.append_assoc]
theorem zfu (s : List UInt8) : (v9 s).2.2 = 0 ∨ v9 s = ([],[],2):=by
 generalize hn : s.length = n
 induction n using Nat.strongRecOn generalizing s with
 |ind n ih =>
  by_cases h : (xj s).2.2 = 0
  ·have hl:=zcs h
   rw [zks h]
   rcases ih _ (by omega) (xj s).2.1 rfl with e | e
   ·left; rw [zsd,if_neg (by rw [e]; decide),e]
   ·right; rw [e]; rfl
  ·by_cases h2 : (xj s).2.2 = 2
   ·exact .inr (zhs h2)
   ·left; rw [zdf h h2]
theorem zqg (s : List UInt8) : zsd [] (v9 s) = v9 s:=by
 rcases zfu s with e | e
 ·rw [zsd,if_neg (by rw [e]; decide)]; rfl
 ·rw [e]; rfl
theorem zjb {α : Type} {T : Ty α} : Sub (vA (.slice none 0 0)) (slA T []):=fun _ _ h=>by
 rw [h.eq]; exact .of ⟨none,0,0,rfl,rfl,Nat.le_refl _,Nat.zero_le _,fun _=>rfl,fun h=>absurd rfl h⟩
variable {T0 : Gh} [TabU T0]
attribute [local irreducible] zz zg AW AL AO QY qh z_ rsA Opd xh vA gvA zy qb slA jl ipA rpA EqK LnK IxK LdK FaK FdK
theorem zl0 (s : List UInt8) (hs : s.length ≤ 4000000000) : AP Tryz.prog T0 34 [SA s] (zy [slA zc7 (v9 s).1,SA (v9 s).2.1,I (v9 s).2.2]):=by
 have c1 : True:=trivial
 refine za Tryz.func34 rfl (by decide) Tryz.ntmps34 rfl ?_
 repeat' (first
 |refine z9g ?_ | (refine zd ?_ ?_ <;> intro hb <;> try exact no_) | (refine sx_ ?_ <;> intro bb) | (refine su_ ?_ <;> intro u hu1 hu2) | fail)
 refine z8w zc7 35 ?_
 refine qat 5 (fun y : List UInt8 × List Cmd=>[(0,SA y.1)]) (fun y=>y.2) (fun y=>y.1.length + y.2.length ≤ s.length ∧ zsd y.2 (v9 y.1) = v9 s) (fun y=>y.1.length) (s,[]) ⟨by simp,zqg s⟩ rfl ?_
 rintro ⟨q,out⟩ u ⟨i1,i2⟩ hu1 hu2
 simp only at i1 i2 ⊢
 clear c1
 have c1:=zri (T0:=T0) q (by omega)
 have k1:=fun h=>zks (s:=q) h
 have k2:=fun h=>zhs (s:=q) h
 have k3:=fun h h2=>zdf (s:=q) h h2
 have k4:=fun h=>zcs (s:=q) h
 have ke:=zzb q
 obtain ⟨⟨c,t,e⟩,hx⟩ : ∃ x,x = xj q:=⟨_,rfl⟩
 rw [← hx] at c1 k1 k2 k3 k4 ke
 simp only at c1 k1 k2 k3 k4 ke
 clear hx
 by_cases he : e = 0
 ·subst he
  have k1:=k1 rfl
  have k4:=k4 rfl
  rw [k1,zqh] at i2
  clear k2 k3 ke k1
  repeat' (first
  |refine z9g ?_ | (refine zd ?_ ?_ <;> intro hb <;> try exact no_) | (refine sx_ ?_ <;> intro bb) | (refine su_ ?_ <;> intro u hu1 hu2) | fail)
  all_goals first | (exfalso; omega) | exact ⟨(t,out ++ [c]),_,⟨by simp only [List.length_append,List.length_singleton]; omega,i2⟩,by simp only; omega,wx_,sl_⟩
 ·apply zsb 0 rfl
  case hz=>simp only [List.cons_append,List.nil_append]; repeat' (first | exact z35 | apply zz0 | exact zu0 | exact zuz)
  by_cases h2 : e = 2
  ·subst h2
   rw [k2 rfl] at i2
   have hr : v9 s = ([],[],2):=by rw [← i2]; rfl
   rw [hr]
   repeat' (first
   |refine z9g ?_ | (refine zd ?_ ?_ <;> intro hb <;> try exact no_) | (refine sx_ ?_ <;> intro bb) | (refine su_ ?_ <;> intro u hu1 hu2) | fail)
   all_goals first | (exfalso; omega) | exact ⟨_,[],rl_,List.nil_sublist _,wa (qu zjb (qu (Sub.refl _) (qu (Sub.refl _) y4))),rfl⟩
  ·rw [k3 he h2] at i2
   have hr : v9 s = (out,q,0):=by rw [← i2]; simp [zsd]
   rw [hr]
   repeat' (first
   |refine z9g ?_ | (refine zd ?_ ?_ <;> intro hb <;> try exact no_) | (refine sx_ ?_ <;> intro bb) | (refine su_ ?_ <;> intro u hu1 hu2) | fail)
   all_goals first | (exfalso; omega) | exact ⟨_,[],rl_,List.nil_sublist _,Sub.refl _,rfl⟩
end
section
open Go Go.RowKit
set_option maxRecDepth 100000
theorem zuc {c : Cmd} {l : List UInt8} (h : Shape c l) {k : Nat} (h1 : 1 ≤ k) (h2 : k < l.length) : zof (l.take k):=by
 have hlen : (l.take k).length = k:=by rw [List.length_take]; omega
 have h0 : l.take k ≠ []:=by intro e; rw [e] at hlen; simp only [List.length_nil] at hlen; omega
 by_cases hc : c.1 = 1
 ·cases h with
  |text n hs=>exact .inl ⟨h0,n,wz hs,by rw [hlen]; exact h2,by rw [hlen]⟩
  |go a b=>exact absurd hc (by simp only; omega)
  |one k hk=>exact absurd hc (by simp only; omega)
  |move k a hk=>exact absurd hc (by simp only; omega)
  |form k hk=>exact absurd hc (by simp only; omega)
 ·exact .inr ⟨h0,c,l,h,hc,by rw [hlen]; exact h2,by rw [hlen]⟩
theorem zsc (s : List UInt8) (h : (v9 s).2.2 = 0) : s.length = qr (v9 s).1 + (v9 s).2.1.length ∧ (∀ c ∈ (v9 s).1,z9 c = true) ∧ s = ((v9 s).1.flatMap q9) ++ (v9 s).2.1 ∧ (((v9 s).2.1 = [] ∧ (xj (v9 s).2.1).2.2 = 6) ∨ (zof (v9 s).2.1 ∧ (xj (v9 s).2.1).2.2 = 3)):=by
 generalize hn : s.length = n
 induction n using Nat.strongRecOn generalizing s with
 |ind n ih =>
  by_cases h1 : (xj s).2.2 = 0
  ·have hl:=zcs h1
   have e1:=zks h1
   rcases zfu (xj s).2.1 with k | k
   ·have e3 : v9 s = ((xj s).1 :: (v9 (xj s).2.1).1,(v9 (xj s).2.1).2):=by rw [e1,zsd,if_neg (by rw [k]; decide)]; rfl
    obtain ⟨j1,j2,j3,j4⟩:=ih _ (by omega) (xj s).2.1 k rfl
    obtain ⟨l,s1,s2⟩:=zt3 h1
    obtain ⟨s3,s4⟩:=zyk s1
    rw [e3]
    refine ⟨?_, ?_, ?_,j4⟩
    ·have e4 : jb (xj s).1 = l.length:=by rw [jb,jt,if_pos s3,s4]
     have e5 : s.length = l.length + (xj s).2.1.length:=by rw [← List.length_append,← s2]
     simp only [qr,List.map_cons,List.sum_cons] at j1 ⊢; omega
    ·intro c hc
     rcases List.mem_cons.1 hc with rfl | hc
     ·exact s3
     ·exact j2 c hc
    ·rw [List.flatMap_cons,s4,List.append_assoc,← j3]; exact s2
   ·rw [e1,k] at h; cases h
  ·by_cases h2 : (xj s).2.2 = 2
   ·rw [zhs h2] at h; cases h
   ·have e1:=zdf h1 h2
    rw [e1]
    refine ⟨by simp [qr]; exact hn.symm,fun c hc=>(by cases hc),by simp, ?_⟩
    by_cases h0 : s = []
    ·subst h0; exact .inl ⟨rfl,rfl⟩
    ·right
     rcases zaz s h0 with ⟨c,l,t,k1,k2,k3⟩ | ⟨k1,k2⟩ | k1
     ·exact absurd (by rw [xj,if_neg h0,k3]) h1
     ·exact ⟨k2,by rw [xj,if_neg h0,k1]; rfl⟩
     ·exact absurd (by rw [xj,if_neg h0,k1]; rfl) h2
theorem zqf : ∀ (l : List Cmd) (s : List UInt8),(∀ c ∈ l,z9 c = true) → v9 (l.flatMap q9 ++ s) = zsd l (v9 s)
 |[],s,_=>(zqg s).symm
 |c :: l,s,h=>by
  have hs:=zjg (h c (by simp))
  have hp:=zla hs
  have e : (c :: l).flatMap q9 ++ s = q9 c ++ (l.flatMap q9 ++ s):=by rw [List.flatMap_cons,List.append_assoc]
  have hne : q9 c ++ (l.flatMap q9 ++ s) ≠ []:=by
   intro e; have:=congrArg List.length e; simp only [List.length_append,List.length_nil] at this; omega
  have hn : xj (q9 c ++ (l.flatMap q9 ++ s)) = (c,l.flatMap q9 ++ s,0):=by rw [xj,if_neg hne,z0z hs]
  have:=zks (s:=q9 c ++ (l.flatMap q9 ++ s)) (by rw [hn])
  rw [hn] at this
  rw [e,this,zqf l s (fun d hd=>h d (by simp [hd])),zqh]; rfl
theorem z1c (s : List UInt8) : (v9 s).1.length ≤ s.length:=by
 rcases zfu s with h | h
 ·obtain ⟨h1,h2,h3,_⟩:=zsc s h
  have : ∀ l : List Cmd,(∀ c ∈ l,z9 c = true) → l.length ≤ qr l:=fun l=>by
   induction l with
   |nil=>intro _; simp [qr]
   |cons c l ih =>
    intro h
    have h4:=(zbj (h c (by simp))).1
    have h5 : jb c = (q9 c).length:=by rw [jb,jt,if_pos (h c (by simp))]
    have:=ih fun d hd=>h d (by simp [hd])
    simp only [qr,List.map_cons,List.sum_cons,List.length_cons] at this ⊢; omega
  have:=this _ h2
  omega
 ·rw [h]; simp
end
end Go.Proofs.YtgfmjmfphmjdkaaGreatDoor
