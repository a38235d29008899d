/- Several texts in one: see the comment ahead of each. No condition. -/
import Derived.Test.YtgfmjmfphmjdkaaGreatDoorR1ZU
import Derived.Test.YtgfmjmfphmjdkaaGreatDoorR1ZV
import Derived.Recover
import Derived.Defers
set_option linter.unusedSimpArgs false
set_option linter.unusedVariables false
set_option linter.unusedSectionVars false
namespace Go.Proofs.YtgfmjmfphmjdkaaGreatDoor
set_option maxHeartbeats 4000000
section
open Go Go.RowKit
variable {T0 : Gh}
set_option maxRecDepth 100000
theorem zuk : Tryz.prog.underlying 168 = some (.struct #[{ name := "s",type:=9,offset:=0,embedded:=false,tag := "",pkgPath := "typebar/scan",byteOffset:=0 },{ name := "at",type:=3,offset:=1,embedded:=false,tag := "",pkgPath := "typebar/scan",byteOffset:=16 }]):=Tryz.underlying168
instance qe1 : FldC 168 0 0 9:=⟨_,_,zuk,rfl,rfl,rfl⟩
instance qe0 : FldC 168 1 1 3:=⟨_,_,zuk,rfl,rfl,rfl⟩
instance qf4 : SzC 168 2:=⟨xc (by kernel_rfl)⟩
instance qck : SpC 9:=⟨jo (n:=0) (by kernel_rfl)⟩
instance qgb : StC 168 [SA [],I 0] [(0,1),(1,1)]:=⟨StT.mk' _ [.string ⟨#[]⟩,.int .i64 0] zuk (by kernel_rfl) (by kernel_rfl)⟩
instance qgw : AlC 168 (.agg #[.string ⟨#[]⟩,.int .i64 0]) [.string ⟨#[]⟩,.int .i64 0] [SA [],I 0]:=⟨by kernel_rfl,rfl,rfl⟩
instance qcg : UnC 31 (.int .i64):=⟨Tryz.underlying31⟩
instance qcj : SzC 31 1:=⟨xc (by kernel_rfl)⟩
abbrev ptA (b : Nat) : AV:=vA (.pointer (some ⟨b,0,none⟩))
abbrev rdO (b : Nat) (s : List UInt8) (p : Nat) : Own:=qd b 168 [SA s,I p]
abbrev zxq (e : Int) : List PanicEntry:=[{ v:=.iface 31 (.int .i64 e),recovered:=false }]
attribute [local irreducible] z_ zg AW AL AO QY qd zx rsA Opd xi vA gvA zt z0 slA jc ipA rpA EqK LnK IxK LdK FaK FdK
theorem zi4 (b : Nat) (s : List UInt8) (p : Nat) (x : UInt8) (hs : s.length ≤ 9223372036854775807) (hx : s[p]? = some x) : AF Tryz.prog T0 174 [ptA b] [rdO b s p] (fun A M'=>A = UB x ∧ M' = [rdO b s p]) (fun _ _=>False):=by
 have hp : p < s.length:=(List.getElem?_eq_some_iff.1 hx).1
 refine za Tryz.func174 rfl (by decide) Tryz.ntmps174 rfl ?_
 repeat' (first
 |(apply qk rfl rfl rfl; (case hx=>exact oo_)) | refine ze7 ?_ | (refine zb ?_ ?_ <;> intro hb <;> try exact no_) | (refine sx_ ?_ <;> intro bb) | (refine su_ ?_ <;> intro u hu1 hu2) | fail)
 exact ⟨_,[rdO b s p],rl_,sl_,rfl,rfl⟩
theorem zkk (b : Nat) (s : List UInt8) (hs : s.length ≤ 9223372036854775807) : AF Tryz.prog T0 174 [ptA b] [rdO b s s.length] (fun _ _=>False) (fun c _=>c = zxq 3):=by
 refine za Tryz.func174 rfl (by decide) Tryz.ntmps174 rfl ?_
 repeat' (first
 |(apply qk rfl rfl rfl; (case hx=>exact oo_)) | refine ze7 ?_ | (refine zb ?_ ?_ <;> intro hb <;> try exact no_) | (refine sx_ ?_ <;> intro bb) | (refine su_ ?_ <;> intro u hu1 hu2) | fail)
 exact zcm rfl
theorem zq3 (b : Nat) (s : List UInt8) (p : Nat) (x : UInt8) (hs : s.length ≤ 9223372036854775807) (hx : s[p]? = some x) : AF Tryz.prog T0 175 [ptA b] [rdO b s p] (fun A M'=>A = UB x ∧ M' = [rdO b s (p + 1)]) (fun _ _=>False):=by
 have hp : p < s.length:=(List.getElem?_eq_some_iff.1 hx).1
 have cp:=zi4 (T0:=T0) b s p x hs hx
 refine za Tryz.func175 rfl (by decide) Tryz.ntmps175 rfl ?_
 repeat' (first
 |(apply zd rfl rfl rfl rfl (c:=cp)
   case ha=>exact os_
   case hM=>exact zf
   rintro _ _ ⟨rfl,rfl⟩)
 |refine ze7 ?_ | (refine zb ?_ ?_ <;> intro hb <;> try exact no_) | (refine sx_ ?_ <;> intro bb) | (refine su_ ?_ <;> intro u hu1 hu2) | fail)
 exact ⟨_,[rdO b s (p + 1)],rl_,sl_,rfl,rfl⟩
theorem z5r (b : Nat) (s : List UInt8) (hs : s.length ≤ 9223372036854775807) : AF Tryz.prog T0 175 [ptA b] [rdO b s s.length] (fun _ _=>False) (fun c _=>c = zxq 3):=by
 have cp:=zkk (T0:=T0) b s hs
 refine za Tryz.func175 rfl (by decide) Tryz.ntmps175 rfl ?_
 repeat' (first
 |(apply zv rfl rfl rfl rfl (c:=cp)
   case ha=>exact os_
   case hM=>exact zf
   case h=>exact fun _ _ h=>h.elim
   rintro _ _ rfl)
 |refine ze7 ?_ | (refine zb ?_ ?_ <;> intro hb <;> try exact no_) | (refine sx_ ?_ <;> intro bb) | (refine su_ ?_ <;> intro u hu1 hu2) | fail)
 exact zcm rfl
end
section
open Go Go.RowKit
variable {T0 : Gh}
set_option maxRecDepth 100000
theorem zxu {s : List UInt8} {p : Nat} {x : UInt8} (h : s[p]? = some x) : s.drop p = x :: s.drop (p + 1):=by
 obtain ⟨h1,h2⟩:=List.getElem?_eq_some_iff.1 h
 rw [← h2]; exact List.drop_eq_getElem_cons h1
attribute [local irreducible] z_ zg AW AL AO QY qd zx rsA Opd xi vA gvA zt z0 slA jc ipA rpA EqK LnK IxK LdK FaK FdK
theorem zra (b : Nat) (s : List UInt8) (p : Nat) (hs : s.length ≤ 9223372036854775807) (hp : p ≤ s.length) : AF Tryz.prog T0 190 [ptA b,I 80] [rdO b s p]
  (fun A M' => ∃ n t,zdj 80 0 (s.drop p) = (0,n,t) ∧ A = I n ∧ M' = [rdO b s (s.length - t.length)]) (fun c _ => ∃ e,e ≠ 0 ∧ (zdj 80 0 (s.drop p)).1 = e ∧ c = zxq e):=by
 by_cases h0 : p = s.length
 ·subst h0
  have cp : True:=trivial
  have cq:=zkk (T0:=T0) b s hs
  have e : zdj 80 0 (s.drop s.length) = (3,0,[]):=by rw [List.drop_length]; rfl
  rw [e]
  refine za Tryz.func190 rfl (by decide) Tryz.ntmps190 rfl ?_
  repeat' (first
  |(apply zd rfl rfl rfl rfl (c:=cp)
    case ha=>exact os_
    case hM=>exact zf
    rintro _ _ ⟨rfl,rfl⟩)
   |(apply zv rfl rfl rfl rfl (c:=cq)
     case ha=>exact os_
     case hM=>exact zf
     case h=>exact fun _ _ h=>h.elim
     rintro _ _ rfl)
  |(apply qk rfl rfl rfl; (case hx=>exact oo_)) | refine ze7 ?_ | (refine zb ?_ ?_ <;> intro hb <;> try exact no_) | (refine sx_ ?_ <;> intro bb) | (refine su_ ?_ <;> intro u hu1 hu2) | fail)
  exact zcm ⟨3,by decide,rfl,rfl⟩
 ·obtain ⟨x,hx⟩ : ∃ x,s[p]? = some x:=⟨_,List.getElem?_eq_getElem (by omega)⟩
  have cp:=zi4 (T0:=T0) b s p x hs hx
  have cq : True:=trivial
  refine za Tryz.func190 rfl (by decide) Tryz.ntmps190 rfl ?_
  repeat' (first
  |(apply zd rfl rfl rfl rfl (c:=cp)
    case ha=>exact os_
    case hM=>exact zf
    rintro _ _ ⟨rfl,rfl⟩)
   |(apply zv rfl rfl rfl rfl (c:=cq)
     case ha=>exact os_
     case hM=>exact zf
     case h=>exact fun _ _ h=>h.elim
     rintro _ _ rfl)
  |(apply qk rfl rfl rfl; (case hx=>exact oo_)) | refine ze7 ?_ | (refine zb ?_ ?_ <;> intro hb <;> try exact no_) | (refine sx_ ?_ <;> intro bb) | (refine su_ ?_ <;> intro u hu1 hu2) | fail)
  refine zig (σ:=Nat × Nat × UInt8) (fun y=>[(5,I y.1),(6,UB y.2.2)]) (fun y=>[SA s,I y.2.1]) (fun y=>s[y.2.1]? = some y.2.2 ∧ y.1 ≤ 80 ∧ zdj 80 0 (s.drop p) = zdj 80 y.1 (s.drop y.2.1)) (fun y=>s.length - y.2.1) (0,p,x) ⟨hx,Nat.zero_le _,rfl⟩ rfl ?_
  rintro ⟨n,q,z⟩ ⟨hz,hn,he⟩
  simp only at hz hn he ⊢
  have hq:=(List.getElem?_eq_some_iff.1 hz).1
  have hz2:=z.toNat_lt
  rw [zxu hz,zaf] at he
  clear cp cq
  by_cases hd : dig z
  ·rw [if_pos hd] at he
   unfold dig at hd
   by_cases hk : n * 10 + (z.toNat - 48) = 0 ∨ 80 < n * 10 + (z.toNat - 48)
   ·rw [if_pos hk] at he
    have cp : True:=trivial
    have cq : True:=trivial
    repeat' (first
    |(apply zd rfl rfl rfl rfl (c:=cp)
      case ha=>exact os_
      case hM=>exact zf
      rintro _ _ ⟨rfl,rfl⟩)
     |(apply zv rfl rfl rfl rfl (c:=cq)
       case ha=>exact os_
       case hM=>exact zf
       case h=>exact fun _ _ h=>h.elim
       rintro _ _ rfl)
    |(apply qk rfl rfl rfl; (case hx=>exact oo_)) | refine ze7 ?_ | (refine zb ?_ ?_ <;> intro hb <;> try exact no_) | (refine sx_ ?_ <;> intro bb) | (refine su_ ?_ <;> intro u hu1 hu2) | fail)
    ·exact zcm ⟨2,by decide,by rw [he],rfl⟩
    all_goals (exfalso; omega)
   ·rw [if_neg hk] at he
    by_cases hl : q + 1 = s.length
    ·have cp : True:=trivial
     have cq : AF Tryz.prog T0 174 [ptA b] [rdO b s (q + 1)] (fun _ _=>False) (fun c _=>c = zxq 3):=by rw [hl]; exact zkk b s hs
     have e : zdj 80 (n * 10 + (z.toNat - 48)) (s.drop (q + 1)) = (3,0,[]):=by rw [hl,List.drop_length]; rfl
     rw [e] at he
     repeat' (first
     |(apply zd rfl rfl rfl rfl (c:=cp)
       case ha=>exact os_
       case hM=>exact zf
       rintro _ _ ⟨rfl,rfl⟩)
      |(apply zv rfl rfl rfl rfl (c:=cq)
        case ha=>exact os_
        case hM=>exact zf
        case h=>exact fun _ _ h=>h.elim
        rintro _ _ rfl)
     |(apply qk rfl rfl rfl; (case hx=>exact oo_)) | refine ze7 ?_ | (refine zb ?_ ?_ <;> intro hb <;> try exact no_) | (refine sx_ ?_ <;> intro bb) | (refine su_ ?_ <;> intro u hu1 hu2) | fail)
     all_goals first | exact zcm ⟨3,by decide,by rw [he],rfl⟩ | (exfalso; omega)
    ·obtain ⟨y,hy⟩ : ∃ y,s[q + 1]? = some y:=⟨_,List.getElem?_eq_getElem (by omega)⟩
     have cp:=zi4 (T0:=T0) b s (q + 1) y hs hy
     have cq : True:=trivial
     repeat' (first
     |(apply zd rfl rfl rfl rfl (c:=cp)
       case ha=>exact os_
       case hM=>exact zf
       rintro _ _ ⟨rfl,rfl⟩)
      |(apply zv rfl rfl rfl rfl (c:=cq)
        case ha=>exact os_
        case hM=>exact zf
        case h=>exact fun _ _ h=>h.elim
        rintro _ _ rfl)
     |(apply qk rfl rfl rfl; (case hx=>exact oo_)) | refine ze7 ?_ | (refine zb ?_ ?_ <;> intro hb <;> try exact no_) | (refine sx_ ?_ <;> intro bb) | (refine su_ ?_ <;> intro u hu1 hu2) | fail)
     all_goals first | exact e1_ | skip
     exact ⟨(n * 10 + (z.toNat - 48),q + 1,y),⟨hy,by simp only; omega,he⟩,by simp only; omega,by dsimp only; exact wx_,sl_⟩
  ·rw [if_neg hd] at he
   unfold dig at hd
   have cp : True:=trivial
   have cq : True:=trivial
   by_cases hk : n = 0
   ·subst hk
    rw [if_pos rfl] at he
    repeat' (first
    |(apply zd rfl rfl rfl rfl (c:=cp)
      case ha=>exact os_
      case hM=>exact zf
      rintro _ _ ⟨rfl,rfl⟩)
     |(apply zv rfl rfl rfl rfl (c:=cq)
       case ha=>exact os_
       case hM=>exact zf
       case h=>exact fun _ _ h=>h.elim
       rintro _ _ rfl)
    |(apply qk rfl rfl rfl; (case hx=>exact oo_)) | refine ze7 ?_ | (refine zb ?_ ?_ <;> intro hb <;> try exact no_) | (refine sx_ ?_ <;> intro bb) | (refine su_ ?_ <;> intro u hu1 hu2) | fail)
    all_goals first | exact zcm ⟨2,by decide,by rw [he],rfl⟩ | (exfalso; omega)
   ·rw [if_neg hk] at he
    repeat' (first
    |(apply zd rfl rfl rfl rfl (c:=cp)
      case ha=>exact os_
      case hM=>exact zf
      rintro _ _ ⟨rfl,rfl⟩)
     |(apply zv rfl rfl rfl rfl (c:=cq)
       case ha=>exact os_
       case hM=>exact zf
       case h=>exact fun _ _ h=>h.elim
       rintro _ _ rfl)
    |(apply qk rfl rfl rfl; (case hx=>exact oo_)) | refine ze7 ?_ | (refine zb ?_ ?_ <;> intro hb <;> try exact no_) | (refine sx_ ?_ <;> intro bb) | (refine su_ ?_ <;> intro u hu1 hu2) | fail)
    all_goals first | exact e1_ | skip
    refine ⟨_,[rdO b s q],rl_,sl_,n,_,he,rfl, ?_⟩
    rw [show s.length - (z :: s.drop (q + 1)).length = q by rw [List.length_cons,List.length_drop]; omega]
end
section
open Go Go.RowKit
variable {T0 : Gh}
set_option maxRecDepth 100000
theorem zfu {s t : List UInt8} {p : Nat} (h : s.drop p = t) (hp : p ≤ s.length) : t.length = s.length - p:=by rw [← h,List.length_drop]
theorem z3u {s l t : List UInt8} {p : Nat} (h : s.drop p = l ++ t) (hp : p ≤ s.length) : s.drop (p + l.length) = t ∧ p + l.length + t.length = s.length:=by
 have h1:=congrArg (List.drop l.length) h
 rw [List.drop_drop,List.drop_left] at h1
 have h2:=congrArg List.length h
 rw [List.length_drop,List.length_append] at h2
 exact ⟨h1,by omega⟩
theorem z1w {m : Nat} (h : m < 100) : ∃ k y,(w7 m).length = k + 1 ∧ (w7 m)[k]? = some y ∧ y.toNat ≤ 57:=by
 unfold w7; split
 ·exact ⟨0,_,rfl,rfl,by simp; omega⟩
 ·exact ⟨1,_,rfl,rfl,by simp; omega⟩
theorem zks {s t : List UInt8} {p : Nat} {x : UInt8} (h : s.drop p = x :: t) : s[p]? = some x ∧ s.drop (p + 1) = t:=by
 have h1 : s[p]? = some x:=by
  have:=congrArg (fun l : List UInt8=>l[0]?) h
  simpa [List.getElem?_drop] using this
 rw [zxu h1] at h
 exact ⟨h1,(List.cons.inj h).2⟩
def RdK (b : Nat) (s : List UInt8) (r : Sc) : AV → List Own → Prop:=fun A M' => ∃ c t,r = (0,c,t) ∧ A = vi c ∧ M' = [rdO b s (s.length - t.length)]
def RdP (r : Sc) : List PanicEntry → List Own → Prop:=fun c _ => ∃ e,e ≠ 0 ∧ r.1 = e ∧ c = zxq e
attribute [local irreducible] z_ zg AW AL AO QY qd zx rsA Opd xi vA gvA zt z0 slA jc ipA rpA EqK LnK IxK LdK FaK FdK
theorem zlu {b : Nat} {s : List UInt8} {p m : Nat} {t : List UInt8} (hs : s.length ≤ 9223372036854775807) (hp : p ≤ s.length) (h : zdj 80 0 (s.drop p) = (0,m,t)) : AF Tryz.prog T0 190 [ptA b,I 80] [rdO b s p] (fun A M'=>A = I m ∧ M' = [rdO b s (s.length - t.length)]) (fun _ _=>False):=by
 refine (zra b s p hs hp).mono (fun A M' ⟨n,t',h1,h2,h3⟩ => ?_) (fun c _ ⟨e,h1,h2,_⟩ => ?_)
 ·rw [h] at h1
  simp only [Prod.mk.injEq,true_and] at h1
  obtain ⟨rfl,rfl⟩:=h1
  exact ⟨h2,h3⟩
 ·rw [h] at h2; exact h1 h2.symm
theorem zct {b : Nat} {s : List UInt8} {p : Nat} {e : Int} (hs : s.length ≤ 9223372036854775807) (hp : p ≤ s.length) (h : zdj 80 0 (s.drop p) = (e,0,[])) (he : e ≠ 0) : AF Tryz.prog T0 190 [ptA b,I 80] [rdO b s p] (fun _ _=>False) (fun c _=>c = zxq e):=by
 refine (zra b s p hs hp).mono (fun A M' ⟨n,t',h1,h2,h3⟩ => ?_) (fun c _ ⟨e',h1,h2,h3⟩ => ?_)
 ·rw [h] at h1
  simp only [Prod.mk.injEq] at h1
  exact he h1.1
 ·rw [h] at h2; simp only at h2; rw [h2]; exact h3
theorem zxh (b : Nat) (s : List UInt8) (p : Nat) (hs : s.length ≤ 9223372036854775807) (hp : p + 1 ≤ s.length) (h91 : s[p]? = some 91) : AF Tryz.prog T0 176 [ptA b] [rdO b s (p + 1)] (RdK b s (zif (s.drop (p + 1)))) (RdP (zif (s.drop (p + 1)))):=by
 cases hl : s.drop (p + 1) with
 |nil =>
  have hp2 : p + 1 = s.length:=by have:=congrArg List.length hl; rw [List.length_drop] at this; simp at this; omega
  have cq : AF Tryz.prog T0 174 [ptA b] [rdO b s (p + 1)] (fun _ _=>False) (fun c _=>c = zxq 3):=by rw [hp2]; exact zkk b s hs
  have cp : True:=trivial
  have ct : True:=trivial
  have cn : True:=trivial
  have cm : True:=trivial
  have cv : True:=trivial
  have cw : True:=trivial
  refine za Tryz.func176 rfl (by decide) Tryz.ntmps176 rfl ?_
  repeat' (first
  |(apply zd rfl rfl rfl rfl (c:=cp)
    case ha=>exact os_
    case hM=>exact zf
    rintro _ _ ⟨rfl,rfl⟩)
   |(apply zd rfl rfl rfl rfl (c:=ct)
     case ha=>exact os_
     case hM=>exact zf
     rintro _ _ ⟨rfl,rfl⟩)
   |(apply zd rfl rfl rfl rfl (c:=cn)
     case ha=>exact os_
     case hM=>exact zf
     rintro _ _ ⟨rfl,rfl⟩)
   |(apply zd rfl rfl rfl rfl (c:=cm)
     case ha=>exact os_
     case hM=>exact zf
     rintro _ _ ⟨rfl,rfl⟩)
   |(apply zd rfl rfl rfl rfl (c:=cv)
     case ha=>exact os_
     case hM=>exact zf
     rintro _ _ ⟨rfl,rfl⟩)
   |(apply zd rfl rfl rfl rfl (c:=cw)
     case ha=>exact os_
     case hM=>exact zf
     rintro _ _ ⟨rfl,rfl⟩)
   |(apply zv rfl rfl rfl rfl (c:=cq)
     case ha=>exact os_
     case hM=>exact zf
     case h=>exact fun _ _ h=>h.elim
     rintro _ _ rfl)
  |(apply qk rfl rfl rfl; (case hx=>exact oo_)) | refine ze7 ?_ | (refine zb ?_ ?_ <;> intro hb <;> try exact no_) | (refine sx_ ?_ <;> intro bb) | (refine su_ ?_ <;> intro u hu1 hu2) | fail)
  exact zcm ⟨3,by decide,rfl,rfl⟩
 |cons x l =>
  obtain ⟨hx,hl2⟩:=zks hl
  have hxp:=(List.getElem?_eq_some_iff.1 hx).1
  have hx2:=x.toNat_lt
  have cp:=zi4 (T0:=T0) b s (p + 1) x hs hx
  by_cases hd : dig x
  ·have hd':=hd
   unfold dig at hd'
   rcases zfj (most:=80) (by decide) (x :: l) with ⟨k,m,m1,m2,e,hk,hn⟩ | ⟨m,b2,t,m1,m2,e,hb2,hn⟩ | hn | h0
   ·have e2 : zif (x :: l) = nok 3:=by rw [zif,if_pos hd,hn]; rfl
    rw [e2]
    have cq:=zct (T0:=T0) (b:=b) hs (by omega) (hl ▸ hn) (by decide)
    have ct : True:=trivial
    have cn : True:=trivial
    have cm : True:=trivial
    have cv : True:=trivial
    have cw : True:=trivial
    refine za Tryz.func176 rfl (by decide) Tryz.ntmps176 rfl ?_
    repeat' (first
    |(apply zd rfl rfl rfl rfl (c:=cp)
      case ha=>exact os_
      case hM=>exact zf
      rintro _ _ ⟨rfl,rfl⟩)
     |(apply zd rfl rfl rfl rfl (c:=ct)
       case ha=>exact os_
       case hM=>exact zf
       rintro _ _ ⟨rfl,rfl⟩)
     |(apply zd rfl rfl rfl rfl (c:=cn)
       case ha=>exact os_
       case hM=>exact zf
       rintro _ _ ⟨rfl,rfl⟩)
     |(apply zd rfl rfl rfl rfl (c:=cm)
       case ha=>exact os_
       case hM=>exact zf
       rintro _ _ ⟨rfl,rfl⟩)
     |(apply zd rfl rfl rfl rfl (c:=cv)
       case ha=>exact os_
       case hM=>exact zf
       rintro _ _ ⟨rfl,rfl⟩)
     |(apply zd rfl rfl rfl rfl (c:=cw)
       case ha=>exact os_
       case hM=>exact zf
       rintro _ _ ⟨rfl,rfl⟩)
     |(apply zv rfl rfl rfl rfl (c:=cq)
       case ha=>exact os_
       case hM=>exact zf
       case h=>exact fun _ _ h=>h.elim
       rintro _ _ rfl)
    |(apply qk rfl rfl rfl; (case hx=>exact oo_)) | refine ze7 ?_ | (refine zb ?_ ?_ <;> intro hb <;> try exact no_) | (refine sx_ ?_ <;> intro bb) | (refine su_ ?_ <;> intro u hu1 hu2) | fail)
    all_goals first | exact zcm ⟨3,by decide,rfl,rfl⟩ | (exfalso; omega)
   ·rw [e,zx3 m1 m2 hb2]
    have hal:=z3u (hl.trans e) (by omega)
    obtain ⟨k,y,k1,k2,k3⟩:=z1w (m:=m) (by omega)
    rw [k1] at hal
    have hq : s.length - (b2 :: t).length = p + 1 + (k + 1):=by simp at hal ⊢; omega
    have hy : s[p + 1 + k]? = some y:=by
     have h1 : (s.drop (p + 1))[k]? = some y:=by rw [hl,e,List.getElem?_append_left (by omega)]; exact k2
     rwa [List.getElem?_drop] at h1
    have hy2 : y.toNat ≠ 91:=by omega
    obtain ⟨hb,ht⟩:=zks hal.1
    have hbl:=(List.getElem?_eq_some_iff.1 hb).1
    have hb3:=b2.toNat_lt
    have cn:=zlu (T0:=T0) (b:=b) hs (by omega) (hl ▸ hn)
    rw [hq] at cn
    have cm:=zi4 (T0:=T0) b s (p + 1 + (k + 1)) b2 hs hb
    have ct:=zq3 (T0:=T0) b s (p + 1 + (k + 1)) b2 hs hb
    clear hn hal
    by_cases h1 : m = 1 ∧ b2.toNat ≠ 59
    ·rw [if_pos h1]
     have cq : True:=trivial
     have cv : True:=trivial
     have cw : True:=trivial
     refine za Tryz.func176 rfl (by decide) Tryz.ntmps176 rfl ?_
     repeat' (first
     |(apply zd rfl rfl rfl rfl (c:=cp)
       case ha=>exact os_
       case hM=>exact zf
       rintro _ _ ⟨rfl,rfl⟩)
      |(apply zd rfl rfl rfl rfl (c:=ct)
        case ha=>exact os_
        case hM=>exact zf
        rintro _ _ ⟨rfl,rfl⟩)
      |(apply zd rfl rfl rfl rfl (c:=cn)
        case ha=>exact os_
        case hM=>exact zf
        rintro _ _ ⟨rfl,rfl⟩)
      |(apply zd rfl rfl rfl rfl (c:=cm)
        case ha=>exact os_
        case hM=>exact zf
        rintro _ _ ⟨rfl,rfl⟩)
      |(apply zd rfl rfl rfl rfl (c:=cv)
        case ha=>exact os_
        case hM=>exact zf
        rintro _ _ ⟨rfl,rfl⟩)
      |(apply zd rfl rfl rfl rfl (c:=cw)
        case ha=>exact os_
        case hM=>exact zf
        rintro _ _ ⟨rfl,rfl⟩)
      |(apply zv rfl rfl rfl rfl (c:=cq)
        case ha=>exact os_
        case hM=>exact zf
        case h=>exact fun _ _ h=>h.elim
        rintro _ _ rfl)
     |(apply qk rfl rfl rfl; (case hx=>exact oo_)) | refine ze7 ?_ | (refine zb ?_ ?_ <;> intro hb <;> try exact no_) | (refine sx_ ?_ <;> intro bb) | (refine su_ ?_ <;> intro u hu1 hu2) | fail)
     all_goals first | exact zcm ⟨2,by decide,rfl,rfl⟩ | (exfalso; omega)
    ·rw [if_neg h1]
     by_cases hm : 65 ≤ b2.toNat ∧ b2.toNat ≤ 68
     ·rw [zi6,if_pos hm]
      have cq : True:=trivial
      have cv : True:=trivial
      have cw : True:=trivial
      refine za Tryz.func176 rfl (by decide) Tryz.ntmps176 rfl ?_
      repeat' (first
      |(apply zd rfl rfl rfl rfl (c:=cp)
        case ha=>exact os_
        case hM=>exact zf
        rintro _ _ ⟨rfl,rfl⟩)
       |(apply zd rfl rfl rfl rfl (c:=ct)
         case ha=>exact os_
         case hM=>exact zf
         rintro _ _ ⟨rfl,rfl⟩)
       |(apply zd rfl rfl rfl rfl (c:=cn)
         case ha=>exact os_
         case hM=>exact zf
         rintro _ _ ⟨rfl,rfl⟩)
       |(apply zd rfl rfl rfl rfl (c:=cm)
         case ha=>exact os_
         case hM=>exact zf
         rintro _ _ ⟨rfl,rfl⟩)
       |(apply zd rfl rfl rfl rfl (c:=cv)
         case ha=>exact os_
         case hM=>exact zf
         rintro _ _ ⟨rfl,rfl⟩)
       |(apply zd rfl rfl rfl rfl (c:=cw)
         case ha=>exact os_
         case hM=>exact zf
         rintro _ _ ⟨rfl,rfl⟩)
       |(apply zv rfl rfl rfl rfl (c:=cq)
         case ha=>exact os_
         case hM=>exact zf
         case h=>exact fun _ _ h=>h.elim
         rintro _ _ rfl)
      |(apply qk rfl rfl rfl; (case hx=>exact oo_)) | refine ze7 ?_ | (refine zb ?_ ?_ <;> intro hb <;> try exact no_) | (refine sx_ ?_ <;> intro bb) | (refine su_ ?_ <;> intro u hu1 hu2) | fail)
      all_goals first | exact e1_ | skip
      refine ⟨_,[rdO b s (p + 1 + (k + 1) + 1)],rl_,sl_,_,_,rfl, ?_, ?_⟩
      ·show z0 _ = z0 _
       rw [show 3 + (b2.toNat - 65) = b2.toNat - 62 by omega]
      ·have:=zfu ht (by omega)
       rw [this,show s.length - (s.length - (p + 1 + (k + 1) + 1)) = p + 1 + (k + 1) + 1 by omega]
     ·by_cases hf : b2.toNat ≠ 59 ∨ 24 < m ∨ true = false
      ·rw [zi6,if_neg hm,if_pos hf]
       have cq : True:=trivial
       have cv : True:=trivial
       have cw : True:=trivial
       refine za Tryz.func176 rfl (by decide) Tryz.ntmps176 rfl ?_
       repeat' (first
       |(apply zd rfl rfl rfl rfl (c:=cp)
         case ha=>exact os_
         case hM=>exact zf
         rintro _ _ ⟨rfl,rfl⟩)
        |(apply zd rfl rfl rfl rfl (c:=ct)
          case ha=>exact os_
          case hM=>exact zf
          rintro _ _ ⟨rfl,rfl⟩)
        |(apply zd rfl rfl rfl rfl (c:=cn)
          case ha=>exact os_
          case hM=>exact zf
          rintro _ _ ⟨rfl,rfl⟩)
        |(apply zd rfl rfl rfl rfl (c:=cm)
          case ha=>exact os_
          case hM=>exact zf
          rintro _ _ ⟨rfl,rfl⟩)
        |(apply zd rfl rfl rfl rfl (c:=cv)
          case ha=>exact os_
          case hM=>exact zf
          rintro _ _ ⟨rfl,rfl⟩)
        |(apply zd rfl rfl rfl rfl (c:=cw)
          case ha=>exact os_
          case hM=>exact zf
          rintro _ _ ⟨rfl,rfl⟩)
        |(apply zv rfl rfl rfl rfl (c:=cq)
          case ha=>exact os_
          case hM=>exact zf
          case h=>exact fun _ _ h=>h.elim
          rintro _ _ rfl)
       |(apply qk rfl rfl rfl; (case hx=>exact oo_)) | refine ze7 ?_ | (refine zb ?_ ?_ <;> intro hb <;> try exact no_) | (refine sx_ ?_ <;> intro bb) | (refine su_ ?_ <;> intro u hu1 hu2) | fail)
       all_goals first | exact zcm ⟨2,by decide,rfl,rfl⟩ | (exfalso; omega) | (exfalso; simp at hf; omega)
      ·have h59 : b2.toNat = 59:=by omega
       have hm24 : m ≤ 24:=by omega
       have hy' : s[p + 1 + (k + 1) + 1 - 2]? = some y:=by rw [show p + 1 + (k + 1) + 1 - 2 = p + 1 + k by omega]; exact hy
       have htl:=zfu ht (by omega)
       have h59' : b2 = 59:=ki (by show b2.toNat = 59; omega)
       rcases zfj (most:=80) (by decide) t with ⟨k2,n,n1,n2,e2,hk2,hn2⟩ | ⟨n,b3,t2,n1,n2,e2,hb3,hn2⟩ | hn2 | h0
       ·have e3 : zi6 true m (b2 :: t) = nok 3:=by rw [zi6,if_neg hm,if_neg hf,hn2]; rfl
        rw [e3]
        have cq:=zct (T0:=T0) (b:=b) (p:=p + 1 + (k + 1) + 1) hs (by omega) (ht ▸ hn2) (by decide)
        have cv : True:=trivial
        have cw : True:=trivial
        refine za Tryz.func176 rfl (by decide) Tryz.ntmps176 rfl ?_
        repeat' (first
        |(apply zd rfl rfl rfl rfl (c:=cp)
          case ha=>exact os_
          case hM=>exact zf
          rintro _ _ ⟨rfl,rfl⟩)
         |(apply zd rfl rfl rfl rfl (c:=ct)
           case ha=>exact os_
           case hM=>exact zf
           rintro _ _ ⟨rfl,rfl⟩)
         |(apply zd rfl rfl rfl rfl (c:=cn)
           case ha=>exact os_
           case hM=>exact zf
           rintro _ _ ⟨rfl,rfl⟩)
         |(apply zd rfl rfl rfl rfl (c:=cm)
           case ha=>exact os_
           case hM=>exact zf
           rintro _ _ ⟨rfl,rfl⟩)
         |(apply zd rfl rfl rfl rfl (c:=cv)
           case ha=>exact os_
           case hM=>exact zf
           rintro _ _ ⟨rfl,rfl⟩)
         |(apply zd rfl rfl rfl rfl (c:=cw)
           case ha=>exact os_
           case hM=>exact zf
           rintro _ _ ⟨rfl,rfl⟩)
         |(apply zv rfl rfl rfl rfl (c:=cq)
           case ha=>exact os_
           case hM=>exact zf
           case h=>exact fun _ _ h=>h.elim
           rintro _ _ rfl)
        |(apply qk rfl rfl rfl; (case hx=>exact oo_)) | refine ze7 ?_ | (refine zb ?_ ?_ <;> intro hb <;> try exact no_) | (refine sx_ ?_ <;> intro bb) | (refine su_ ?_ <;> intro u hu1 hu2) | fail)
        all_goals first | exact zcm ⟨3,by decide,rfl,rfl⟩ | (exfalso; omega)
       ·have e3 : zi6 true m (b2 :: t) = if b3.toNat = 72 then (0,(2,(m : Int) - 1,(n : Int) - 1,0),t2) else nok 2:=by
         rw [e2,h59']; exact z3c hm24 n1 n2 hb3
        rw [e3]
        have hal:=z3u (ht.trans e2) (by omega)
        have hq3 : s.length - (b3 :: t2).length = p + 1 + (k + 1) + 1 + (w7 n).length:=by simp at hal ⊢; omega
        obtain ⟨hb4,ht2⟩:=zks hal.1
        have hbl4:=(List.getElem?_eq_some_iff.1 hb4).1
        have hb5:=b3.toNat_lt
        have cv:=zlu (T0:=T0) (b:=b) (p:=p + 1 + (k + 1) + 1) hs (by omega) (ht ▸ hn2)
        rw [hq3] at cv
        have cw:=zq3 (T0:=T0) b s (p + 1 + (k + 1) + 1 + (w7 n).length) b3 hs hb4
        have cq : True:=trivial
        by_cases h72 : b3.toNat = 72
        ·rw [if_pos h72]
         refine za Tryz.func176 rfl (by decide) Tryz.ntmps176 rfl ?_
         repeat' (first
         |(apply zd rfl rfl rfl rfl (c:=cp)
           case ha=>exact os_
           case hM=>exact zf
           rintro _ _ ⟨rfl,rfl⟩)
          |(apply zd rfl rfl rfl rfl (c:=ct)
            case ha=>exact os_
            case hM=>exact zf
            rintro _ _ ⟨rfl,rfl⟩)
          |(apply zd rfl rfl rfl rfl (c:=cn)
            case ha=>exact os_
            case hM=>exact zf
            rintro _ _ ⟨rfl,rfl⟩)
          |(apply zd rfl rfl rfl rfl (c:=cm)
            case ha=>exact os_
            case hM=>exact zf
            rintro _ _ ⟨rfl,rfl⟩)
          |(apply zd rfl rfl rfl rfl (c:=cv)
            case ha=>exact os_
            case hM=>exact zf
            rintro _ _ ⟨rfl,rfl⟩)
          |(apply zd rfl rfl rfl rfl (c:=cw)
            case ha=>exact os_
            case hM=>exact zf
            rintro _ _ ⟨rfl,rfl⟩)
          |(apply zv rfl rfl rfl rfl (c:=cq)
            case ha=>exact os_
            case hM=>exact zf
            case h=>exact fun _ _ h=>h.elim
            rintro _ _ rfl)
         |(apply qk rfl rfl rfl; (case hx=>exact oo_)) | refine ze7 ?_ | (refine zb ?_ ?_ <;> intro hb <;> try exact no_) | (refine sx_ ?_ <;> intro bb) | (refine su_ ?_ <;> intro u hu1 hu2) | fail)
         all_goals first | exact e1_ | skip
         refine ⟨_,[rdO b s (p + 1 + (k + 1) + 1 + (w7 n).length + 1)],rl_,sl_,_,_,rfl, ?_, ?_⟩
         ·show z0 _ = z0 _
          rw [show ((m - 1 : Nat) : Int) = (m : Int) - 1 by omega,show ((n - 1 : Nat) : Int) = (n : Int) - 1 by omega]
         ·have:=zfu ht2 (by omega)
          rw [this,show s.length - (s.length - (p + 1 + (k + 1) + 1 + (w7 n).length + 1)) = p + 1 + (k + 1) + 1 + (w7 n).length + 1 by omega]
        ·rw [if_neg h72]
         refine za Tryz.func176 rfl (by decide) Tryz.ntmps176 rfl ?_
         repeat' (first
         |(apply zd rfl rfl rfl rfl (c:=cp)
           case ha=>exact os_
           case hM=>exact zf
           rintro _ _ ⟨rfl,rfl⟩)
          |(apply zd rfl rfl rfl rfl (c:=ct)
            case ha=>exact os_
            case hM=>exact zf
            rintro _ _ ⟨rfl,rfl⟩)
          |(apply zd rfl rfl rfl rfl (c:=cn)
            case ha=>exact os_
            case hM=>exact zf
            rintro _ _ ⟨rfl,rfl⟩)
          |(apply zd rfl rfl rfl rfl (c:=cm)
            case ha=>exact os_
            case hM=>exact zf
            rintro _ _ ⟨rfl,rfl⟩)
          |(apply zd rfl rfl rfl rfl (c:=cv)
            case ha=>exact os_
            case hM=>exact zf
            rintro _ _ ⟨rfl,rfl⟩)
          |(apply zd rfl rfl rfl rfl (c:=cw)
            case ha=>exact os_
            case hM=>exact zf
            rintro _ _ ⟨rfl,rfl⟩)
          |(apply zv rfl rfl rfl rfl (c:=cq)
            case ha=>exact os_
            case hM=>exact zf
            case h=>exact fun _ _ h=>h.elim
            rintro _ _ rfl)
         |(apply qk rfl rfl rfl; (case hx=>exact oo_)) | refine ze7 ?_ | (refine zb ?_ ?_ <;> intro hb <;> try exact no_) | (refine sx_ ?_ <;> intro bb) | (refine su_ ?_ <;> intro u hu1 hu2) | fail)
         all_goals first | exact zcm ⟨2,by decide,rfl,rfl⟩ | (exfalso; omega)
       ·have e3 : zi6 true m (b2 :: t) = nok 2:=by rw [zi6,if_neg hm,if_neg hf,hn2]; rfl
        rw [e3]
        have cq:=zct (T0:=T0) (b:=b) (p:=p + 1 + (k + 1) + 1) hs (by omega) (ht ▸ hn2) (by decide)
        have cv : True:=trivial
        have cw : True:=trivial
        refine za Tryz.func176 rfl (by decide) Tryz.ntmps176 rfl ?_
        repeat' (first
        |(apply zd rfl rfl rfl rfl (c:=cp)
          case ha=>exact os_
          case hM=>exact zf
          rintro _ _ ⟨rfl,rfl⟩)
         |(apply zd rfl rfl rfl rfl (c:=ct)
           case ha=>exact os_
           case hM=>exact zf
           rintro _ _ ⟨rfl,rfl⟩)
         |(apply zd rfl rfl rfl rfl (c:=cn)
           case ha=>exact os_
           case hM=>exact zf
           rintro _ _ ⟨rfl,rfl⟩)
         |(apply zd rfl rfl rfl rfl (c:=cm)
           case ha=>exact os_
           case hM=>exact zf
           rintro _ _ ⟨rfl,rfl⟩)
         |(apply zd rfl rfl rfl rfl (c:=cv)
           case ha=>exact os_
           case hM=>exact zf
           rintro _ _ ⟨rfl,rfl⟩)
         |(apply zd rfl rfl rfl rfl (c:=cw)
           case ha=>exact os_
           case hM=>exact zf
           rintro _ _ ⟨rfl,rfl⟩)
         |(apply zv rfl rfl rfl rfl (c:=cq)
           case ha=>exact os_
           case hM=>exact zf
           case h=>exact fun _ _ h=>h.elim
           rintro _ _ rfl)
        |(apply qk rfl rfl rfl; (case hx=>exact oo_)) | refine ze7 ?_ | (refine zb ?_ ?_ <;> intro hb <;> try exact no_) | (refine sx_ ?_ <;> intro bb) | (refine su_ ?_ <;> intro u hu1 hu2) | fail)
        all_goals first | exact zcm ⟨2,by decide,rfl,rfl⟩ | (exfalso; omega)
       ·exact absurd h0 (by decide)
   ·have e2 : zif (x :: l) = nok 2:=by rw [zif,if_pos hd,hn]; rfl
    rw [e2]
    have cq:=zct (T0:=T0) (b:=b) hs (by omega) (hl ▸ hn) (by decide)
    have ct : True:=trivial
    have cn : True:=trivial
    have cm : True:=trivial
    have cv : True:=trivial
    have cw : True:=trivial
    refine za Tryz.func176 rfl (by decide) Tryz.ntmps176 rfl ?_
    repeat' (first
    |(apply zd rfl rfl rfl rfl (c:=cp)
      case ha=>exact os_
      case hM=>exact zf
      rintro _ _ ⟨rfl,rfl⟩)
     |(apply zd rfl rfl rfl rfl (c:=ct)
       case ha=>exact os_
       case hM=>exact zf
       rintro _ _ ⟨rfl,rfl⟩)
     |(apply zd rfl rfl rfl rfl (c:=cn)
       case ha=>exact os_
       case hM=>exact zf
       rintro _ _ ⟨rfl,rfl⟩)
     |(apply zd rfl rfl rfl rfl (c:=cm)
       case ha=>exact os_
       case hM=>exact zf
       rintro _ _ ⟨rfl,rfl⟩)
     |(apply zd rfl rfl rfl rfl (c:=cv)
       case ha=>exact os_
       case hM=>exact zf
       rintro _ _ ⟨rfl,rfl⟩)
     |(apply zd rfl rfl rfl rfl (c:=cw)
       case ha=>exact os_
       case hM=>exact zf
       rintro _ _ ⟨rfl,rfl⟩)
     |(apply zv rfl rfl rfl rfl (c:=cq)
       case ha=>exact os_
       case hM=>exact zf
       case h=>exact fun _ _ h=>h.elim
       rintro _ _ rfl)
    |(apply qk rfl rfl rfl; (case hx=>exact oo_)) | refine ze7 ?_ | (refine zb ?_ ?_ <;> intro hb <;> try exact no_) | (refine sx_ ?_ <;> intro bb) | (refine su_ ?_ <;> intro u hu1 hu2) | fail)
    all_goals first | exact zcm ⟨2,by decide,rfl,rfl⟩ | (exfalso; omega)
   ·exact absurd h0 (by decide)
  ·have cn : True:=trivial
   have cm : True:=trivial
   have cv : True:=trivial
   have cw : True:=trivial
   have cq : True:=trivial
   unfold dig at hd
   have h91' : s[p + 1 + 1 - 2]? = some 91:=h91
   have ct:=zq3 (T0:=T0) b s (p + 1) x hs hx
   have hll:=zfu hl2 (by omega)
   rw [zif,if_neg hd]
   by_cases h75 : x.toNat = 75
   ·rw [if_pos h75]
    refine za Tryz.func176 rfl (by decide) Tryz.ntmps176 rfl ?_
    repeat' (first
    |(apply zd rfl rfl rfl rfl (c:=cp)
      case ha=>exact os_
      case hM=>exact zf
      rintro _ _ ⟨rfl,rfl⟩)
     |(apply zd rfl rfl rfl rfl (c:=ct)
       case ha=>exact os_
       case hM=>exact zf
       rintro _ _ ⟨rfl,rfl⟩)
     |(apply zd rfl rfl rfl rfl (c:=cn)
       case ha=>exact os_
       case hM=>exact zf
       rintro _ _ ⟨rfl,rfl⟩)
     |(apply zd rfl rfl rfl rfl (c:=cm)
       case ha=>exact os_
       case hM=>exact zf
       rintro _ _ ⟨rfl,rfl⟩)
     |(apply zd rfl rfl rfl rfl (c:=cv)
       case ha=>exact os_
       case hM=>exact zf
       rintro _ _ ⟨rfl,rfl⟩)
     |(apply zd rfl rfl rfl rfl (c:=cw)
       case ha=>exact os_
       case hM=>exact zf
       rintro _ _ ⟨rfl,rfl⟩)
     |(apply zv rfl rfl rfl rfl (c:=cq)
       case ha=>exact os_
       case hM=>exact zf
       case h=>exact fun _ _ h=>h.elim
       rintro _ _ rfl)
    |(apply qk rfl rfl rfl; (case hx=>exact oo_)) | refine ze7 ?_ | (refine zb ?_ ?_ <;> intro hb <;> try exact no_) | (refine sx_ ?_ <;> intro bb) | (refine su_ ?_ <;> intro u hu1 hu2) | fail)
    all_goals first | exact e1_ | skip
    refine ⟨_,[rdO b s (p + 1 + 1)],rl_,sl_,_,_,rfl, ?_, ?_⟩
    ·show z0 _ = z0 _
     rw [show ((8 - (x.toNat - 74) : Nat) : Int) = 7 by omega]
    ·rw [hll,show s.length - (s.length - (p + 1 + 1)) = p + 1 + 1 by omega]
   ·rw [if_neg h75]
    by_cases h74 : x.toNat = 74
    ·rw [if_pos h74]
     refine za Tryz.func176 rfl (by decide) Tryz.ntmps176 rfl ?_
     repeat' (first
     |(apply zd rfl rfl rfl rfl (c:=cp)
       case ha=>exact os_
       case hM=>exact zf
       rintro _ _ ⟨rfl,rfl⟩)
      |(apply zd rfl rfl rfl rfl (c:=ct)
        case ha=>exact os_
        case hM=>exact zf
        rintro _ _ ⟨rfl,rfl⟩)
      |(apply zd rfl rfl rfl rfl (c:=cn)
        case ha=>exact os_
        case hM=>exact zf
        rintro _ _ ⟨rfl,rfl⟩)
      |(apply zd rfl rfl rfl rfl (c:=cm)
        case ha=>exact os_
        case hM=>exact zf
        rintro _ _ ⟨rfl,rfl⟩)
      |(apply zd rfl rfl rfl rfl (c:=cv)
        case ha=>exact os_
        case hM=>exact zf
        rintro _ _ ⟨rfl,rfl⟩)
      |(apply zd rfl rfl rfl rfl (c:=cw)
        case ha=>exact os_
        case hM=>exact zf
        rintro _ _ ⟨rfl,rfl⟩)
      |(apply zv rfl rfl rfl rfl (c:=cq)
        case ha=>exact os_
        case hM=>exact zf
        case h=>exact fun _ _ h=>h.elim
        rintro _ _ rfl)
     |(apply qk rfl rfl rfl; (case hx=>exact oo_)) | refine ze7 ?_ | (refine zb ?_ ?_ <;> intro hb <;> try exact no_) | (refine sx_ ?_ <;> intro bb) | (refine su_ ?_ <;> intro u hu1 hu2) | fail)
     all_goals first | exact e1_ | skip
     refine ⟨_,[rdO b s (p + 1 + 1)],rl_,sl_,_,_,rfl, ?_, ?_⟩
     ·show z0 _ = z0 _
      rw [show ((8 - (x.toNat - 74) : Nat) : Int) = 8 by omega]
     ·rw [hll,show s.length - (s.length - (p + 1 + 1)) = p + 1 + 1 by omega]
    ·rw [if_neg h74]
     by_cases hm : 65 ≤ x.toNat ∧ x.toNat ≤ 68
     ·rw [zi6,if_pos hm]
      refine za Tryz.func176 rfl (by decide) Tryz.ntmps176 rfl ?_
      repeat' (first
      |(apply zd rfl rfl rfl rfl (c:=cp)
        case ha=>exact os_
        case hM=>exact zf
        rintro _ _ ⟨rfl,rfl⟩)
       |(apply zd rfl rfl rfl rfl (c:=ct)
         case ha=>exact os_
         case hM=>exact zf
         rintro _ _ ⟨rfl,rfl⟩)
       |(apply zd rfl rfl rfl rfl (c:=cn)
         case ha=>exact os_
         case hM=>exact zf
         rintro _ _ ⟨rfl,rfl⟩)
       |(apply zd rfl rfl rfl rfl (c:=cm)
         case ha=>exact os_
         case hM=>exact zf
         rintro _ _ ⟨rfl,rfl⟩)
       |(apply zd rfl rfl rfl rfl (c:=cv)
         case ha=>exact os_
         case hM=>exact zf
         rintro _ _ ⟨rfl,rfl⟩)
       |(apply zd rfl rfl rfl rfl (c:=cw)
         case ha=>exact os_
         case hM=>exact zf
         rintro _ _ ⟨rfl,rfl⟩)
       |(apply zv rfl rfl rfl rfl (c:=cq)
         case ha=>exact os_
         case hM=>exact zf
         case h=>exact fun _ _ h=>h.elim
         rintro _ _ rfl)
      |(apply qk rfl rfl rfl; (case hx=>exact oo_)) | refine ze7 ?_ | (refine zb ?_ ?_ <;> intro hb <;> try exact no_) | (refine sx_ ?_ <;> intro bb) | (refine su_ ?_ <;> intro u hu1 hu2) | fail)
      all_goals first | exact e1_ | skip
      refine ⟨_,[rdO b s (p + 1 + 1)],rl_,sl_,_,_,rfl, ?_, ?_⟩
      ·show z0 _ = z0 _
       rw [show 3 + (x.toNat - 65) = x.toNat - 62 by omega]; rfl
      ·rw [hll,show s.length - (s.length - (p + 1 + 1)) = p + 1 + 1 by omega]
     ·rw [zi6,if_neg hm,if_pos (.inr (.inr rfl))]
      refine za Tryz.func176 rfl (by decide) Tryz.ntmps176 rfl ?_
      repeat' (first
      |(apply zd rfl rfl rfl rfl (c:=cp)
        case ha=>exact os_
        case hM=>exact zf
        rintro _ _ ⟨rfl,rfl⟩)
       |(apply zd rfl rfl rfl rfl (c:=ct)
         case ha=>exact os_
         case hM=>exact zf
         rintro _ _ ⟨rfl,rfl⟩)
       |(apply zd rfl rfl rfl rfl (c:=cn)
         case ha=>exact os_
         case hM=>exact zf
         rintro _ _ ⟨rfl,rfl⟩)
       |(apply zd rfl rfl rfl rfl (c:=cm)
         case ha=>exact os_
         case hM=>exact zf
         rintro _ _ ⟨rfl,rfl⟩)
       |(apply zd rfl rfl rfl rfl (c:=cv)
         case ha=>exact os_
         case hM=>exact zf
         rintro _ _ ⟨rfl,rfl⟩)
       |(apply zd rfl rfl rfl rfl (c:=cw)
         case ha=>exact os_
         case hM=>exact zf
         rintro _ _ ⟨rfl,rfl⟩)
       |(apply zv rfl rfl rfl rfl (c:=cq)
         case ha=>exact os_
         case hM=>exact zf
         case h=>exact fun _ _ h=>h.elim
         rintro _ _ rfl)
      |(apply qk rfl rfl rfl; (case hx=>exact oo_)) | refine ze7 ?_ | (refine zb ?_ ?_ <;> intro hb <;> try exact no_) | (refine sx_ ?_ <;> intro bb) | (refine su_ ?_ <;> intro u hu1 hu2) | fail)
      all_goals first | exact zcm ⟨2,by decide,rfl,rfl⟩ | (exfalso; simp at hb; done) | (exfalso; omega)
end
section
open Go Go.RowKit
variable {T0 : Gh} [TabU T0]
set_option maxRecDepth 2000000
instance qcb : UnC 189 (.map 5 3):=⟨Tryz.underlying189⟩
attribute [local irreducible] z_ zg AW AL AO QY qd zx rsA Opd xi vA gvA zt z0 slA jc ipA rpA EqK LnK IxK LdK FaK FdK
theorem zxi (b : Nat) (s : List UInt8) (hs : s.length ≤ 9223372036854775807) (h0 : s ≠ []) : AF Tryz.prog T0 138 [ptA b] [rdO b s 0] (RdK b s (zja s)) (RdP (zja s)):=by
 cases hsl : s with
 |nil=>exact absurd hsl h0
 |cons x l =>
  rw [← hsl]
  have hx : s[0]? = some x:=by rw [hsl]; rfl
  have hx2:=x.toNat_lt
  have hlen : s.length = l.length + 1:=by rw [hsl]; rfl
  have hl : s.drop 1 = l:=by rw [hsl]; rfl
  have cp:=zi4 (T0:=T0) b s 0 x (by omega) hx
  have hll : s.length - l.length = 0 + 1:=by omega
  by_cases hk : zby x.toNat ≠ 0
  ·have e : zja s = (0,(zby x.toNat,0,0,0),l):=by rw [hsl,zhq,if_pos hk]
   rw [e]
   have cq : True:=trivial
   have ct : True:=trivial
   have cc : True:=trivial
   have cg : True:=trivial
   have fin : ∀ k,zby x.toNat = k → RdK b s (0,(zby x.toNat,0,0,0),l) (z0 [I k,I 0,I 0,R 0]) [rdO b s (0 + 1)]:=fun k h=>⟨_,_,rfl,by rw [h]; rfl,by rw [hll]⟩
   rcases ziu x.toNat with h | ⟨h,hk2⟩ | ⟨h,hk2⟩ | ⟨h,hk2⟩ | ⟨h,hk2⟩
   ·exact absurd h hk
   ·have : x = 13:=ki (by show x.toNat = 13; omega)
    subst this
    refine za Tryz.func138 rfl (by decide) Tryz.ntmps138 rfl ?_
    repeat' (first
    |(apply zd rfl rfl rfl rfl (c:=cp)
      case ha=>exact os_
      case hM=>exact zf
      rintro _ _ ⟨rfl,rfl⟩)
     |(apply zd rfl rfl rfl rfl (c:=ct)
       case ha=>exact os_
       case hM=>exact zf
       rintro _ _ ⟨rfl,rfl⟩)
     |(apply zv rfl rfl rfl rfl (c:=cq)
       case ha=>exact os_
       case hM=>exact zf
       case h=>exact fun _ _ h=>h.elim
       rintro _ _ rfl)
     |(apply zv rfl rfl rfl rfl (c:=cc)
       case ha=>exact os_
       case hM=>exact zf
       case hp =>
        intro ch M1 hk
        repeat' (first | refine zr3 ?_ | refine zsw ?_)
        exact zcm hk
       rintro _ _ ⟨c,t,hct,rfl,rfl⟩)
    |(apply qk rfl rfl rfl; (case hx=>exact oo_)) | refine zzc ?_ | (apply j8 rfl rfl rfl rfl; intro bm) | (apply kz rfl rfl rfl un_ un_; (case hx=>exact oo_); (case hy=>exact oo_); (case hz=>exact oo_); (case hk=>exact (rfl : IntKind.u8 = IntKind.u8)); (case hU=>exact zdi); (case hn=>rfl)) | refine zzb ?_ | (refine zb ?_ ?_ <;> intro hb <;> try exact no_) | (refine sx_ ?_ <;> intro bb) | (refine su_ ?_ <;> intro u hu1 hu2) | fail)
    all_goals first | exact e1_ | skip
    exact ⟨_,[rdO b s (0 + 1)],rl_,sl_,fin 9 rfl⟩
   ·have : x = 10:=ki (by show x.toNat = 10; omega)
    subst this
    refine za Tryz.func138 rfl (by decide) Tryz.ntmps138 rfl ?_
    repeat' (first
    |(apply zd rfl rfl rfl rfl (c:=cp)
      case ha=>exact os_
      case hM=>exact zf
      rintro _ _ ⟨rfl,rfl⟩)
     |(apply zd rfl rfl rfl rfl (c:=ct)
       case ha=>exact os_
       case hM=>exact zf
       rintro _ _ ⟨rfl,rfl⟩)
     |(apply zv rfl rfl rfl rfl (c:=cq)
       case ha=>exact os_
       case hM=>exact zf
       case h=>exact fun _ _ h=>h.elim
       rintro _ _ rfl)
     |(apply zv rfl rfl rfl rfl (c:=cc)
       case ha=>exact os_
       case hM=>exact zf
       case hp =>
        intro ch M1 hk
        repeat' (first | refine zr3 ?_ | refine zsw ?_)
        exact zcm hk
       rintro _ _ ⟨c,t,hct,rfl,rfl⟩)
    |(apply qk rfl rfl rfl; (case hx=>exact oo_)) | refine zzc ?_ | (apply j8 rfl rfl rfl rfl; intro bm) | (apply kz rfl rfl rfl un_ un_; (case hx=>exact oo_); (case hy=>exact oo_); (case hz=>exact oo_); (case hk=>exact (rfl : IntKind.u8 = IntKind.u8)); (case hU=>exact zdi); (case hn=>rfl)) | refine zzb ?_ | (refine zb ?_ ?_ <;> intro hb <;> try exact no_) | (refine sx_ ?_ <;> intro bb) | (refine su_ ?_ <;> intro u hu1 hu2) | fail)
    all_goals first | exact e1_ | skip
    exact ⟨_,[rdO b s (0 + 1)],rl_,sl_,fin 10 rfl⟩
   ·have : x = 8:=ki (by show x.toNat = 8; omega)
    subst this
    refine za Tryz.func138 rfl (by decide) Tryz.ntmps138 rfl ?_
    repeat' (first
    |(apply zd rfl rfl rfl rfl (c:=cp)
      case ha=>exact os_
      case hM=>exact zf
      rintro _ _ ⟨rfl,rfl⟩)
     |(apply zd rfl rfl rfl rfl (c:=ct)
       case ha=>exact os_
       case hM=>exact zf
       rintro _ _ ⟨rfl,rfl⟩)
     |(apply zv rfl rfl rfl rfl (c:=cq)
       case ha=>exact os_
       case hM=>exact zf
       case h=>exact fun _ _ h=>h.elim
       rintro _ _ rfl)
     |(apply zv rfl rfl rfl rfl (c:=cc)
       case ha=>exact os_
       case hM=>exact zf
       case hp =>
        intro ch M1 hk
        repeat' (first | refine zr3 ?_ | refine zsw ?_)
        exact zcm hk
       rintro _ _ ⟨c,t,hct,rfl,rfl⟩)
    |(apply qk rfl rfl rfl; (case hx=>exact oo_)) | refine zzc ?_ | (apply j8 rfl rfl rfl rfl; intro bm) | (apply kz rfl rfl rfl un_ un_; (case hx=>exact oo_); (case hy=>exact oo_); (case hz=>exact oo_); (case hk=>exact (rfl : IntKind.u8 = IntKind.u8)); (case hU=>exact zdi); (case hn=>rfl)) | refine zzb ?_ | (refine zb ?_ ?_ <;> intro hb <;> try exact no_) | (refine sx_ ?_ <;> intro bb) | (refine su_ ?_ <;> intro u hu1 hu2) | fail)
    all_goals first | exact e1_ | skip
    exact ⟨_,[rdO b s (0 + 1)],rl_,sl_,fin 11 rfl⟩
   ·have : x = 7:=ki (by show x.toNat = 7; omega)
    subst this
    refine za Tryz.func138 rfl (by decide) Tryz.ntmps138 rfl ?_
    repeat' (first
    |(apply zd rfl rfl rfl rfl (c:=cp)
      case ha=>exact os_
      case hM=>exact zf
      rintro _ _ ⟨rfl,rfl⟩)
     |(apply zd rfl rfl rfl rfl (c:=ct)
       case ha=>exact os_
       case hM=>exact zf
       rintro _ _ ⟨rfl,rfl⟩)
     |(apply zv rfl rfl rfl rfl (c:=cq)
       case ha=>exact os_
       case hM=>exact zf
       case h=>exact fun _ _ h=>h.elim
       rintro _ _ rfl)
     |(apply zv rfl rfl rfl rfl (c:=cc)
       case ha=>exact os_
       case hM=>exact zf
       case hp =>
        intro ch M1 hk
        repeat' (first | refine zr3 ?_ | refine zsw ?_)
        exact zcm hk
       rintro _ _ ⟨c,t,hct,rfl,rfl⟩)
    |(apply qk rfl rfl rfl; (case hx=>exact oo_)) | refine zzc ?_ | (apply j8 rfl rfl rfl rfl; intro bm) | (apply kz rfl rfl rfl un_ un_; (case hx=>exact oo_); (case hy=>exact oo_); (case hz=>exact oo_); (case hk=>exact (rfl : IntKind.u8 = IntKind.u8)); (case hU=>exact zdi); (case hn=>rfl)) | refine zzb ?_ | (refine zb ?_ ?_ <;> intro hb <;> try exact no_) | (refine sx_ ?_ <;> intro bb) | (refine su_ ?_ <;> intro u hu1 hu2) | fail)
    all_goals first | exact e1_ | skip
    exact ⟨_,[rdO b s (0 + 1)],rl_,sl_,fin 12 rfl⟩
  ·have hk0 : zby x.toNat = 0:=by omega
   have hn : x.toNat ≠ 13 ∧ x.toNat ≠ 10 ∧ x.toNat ≠ 8 ∧ x.toNat ≠ 7:=by
    refine ⟨?_, ?_, ?_, ?_⟩ <;> (intro h; rw [h] at hk0; revert hk0; decide)
   by_cases h27 : x.toNat = 27
   ·have e0 : x = 27:=ki (by show x.toNat = 27; omega)
    have cg : True:=trivial
    cases hl2 : l with
    |nil =>
     have e : zja s = nok 3:=by rw [hsl,e0,hl2]; rfl
     rw [e]
     have hlen1 : s.length = 0 + 1:=by rw [hlen,hl2]; rfl
     have cq : AF Tryz.prog T0 175 [ptA b] [rdO b s (0 + 1)] (fun _ _=>False) (fun c _=>c = zxq 3):=by rw [← hlen1]; exact z5r b s (by omega)
     have ct : True:=trivial
     have cc : True:=trivial
     refine za Tryz.func138 rfl (by decide) Tryz.ntmps138 rfl ?_
     repeat' (first
     |(apply zd rfl rfl rfl rfl (c:=cp)
       case ha=>exact os_
       case hM=>exact zf
       rintro _ _ ⟨rfl,rfl⟩)
      |(apply zd rfl rfl rfl rfl (c:=ct)
        case ha=>exact os_
        case hM=>exact zf
        rintro _ _ ⟨rfl,rfl⟩)
      |(apply zv rfl rfl rfl rfl (c:=cq)
        case ha=>exact os_
        case hM=>exact zf
        case h=>exact fun _ _ h=>h.elim
        rintro _ _ rfl)
      |(apply zv rfl rfl rfl rfl (c:=cc)
        case ha=>exact os_
        case hM=>exact zf
        case hp =>
         intro ch M1 hk
         repeat' (first | refine zr3 ?_ | refine zsw ?_)
         exact zcm hk
        rintro _ _ ⟨c,t,hct,rfl,rfl⟩)
     |(apply qk rfl rfl rfl; (case hx=>exact oo_)) | refine zzc ?_ | (apply j8 rfl rfl rfl rfl; intro bm) | (apply kz rfl rfl rfl un_ un_; (case hx=>exact oo_); (case hy=>exact oo_); (case hz=>exact oo_); (case hk=>exact (rfl : IntKind.u8 = IntKind.u8)); (case hU=>exact zdi); (case hn=>rfl)) | refine zzb ?_ | (refine zb ?_ ?_ <;> intro hb <;> try exact no_) | (refine sx_ ?_ <;> intro bb) | (refine su_ ?_ <;> intro u hu1 hu2) | fail)
     all_goals first | exact zcm ⟨3,by decide,rfl,rfl⟩ | (exfalso; omega)
    |cons y l2 =>
     rw [hl2] at hl
     obtain ⟨hy,hl3⟩:=zks hl
     have hy2:=y.toNat_lt
     have ct:=zq3 (T0:=T0) b s (0 + 1) y (by omega) hy
     have cq : True:=trivial
     by_cases h91 : y.toNat = 91
     ·have e1 : y = 91:=ki (by show y.toNat = 91; omega)
      have e : zja s = zif (s.drop (0 + 1 + 1)):=by rw [show s.drop (0 + 1 + 1) = l2 from hl3,hsl,e0,hl2,e1,zx5]
      rw [e]
      have hyl:=(List.getElem?_eq_some_iff.1 hy).1
      have cc:=zxh (T0:=T0) b s (0 + 1) (by omega) (by omega) (by rw [← e1]; exact hy)
      refine za Tryz.func138 rfl (by decide) Tryz.ntmps138 rfl ?_
      repeat' (first
      |(apply zd rfl rfl rfl rfl (c:=cp)
        case ha=>exact os_
        case hM=>exact zf
        rintro _ _ ⟨rfl,rfl⟩)
       |(apply zd rfl rfl rfl rfl (c:=ct)
         case ha=>exact os_
         case hM=>exact zf
         rintro _ _ ⟨rfl,rfl⟩)
       |(apply zv rfl rfl rfl rfl (c:=cq)
         case ha=>exact os_
         case hM=>exact zf
         case h=>exact fun _ _ h=>h.elim
         rintro _ _ rfl)
       |(apply zv rfl rfl rfl rfl (c:=cc)
         case ha=>exact os_
         case hM=>exact zf
         case hp =>
          intro ch M1 hk
          repeat' (first | refine zr3 ?_ | refine zsw ?_)
          exact zcm hk
         rintro _ _ ⟨c,t,hct,rfl,rfl⟩)
      |(apply qk rfl rfl rfl; (case hx=>exact oo_)) | refine zzc ?_ | (apply j8 rfl rfl rfl rfl; intro bm) | (apply kz rfl rfl rfl un_ un_; (case hx=>exact oo_); (case hy=>exact oo_); (case hz=>exact oo_); (case hk=>exact (rfl : IntKind.u8 = IntKind.u8)); (case hU=>exact zdi); (case hn=>rfl)) | refine zzb ?_ | (refine zb ?_ ?_ <;> intro hb <;> try exact no_) | (refine sx_ ?_ <;> intro bb) | (refine su_ ?_ <;> intro u hu1 hu2) | fail)
      all_goals first | exact e1_ | skip
      exact ⟨_,[rdO b s (s.length - t.length)],rl_,sl_,c,t,hct,rfl,rfl⟩
     ·have e : zja s = nok 2:=by
       rw [hsl,e0,hl2,zx6]
       exact if_neg h91
      rw [e]
      have cc : True:=trivial
      refine za Tryz.func138 rfl (by decide) Tryz.ntmps138 rfl ?_
      repeat' (first
      |(apply zd rfl rfl rfl rfl (c:=cp)
        case ha=>exact os_
        case hM=>exact zf
        rintro _ _ ⟨rfl,rfl⟩)
       |(apply zd rfl rfl rfl rfl (c:=ct)
         case ha=>exact os_
         case hM=>exact zf
         rintro _ _ ⟨rfl,rfl⟩)
       |(apply zv rfl rfl rfl rfl (c:=cq)
         case ha=>exact os_
         case hM=>exact zf
         case h=>exact fun _ _ h=>h.elim
         rintro _ _ rfl)
       |(apply zv rfl rfl rfl rfl (c:=cc)
         case ha=>exact os_
         case hM=>exact zf
         case hp =>
          intro ch M1 hk
          repeat' (first | refine zr3 ?_ | refine zsw ?_)
          exact zcm hk
         rintro _ _ ⟨c,t,hct,rfl,rfl⟩)
      |(apply qk rfl rfl rfl; (case hx=>exact oo_)) | refine zzc ?_ | (apply j8 rfl rfl rfl rfl; intro bm) | (apply kz rfl rfl rfl un_ un_; (case hx=>exact oo_); (case hy=>exact oo_); (case hz=>exact oo_); (case hk=>exact (rfl : IntKind.u8 = IntKind.u8)); (case hU=>exact zdi); (case hn=>rfl)) | refine zzb ?_ | (refine zb ?_ ?_ <;> intro hb <;> try exact no_) | (refine sx_ ?_ <;> intro bb) | (refine su_ ?_ <;> intro u hu1 hu2) | fail)
      all_goals first | exact zcm ⟨2,by decide,rfl,rfl⟩ | (exfalso; omega)
   ·have cq : True:=trivial
    have ct : True:=trivial
    have cc : True:=trivial
    have cg0:=zoy (T0:=T0) s (by omega)
    have cg1 : List.take (s.length - 0) (List.drop 0 s) = s:=by simp
    have e : zja s = if ze9 s = false then nok 3 else if zcc s = (65533,1) ∨ xq ((zcc s).1 : Nat) = false then nok 2 else (0,(1,0,0,((zcc s).1 : Nat)),s.drop (zcc s).2):=by
     rw [hsl,zhq,if_neg hk,if_neg h27]
    rw [e]
    unfold zvw at cg0
    rw [if_neg h0] at cg0
    by_cases hf : ze9 s = false
    ·rw [if_pos hf] at cg0 ⊢
     have cg : AP Tryz.prog T0 177 [SA (List.take (s.length - 0) (List.drop 0 s))] (zt [R 0,I 0,I 3]):=by rw [cg1]; exact cg0
     refine za Tryz.func138 rfl (by decide) Tryz.ntmps138 rfl ?_
     repeat' (first
     |(apply zd rfl rfl rfl rfl (c:=cp)
       case ha=>exact os_
       case hM=>exact zf
       rintro _ _ ⟨rfl,rfl⟩)
      |(apply zd rfl rfl rfl rfl (c:=ct)
        case ha=>exact os_
        case hM=>exact zf
        rintro _ _ ⟨rfl,rfl⟩)
      |(apply zv rfl rfl rfl rfl (c:=cq)
        case ha=>exact os_
        case hM=>exact zf
        case h=>exact fun _ _ h=>h.elim
        rintro _ _ rfl)
      |(apply zv rfl rfl rfl rfl (c:=cc)
        case ha=>exact os_
        case hM=>exact zf
        case hp =>
         intro ch M1 hk
         repeat' (first | refine zr3 ?_ | refine zsw ?_)
         exact zcm hk
        rintro _ _ ⟨c,t,hct,rfl,rfl⟩)
     |(apply qk rfl rfl rfl; (case hx=>exact oo_)) | refine zzc ?_ | (apply j8 rfl rfl rfl rfl; intro bm) | (apply kz rfl rfl rfl un_ un_; (case hx=>exact oo_); (case hy=>exact oo_); (case hz=>exact oo_); (case hk=>exact (rfl : IntKind.u8 = IntKind.u8)); (case hU=>exact zdi); (case hn=>rfl)) | refine zzb ?_ | (refine zb ?_ ?_ <;> intro hb <;> try exact no_) | (refine sx_ ?_ <;> intro bb) | (refine su_ ?_ <;> intro u hu1 hu2) | fail)
     all_goals first | exact zcm ⟨3,by decide,rfl,rfl⟩ | (exfalso; omega)
    ·rw [if_neg hf] at cg0 ⊢
     have hds:=zmm h0
     obtain ⟨r,k,hrk⟩ : ∃ r k,zcc s = (r,k):=⟨_,_,rfl⟩
     rw [hrk] at cg0 hds ⊢
     simp only at cg0 hds ⊢
     have cg : AP Tryz.prog T0 177 [SA (List.take (s.length - 0) (List.drop 0 s))] (zt [R r,I k,I 0]):=by rw [cg1]; exact cg0
     have hk1 : k ≤ s.length:=by
      rcases hds with h | h
      ·simp at h; omega
      ·exact h.2.1
     by_cases hb1 : (r,k) = (65533,1) ∨ xq (r : Int) = false
     ·rw [if_pos hb1]
      refine za Tryz.func138 rfl (by decide) Tryz.ntmps138 rfl ?_
      repeat' (first
      |(apply zd rfl rfl rfl rfl (c:=cp)
        case ha=>exact os_
        case hM=>exact zf
        rintro _ _ ⟨rfl,rfl⟩)
       |(apply zd rfl rfl rfl rfl (c:=ct)
         case ha=>exact os_
         case hM=>exact zf
         rintro _ _ ⟨rfl,rfl⟩)
       |(apply zv rfl rfl rfl rfl (c:=cq)
         case ha=>exact os_
         case hM=>exact zf
         case h=>exact fun _ _ h=>h.elim
         rintro _ _ rfl)
       |(apply zv rfl rfl rfl rfl (c:=cc)
         case ha=>exact os_
         case hM=>exact zf
         case hp =>
          intro ch M1 hk
          repeat' (first | refine zr3 ?_ | refine zsw ?_)
          exact zcm hk
         rintro _ _ ⟨c,t,hct,rfl,rfl⟩)
      |(apply qk rfl rfl rfl; (case hx=>exact oo_)) | refine zzc ?_ | (apply j8 rfl rfl rfl rfl; intro bm) | (apply kz rfl rfl rfl un_ un_; (case hx=>exact oo_); (case hy=>exact oo_); (case hz=>exact oo_); (case hk=>exact (rfl : IntKind.u8 = IntKind.u8)); (case hU=>exact zdi); (case hn=>rfl)) | refine zzb ?_ | (refine zb ?_ ?_ <;> intro hb <;> try exact no_) | (refine sx_ ?_ <;> intro bb) | (refine su_ ?_ <;> intro u hu1 hu2) | fail)
      all_goals first
      |exact zcm ⟨2,by decide,rfl,rfl⟩
      |(exfalso; omega)
      |(exfalso; rcases hb1 with h | h
        ·simp only [Prod.mk.injEq] at h; omega
        ·rename_i h2; first | (rw [h] at h2; cases h2) | (rw [h] at hb; cases hb))
     ·rw [if_neg hb1]
      have hsh : xq (r : Int) = true:=by
       cases h : xq (r : Int) with
       |true=>rfl
       |false=>exact absurd (.inr h) hb1
      have hrk2 : ¬ (r = 65533 ∧ k = 1):=fun h=>hb1 (.inl (by rw [h.1,h.2]))
      refine za Tryz.func138 rfl (by decide) Tryz.ntmps138 rfl ?_
      repeat' (first
      |(apply zd rfl rfl rfl rfl (c:=cp)
        case ha=>exact os_
        case hM=>exact zf
        rintro _ _ ⟨rfl,rfl⟩)
       |(apply zd rfl rfl rfl rfl (c:=ct)
         case ha=>exact os_
         case hM=>exact zf
         rintro _ _ ⟨rfl,rfl⟩)
       |(apply zv rfl rfl rfl rfl (c:=cq)
         case ha=>exact os_
         case hM=>exact zf
         case h=>exact fun _ _ h=>h.elim
         rintro _ _ rfl)
       |(apply zv rfl rfl rfl rfl (c:=cc)
         case ha=>exact os_
         case hM=>exact zf
         case hp =>
          intro ch M1 hk
          repeat' (first | refine zr3 ?_ | refine zsw ?_)
          exact zcm hk
         rintro _ _ ⟨c,t,hct,rfl,rfl⟩)
      |(apply qk rfl rfl rfl; (case hx=>exact oo_)) | refine zzc ?_ | (apply j8 rfl rfl rfl rfl; intro bm) | (apply kz rfl rfl rfl un_ un_; (case hx=>exact oo_); (case hy=>exact oo_); (case hz=>exact oo_); (case hk=>exact (rfl : IntKind.u8 = IntKind.u8)); (case hU=>exact zdi); (case hn=>rfl)) | refine zzb ?_ | (refine zb ?_ ?_ <;> intro hb <;> try exact no_) | (refine sx_ ?_ <;> intro bb) | (refine su_ ?_ <;> intro u hu1 hu2) | fail)
      all_goals first | (exfalso; omega) | (exfalso; rw [hsh] at hb; cases hb; done) | skip
      refine ⟨_,[rdO b s (0 + k)],rl_,sl_,_,_,rfl,rfl, ?_⟩
      rw [List.length_drop,show s.length - (s.length - k) = 0 + k by omega]
end
section
open Go Go.RowKit
set_option maxRecDepth 100000
section
variable {P : Program} {T0 : Gh} {N : Fz} {Q : kw} {fr : Fr} {M : List Own} {ops : Array Oper} {o : Oper}
theorem zl7 {G : Gh} {t : Array Value} : frRel G [] t:=fun s A _ e=>by simp [Fr.get] at e
theorem uf {G : Gh} {fr : Fr} {t : Array Value} {s : Nat} {A : AV} {u : Value} (h : t[s]? = some u) (hr : Rep G A u) (k : frRel G fr t) : frRel G ((s,A) :: fr) t:=fun x B _ e=>by
 by_cases hx : x = s
 ·subst hx; rw [qo] at e; obtain rfl:=Option.some.inj e; exact ⟨u,h,hr⟩
 ·rw [qh hx] at e; exact k x B trivial e
theorem z7g {c : Code} {a : Act} {cs : List Frame} {w w0 : World} {G : Gh} {F : List Own} {R : Exit → Act → List Frame → World → Prop} (h : AW P T0 N c Q fr M) (hc : Con T0 N w0 G F fr M a w) (hq : ∀ e a' w',cQ T0 N w0 G F Q e a' w' → R e a' cs w') : c.wpS P R a cs w:=wpS_of_wp (wp_mono (h w0 G F a w hc) hq)
theorem z_i {c : Code} {a : Act} {w w0 : World} {G : Gh} {F : List Own} {R : Exit → Act → World → Prop} (h : AW P T0 N c Q fr M) (hc : Con T0 N w0 G F fr M a w) (hq : ∀ e a' w',cQ T0 N w0 G F Q e a' w' → R e a' w') : c.wp P R a w:=wp_mono (h w0 G F a w hc) hq
theorem z2i {c next : Code} {a : Act} {w w0 : World} {G : Gh} {F : List Own} {R : Exit → Act → World → Prop} (KK : Fr → List Own → Prop) (h : AW P T0 N c (z_ KK fun _ _ _=>False) fr M) (hc : Con T0 N w0 G F fr M a w)
  (hk : ∀ fr' M' G' a' w',KK fr' M' → Gh.le G G' → Con T0 N w0 G' F fr' M' a' w' → next.wp P R a' w') : (Code.seq c next).wp P R a w :=
 wp_seq (wp_mono (h w0 G F a w hc) fun e a' w' q=>by
  obtain ⟨fr',M',G',q1,q2,q3⟩:=q
  cases e with
  |normal=>exact hk fr' M' G' a' w' q1 q2 q3
  |_=>exact q1.elim)
theorem Con.weak {fr' : Fr} {M' : List Own} {a : Act} {w w0 : World} {G : Gh} {F : List Own} (h : Con T0 N w0 G F fr M a w) (hw : Weak fr fr') (hs : List.Sublist M' M) : Con T0 N w0 G F fr' M' a w :=
 ⟨h.st.sub (hs.append (List.Sublist.refl F)),hw G _ h.fr,h.size,h.defers⟩
theorem z3s {op : BinOp} {t t' : TypeId} {x y : Operand} {a b r : Value} (ho : o.op = .binOp op t x y t') (hx : Opd T0 fr x (vA a)) (hy : Opd T0 fr y (vA b)) (hr : ∀ w,(do eqGuard op t x y a b; binOp op t a b : Sem Value).run P w = .ok r w) : AY P T0 ops o fr M (vA r):=xl fun w0 G F ac w hs hf=>by
 have e1:=(hx.use (o:=o) (ops:=ops) (by simp [ho,Op.operands]) hs.tab hf).eq
 have e2:=(hy.use (o:=o) (ops:=ops) (by simp [ho,Op.operands]) hs.tab hf).eq
 refine ⟨r, ?_,Rep.va _ _⟩
 simp only [execOp,ho,e1,e2]
 rw [Sem.run_bind,hr]; rfl
theorem zyd {x : Operand} {t u : TypeId} {k : IntKind} {v : Value} (ho : o.op = .typeAssert x t u true) (hu : P.underlying u = some (.int k)) (hx : Opd T0 fr x (vA (.iface u v))) : AY P T0 ops o fr M (zt [vA v,B true]):=xl fun w0 G F ac w hs hf=>by
 have e1:=(hx.use (o:=o) (ops:=ops) (by simp [ho,Op.operands]) hs.tab hf).eq
 refine ⟨.tuple #[v,.bool true], ?_,.of ⟨[_,_],rfl,Rep.va _ _,Rep.va _ _,trivial⟩⟩
 simp [execOp,ho,e1,Instr.typeAssert,run_underlying hu]
end
abbrev zug (b : Nat) (c : Cmd) : Own:=qd b 35 [I c.1,I c.2.1,I c.2.2.1,R c.2.2.2]
abbrev zt6 (b : Nat) (l : List UInt8) : Own:=qd b 9 [SA l]
abbrev zt_ (b : Nat) (n : Int) : Own:=qd b 31 [I n]
variable {T0 : Gh}
attribute [local irreducible] z_ zg AW AL AO QY qd zx rsA Opd xi vA gvA zt z0 slA jc ipA rpA EqK LnK IxK LdK FaK FdK
theorem z6b (e : Int) (he : e = 2 ∨ e = 3) {w0 : World} {G : Gh} {F : List Own} {w : World} {b2 b3 b4 : Nat} {c : Cmd} {l : List UInt8} {n : Int} (hs : St T0 w0 G ([zt_ b4 n,zt6 b3 l,zug b2 c] ++ F) w) :
  CallsD Tryz.prog 137 #[.pointer (some ⟨b2,0,none⟩),.pointer (some ⟨b3,0,none⟩),.pointer (some ⟨b4,0,none⟩)] (.panicking (zxq e)) w fun en u' w' =>
   (∃ v,en = .returned v) ∧ u' = .panicking [{ v:=.iface 31 (.int .i64 e),recovered:=true }] ∧ ∃ G',Gh.le G G' ∧ St T0 w0 G' ([zt_ b4 e,zt6 b3 [],zug b2 (0,0,0,0)] ++ F) w':=by
 refine callsD_of_wpS Tryz.func137 rfl fun c₀ cs hu => ?_
 apply wpS_seq
 apply wpS_region
 simp [wpOpsS,go_sem,recoverD,hu,Tryz.ntmps137,Exit.thenS]
 refine z7g (T0:=T0) (N:=⟨21,[]⟩) (w0:=w0) (G:=G) (F:=F) (fr:=[(0,ptA b2),(1,ptA b3),(2,ptA b4),(3,vA (.iface 31 (.int .i64 e)))]) (M:=[zt_ b4 n,zt6 b3 l,zug b2 c]) (Q:=fun ex _ M'=>ex = .normal ∧ List.Sublist [zt_ b4 e,zt6 b3 [],zug b2 (0,0,0,0)] M') ?_ ?_ ?_
 ·rcases he with rfl | rfl
  all_goals
   repeat' (first
   |refine sa_ ?_ | refine xr ?_ (hy:=by first | (apply z3s rfl; (case hx=>exact oo_); (case hy=>exact oo_); (case hr=>intro w; simp [eqGuard,binOp,Op.equal,Op.equalIn,go_sem]; rfl)) | (apply zyd rfl un_; exact oo_; done) | fail) | refine x5 ?_ | refine qc ?_ (hy:=by intro hk hk2; first | (apply z3s rfl; (case hx=>exact oo_); (case hy=>exact oo_); (case hr=>intro w; simp [eqGuard,binOp,Op.equal,Op.equalIn,go_sem]; rfl)) | (apply zyd rfl un_; exact oo_; done) | fail) | refine sw_ ?_ | (refine zb ?_ ?_ <;> intro hb <;> try exact no_) | (refine sx_ ?_ <;> intro bb) | (refine su_ ?_ <;> intro u hu1 hu2) | fail)
  all_goals first | exact ⟨rfl,sl_⟩ | (exfalso; omega)
 ·refine ⟨hs, ?_, ?_,rfl⟩
  ·refine uf (u:=.pointer (some ⟨b2,0,none⟩)) ?_ (Rep.va _ _) (uf (u:=.pointer (some ⟨b3,0,none⟩)) ?_ (Rep.va _ _) (uf (u:=.pointer (some ⟨b4,0,none⟩)) ?_ (Rep.va _ _) (uf (u:=.iface 31 (.int .i64 e)) ?_ (Rep.va _ _) zl7)))
   all_goals simp [Act.put,Array.getElem?_append,Array.getElem?_setIfInBounds]
  ·simp
 ·rintro ex a' w' ⟨fr',M',G',⟨rfl,hsub⟩,hl,hc⟩
  have hres : (results Tryz.f137 a'.tmps).run Tryz.prog w' = .ok (.tuple #[]) w':=by simp [results,Tryz.results137]
  have hst:=hc.st.sub (hsub.append (List.Sublist.refl F))
  have hdf : a'.defers = []:=hc.defers
  clear hc hsub
  exact ⟨hdf,_,rfl,.tuple #[],hres,⟨_,rfl⟩,rfl,G',hl,hst⟩
theorem z9h {w : World} {p2 p3 p4 : Value} : CallsD Tryz.prog 137 #[p2,p3,p4] .returning w fun en u' w'=>(∃ v,en = .returned v) ∧ u' = .returning ∧ w' = w:=by
 refine callsD_of_wpS Tryz.func137 rfl fun c₀ cs hu => ?_
 apply wpS_seq
 apply wpS_region
 simp [wpOpsS,go_sem,recoverD,hu,Tryz.ntmps137,Exit.thenS]
 apply wpS_seq
 apply wpS_region
 simp [wpOpsS,go_sem,eqGuard,binOp,Op.equal,Op.equalIn,Exit.thenS]
 refine wpS_cond (t:=false) (by simp [Act.eval,Act.put,Array.replicate]) ?_
 simp only [Bool.false_eq_true,if_false]
 refine wpS_of_wp (wp_skip ?_)
 cases c₀
 simp_all [bodyPostS,Act.put,results,Tryz.results137]
end
section
open Go Go.RowKit
set_option maxRecDepth 200000
def xu (s : List UInt8) : Cmd × List UInt8 × Int:=if s = [] then ((0,0,0,0),[],6) else ((zja s).2.1,(zja s).2.2,(zja s).1)
theorem zzg {P : Program} {id : Nat} {o1 o2 : Oper} {x : Nat} {f : FuncId} {caps : Array Operand} {ts : Array TypeId} {a : Act} {w : World} {R : Exit → Act → World → Prop} (hg1 : o1.guard = none) (hg2 : o2.guard = none) (hd1 : o1.dst = some x) (hd2 : o2.dst = none) (h1 : o1.op = .makeFunc (.func f) #[] caps) (h2 : o2.op = .defer { callee:=.value (.tmp x),args := #[],argTypes:=ts }) (hx : x < a.tmps.size)
  (h : R .normal { tmps:=a.tmps.setIfInBounds x (.func (.func f) #[] (caps.map a.eval)),defers:={ target:=.fn (.func f) (caps.map a.eval),args := #[] } :: a.defers } w) : (Code.region id [o1,o2].toArray false).wp P R a w:=by
 refine wp_region_lit (wpList_plain hg1 fun K hK => ?_)
 have r1 : (execOp a.eval o1).run P w = .ok (.value (.func (.func f) #[] (caps.map a.eval))) w:=by
  simp only [execOp,h1,Sem.run_bind,show ∀ (fn : Fn) (first cap : Array Value),(Instr.makeFunc fn first cap).run P w = .ok (.func fn first cap) w from fun _ _ _=>rfl,Result.andThen_ok,Sem.run_pure]
  simp
 unfold Oper.wp; rw [r1]
 refine hK _ _ (wpList_plain hg2 fun K2 hK2 => ?_)
 have e : (a.put o1.dst (.func (.func f) #[] (caps.map a.eval))).eval (.tmp x) = .func (.func f) #[] (caps.map a.eval):=by
  simp [Act.put,hd1,Act.eval,hx]
 have r2 : (execOp (a.put o1.dst (.func (.func f) #[] (caps.map a.eval))).eval o2).run P w = .ok (.defer { target:=.fn (.func f) (caps.map a.eval),args := #[] }) w:=by
  simp only [execOp,h2,resolve,e]
  simp [Deferred.ofValue]
 unfold Oper.wp; rw [r2]
 refine hK2 _ _ (wpList_nil ?_)
 rw [hd1,hd2]; exact h
theorem zto {α : Type} (l : List α) (n : Nat) : (l.drop n).take (l.length - n) = l.drop n:=List.take_of_length_le (by rw [List.length_drop]; omega)
instance qdc : AlC 9 (.string ⟨#[]⟩) [.string ⟨#[]⟩] [SA []]:=⟨by kernel_rfl,rfl,rfl⟩
instance qdd : AlC 31 (.int .i64 0) [.int .i64 0] [I 0]:=⟨by kernel_rfl,rfl,rfl⟩
variable {T0 : Gh} [TabU T0]
attribute [local irreducible] z_ zg AW AL AO QY qd zx rsA Opd xi vA gvA zt z0 slA jc ipA rpA EqK LnK IxK LdK FaK FdK
theorem zog : AP Tryz.prog T0 95 [SA []] (zt [vi (0,0,0,0),SA [],I 6]):=by
 refine za Tryz.func95 rfl (by decide) Tryz.ntmps95 rfl ?_
 repeat' (first
 |refine g6_ ?_ | (refine zb ?_ ?_ <;> intro hb <;> try exact no_) | (refine sx_ ?_ <;> intro bb) | (refine su_ ?_ <;> intro u hu1 hu2) | fail)
 all_goals first | exact ⟨_,[],rl_,List.nil_sublist _,Sub.eq (by rfl),rfl⟩ | (exfalso; simp at hb; done)
def z7e (b2 b3 b4 : Nat) : List Own:=[zt_ b4 0,zt6 b3 [],zug b2 (0,0,0,0)]
abbrev fr4 (s : List UInt8) (b2 b3 b4 : Nat) : Fr:=[(0,SA s),(2,ptA b2),(3,ptA b3),(4,ptA b4)]
def z__ (s : List UInt8) (b2 b3 b4 : Nat) : kw:=fun ex fr M=>Weak fr (fr4 s b2 b3 b4) ∧ ((ex = .ret ∧ ∃ c t,zja s = (0,c,t) ∧ List.Sublist [zt_ b4 0,zt6 b3 t,zug b2 c] M) ∨ (∃ e,ex = .panic (zxq e) ∧ e ≠ 0 ∧ (zja s).1 = e ∧ List.Sublist [zt_ b4 0,zt6 b3 [],zug b2 (0,0,0,0)] M))
theorem zvs (s : List UInt8) (hs : s.length ≤ 9223372036854775807) (h0 : s ≠ []) (D : List Deferred) (b2 b3 b4 : Nat) : ∀ c1 c2 c3 c4 : Code,Tryz.f95.body = some (.seq c1 (.seq c2 (.seq c3 c4))) → AW Tryz.prog T0 ⟨18,D⟩ c4 (z__ s b2 b3 b4) (fr4 s b2 b3 b4) (z7e b2 b3 b4):=by
 have htail : ∀ c t,zja s = (0,c,t) → t.length ≤ s.length ∧ List.take (s.length - (s.length - t.length)) (List.drop (s.length - t.length) s) = t:=fun c t h=>by
  rcases zas s h0 with ⟨c',l,t',_,h2,h3⟩ | ⟨h1,_⟩ | h1
  ·rw [h] at h3
   simp only [Prod.mk.injEq,true_and] at h3
   obtain ⟨_,rfl⟩:=h3
   rw [zto,h2,List.length_append]
   exact ⟨by omega,by rw [show l.length + t.length - t.length = l.length by omega,List.drop_left]⟩
  ·rw [h] at h1; cases h1
  ·rw [h] at h1; cases h1
 intro c1 c2 c3 c4 hb
 obtain ⟨rfl,rfl,rfl,rfl⟩ : _ ∧ _ ∧ _ ∧ _:=by
  have:=Option.some.inj hb
  injection this with e1 e2
  injection e2 with e3 e4
  injection e4 with e5 e6
  exact ⟨e1,e3,e5,e6⟩
 unfold z7e
 repeat' (first
 |(apply zv rfl rfl rfl rfl (c:=zxi _ s hs h0)
   case ha=>exact os_
   case hM=>exact zf
   case hp =>
    rintro ch M1 ⟨e,k1,k2,rfl⟩
    repeat' (first | refine zr3 ?_ | refine zsw ?_)
    exact ⟨wk_,.inr ⟨e,rfl,k1,k2,List.sublist_append_of_sublist_right sl_⟩⟩
   rintro _ _ ⟨c,t,hct,rfl,rfl⟩
   have ht:=htail c t hct)
 |(apply qa; (case hn=>rfl); (case hm=>kernel_rfl)) | refine zc3 ?_ | (apply jk; (case hL=>rfl); (case hne=>rfl)) | exact jm | apply xh | (apply zdf; (case ho=>rfl)) | (apply xf; exact vn) | (apply jh; (case h=>exact zcb); (case hk=>exact wk_); (case hc=>rfl)) | refine g6_ ?_ | (refine zb ?_ ?_ <;> intro hb <;> try exact no_) | (refine sx_ ?_ <;> intro bb) | (refine su_ ?_ <;> intro u hu1 hu2) | fail)
 refine ⟨wk_,.inl ⟨rfl,c,t,hct, ?_⟩⟩
 rw [ht.2]
 exact sl_
def K1 (s : List UInt8) : Fr → List Own → Prop:=fun fr M => ∃ b2 b3 b4,Weak fr (fr4 s b2 b3 b4) ∧ List.Sublist [zt_ b4 0,zt6 b3 [],zug b2 (0,0,0,0)] M
def K2 (s : List UInt8) (b2 b3 b4 : Nat) : Fr → List Own → Prop:=fun fr M=>Weak fr (fr4 s b2 b3 b4) ∧ List.Sublist [zt_ b4 0,zt6 b3 [],zug b2 (0,0,0,0)] M
theorem z45 (s : List UInt8) : ∀ c1 c2 c3 c4 : Code,Tryz.f95.body = some (.seq c1 (.seq c2 (.seq c3 c4))) → AW Tryz.prog T0 ⟨18,[]⟩ c1 (z_ (K1 s) fun _ _ _=>False) [(0,SA s)] []:=by
 intro c1 c2 c3 c4 hb
 obtain ⟨rfl,rfl,rfl,rfl⟩ : _ ∧ _ ∧ _ ∧ _:=by
  have:=Option.some.inj hb
  injection this with e1 e2
  injection e2 with e3 e4
  injection e4 with e5 e6
  exact ⟨e1,e3,e5,e6⟩
 repeat' (first
 |refine g6_ ?_ | (refine zb ?_ ?_ <;> intro hb <;> try exact no_) | (refine sx_ ?_ <;> intro bb) | (refine su_ ?_ <;> intro u hu1 hu2) | fail)
 exact ⟨_,_,_,wk_,sl_⟩
theorem z44 (s : List UInt8) (h0 : s ≠ []) (b2 b3 b4 : Nat) : ∀ c1 c2 c3 c4 : Code,Tryz.f95.body = some (.seq c1 (.seq c2 (.seq c3 c4))) → AW Tryz.prog T0 ⟨18,[]⟩ c2 (z_ (K2 s b2 b3 b4) fun _ _ _=>False) (fr4 s b2 b3 b4) [zt_ b4 0,zt6 b3 [],zug b2 (0,0,0,0)]:=by
 intro c1 c2 c3 c4 hb
 obtain ⟨rfl,rfl,rfl,rfl⟩ : _ ∧ _ ∧ _ ∧ _:=by
  have:=Option.some.inj hb
  injection this with e1 e2
  injection e2 with e3 e4
  injection e4 with e5 e6
  exact ⟨e1,e3,e5,e6⟩
 repeat' (first
 |refine g6_ ?_ | (refine zb ?_ ?_ <;> intro hb <;> try exact no_) | (refine sx_ ?_ <;> intro bb) | (refine su_ ?_ <;> intro u hu1 hu2) | fail)
 all_goals first | exact ⟨wk_,sl_⟩ | (exact absurd (by simpa using hb) h0)
def dN (b2 b3 b4 : Nat) : Deferred:={ target:=.fn (.func 137) #[.pointer (some ⟨b2,0,none⟩),.pointer (some ⟨b3,0,none⟩),.pointer (some ⟨b4,0,none⟩)],args := #[] }
theorem z43 (s : List UInt8) (b2 b3 b4 : Nat) : ∀ c1 c2 c3 c4 : Code,Tryz.f95.body = some (.seq c1 (.seq c2 (.seq c3 c4))) → ∀ {a : Act} {w w0 : World} {G : Gh} {F M : List Own} {R : Exit → Act → World → Prop},Con T0 ⟨18,[]⟩ w0 G F (fr4 s b2 b3 b4) M a w →
  (∀ a',Con T0 ⟨18,[dN b2 b3 b4]⟩ w0 G F (fr4 s b2 b3 b4) M a' w → R .normal a' w) → c3.wp Tryz.prog R a w:=by
 intro c1 c2 c3 c4 hb a w w0 G F M R hc h
 obtain ⟨rfl,rfl,rfl,rfl⟩ : _ ∧ _ ∧ _ ∧ _:=by
  have:=Option.some.inj hb
  injection this with e1 e2
  injection e2 with e3 e4
  injection e4 with e5 e6
  exact ⟨e1,e3,e5,e6⟩
 have hsz : a.tmps.size = 18:=hc.size
 refine zzg rfl rfl rfl rfl rfl rfl (by rw [hsz]; decide) ?_
 have s2:=(hc.slot (t:=2) (A:=ptA b2) rfl).eq
 have s3:=(hc.slot (t:=3) (A:=ptA b3) rfl).eq
 have s4:=(hc.slot (t:=4) (A:=ptA b4) rfl).eq
 have hcaps : (#[Operand.tmp 2,Operand.tmp 3,Operand.tmp 4].map a.eval) = #[.pointer (some ⟨b2,0,none⟩),.pointer (some ⟨b3,0,none⟩),.pointer (some ⟨b4,0,none⟩)]:=by simp [s2,s3,s4]
 have hdef : a.defers = []:=hc.defers
 refine h _ ⟨hc.st, ?_, ?_, ?_⟩
 ·have hput:=frRel.put (a:=a) (d:=some 9) (A:=z1_) hc.fr (fun x hx=>by cases hx; rw [hsz]; decide) (Rep.any G (.func (.func 137) #[] (#[Operand.tmp 2,Operand.tmp 3,Operand.tmp 4].map a.eval)))
  exact (u7 rfl (u7 rfl (u7 rfl (u7 rfl zpm))) : Weak ((9,z1_) :: fr4 s b2 b3 b4) (fr4 s b2 b3 b4)) G _ hput
 ·simp [hsz]
 ·show _ :: a.defers = _
  rw [hdef,hcaps]; rfl
theorem zs4 (s : List UInt8) (hs : s.length ≤ 9223372036854775807) : AP Tryz.prog T0 95 [SA s] (zt [vi (xu s).1,SA (xu s).2.1,I (xu s).2.2]):=by
 by_cases h0 : s = []
 ·subst h0
  exact zog.to (by rw [xu,if_pos rfl])
 rw [xu,if_neg h0]
 obtain ⟨c1,c2,c3,c4,hb⟩ : ∃ c1 c2 c3 c4,Tryz.f95.body = some (.seq c1 (.seq c2 (.seq c3 c4))):=⟨_,_,_,_,rfl⟩
 have n1:=z45 (T0:=T0) s c1 c2 c3 c4 hb
 have n2:=fun b2 b3 b4=>z44 (T0:=T0) s h0 b2 b3 b4 c1 c2 c3 c4 hb
 have n4:=fun D b2 b3 b4=>zvs (T0:=T0) s hs h0 D b2 b3 b4 c1 c2 c3 c4 hb
 refine ⟨⟨Tryz.f95,Tryz.func95,by decide,by rw [hb]; rfl⟩,fun w0 G F w vs hst hr => ?_⟩
 obtain ⟨v,rfl⟩ : ∃ v,vs = [v]:=List.length_eq_one_iff.1 hr.len
 have hv:=hr.1.eq
 subst hv
 refine calls_of_wp_defers Tryz.func95 hb ?_
 have hc : Con T0 ⟨18,[]⟩ w0 G F [(0,SA s)] [] { tmps:=[Value.string ⟨s.toArray⟩].toArray ++ Array.replicate (Tryz.f95.ntmps - [Value.string ⟨s.toArray⟩].toArray.size) undef,defers:=[] } w :=
  ⟨hst,uf (u:=.string ⟨s.toArray⟩) (by simp) (Rep.va _ _) zl7,by simp [Tryz.ntmps95],rfl⟩
 refine z2i (K1 s) n1 hc ?_
 rintro fr1 M1 G1 a1 w1 ⟨b2,b3,b4,k1,k2⟩ l1 hc1
 refine z2i (K2 s b2 b3 b4) (n2 b2 b3 b4) (hc1.weak k1 k2) ?_
 rintro fr2 M2 G2 a2 w2 ⟨k3,k4⟩ l2 hc2
 refine wp_seq (z43 s b2 b3 b4 c1 c2 c3 c4 hb (hc2.weak k3 k4) fun a3 hc3 => ?_)
 refine z_i (n4 [dN b2 b3 b4] b2 b3 b4) hc3 ?_
 have hinv : ∀ w,(invoke (.fn (.func 137) #[.pointer (some ⟨b2,0,none⟩),.pointer (some ⟨b3,0,none⟩),.pointer (some ⟨b4,0,none⟩)]) #[]).run Tryz.prog w = .ok (.enter 137 #[.pointer (some ⟨b2,0,none⟩),.pointer (some ⟨b3,0,none⟩),.pointer (some ⟨b4,0,none⟩)]) w:=fun w=>by
  have hcl : zk4 Tryz.prog 137:=⟨_,Tryz.func137,by decide,rfl⟩
  simp [invoke,zad hcl]
 rintro ex a4 w4 ⟨fr5,M4,G4,⟨k5,k6⟩,l4,hc4⟩
 have hfr:=k5 G4 _ hc4.fr
 have hdef : a4.defers = [dN b2 b3 b4]:=hc4.defers
 rcases k6 with ⟨rfl,c,t,hct,hsub⟩ | ⟨e,rfl,he,hce,hsub⟩
 ·have hst4:=hc4.st.sub (hsub.append (List.Sublist.refl F))
  show Leaves Tryz.prog Tryz.f95 a4.tmps _ a4.defers .returning w4
  rw [hdef]
  refine leaves_cons (by simp) (hinv w4) (z9h.mono ?_)
  rintro en u' w5 ⟨⟨v,rfl⟩,rfl,rfl⟩
  have hres : zjl Tryz.prog T0 Tryz.f95 (fr4 s b2 b3 b4) [zt_ b4 0,zt6 b3 t,zug b2 c] (zt [vi c,SA t,I 0]):=rl_
  obtain ⟨u,hu1,hu2⟩:=hres w0 G4 F a4.tmps w5 hst4 hfr
  rw [hct]
  exact ⟨u,hu1,.inl ⟨u,_,[],G4,rfl,⟨Sub.refl _,rfl⟩,hu2,l1.trans (l2.trans l4),hst4.sub (List.sublist_append_right _ _)⟩⟩
 ·have hst4:=hc4.st.sub (hsub.append (List.Sublist.refl F))
  have he23 : (e = 2 ∨ e = 3) ∧ zja s = nok e:=by
   rcases zas s h0 with ⟨c',l,t',_,h2,h3⟩ | ⟨h1,_⟩ | h1
   ·rw [h3] at hce; exact absurd hce.symm he
   ·rw [h1] at hce; simp only [nok] at hce; exact ⟨.inr hce.symm,by rw [h1,hce]⟩
   ·rw [h1] at hce; simp only [nok] at hce; exact ⟨.inl hce.symm,by rw [h1,hce]⟩
  show Leaves Tryz.prog Tryz.f95 a4.tmps _ a4.defers (.panicking (zxq e)) w4
  rw [hdef]
  refine leaves_cons (by simp) (hinv w4) ((z6b e he23.1 hst4).mono ?_)
  rintro en u' w5 ⟨⟨v,rfl⟩,rfl,G5,l5,hst5⟩
  have hres : zjl Tryz.prog T0 Tryz.f95 (fr4 s b2 b3 b4) [zt_ b4 e,zt6 b3 [],zug b2 (0,0,0,0)] (zt [vi (0,0,0,0),SA [],I e]):=rl_
  obtain ⟨u,hu1,hu2⟩:=hres w0 G5 F a4.tmps w5 hst5 (frOn.gmono l5 hfr)
  rw [he23.2]
  exact ⟨u,hu1,.inl ⟨u,_,[],G5,rfl,⟨Sub.refl _,rfl⟩,hu2,l1.trans (l2.trans (l4.trans l5)),hst5.sub (List.sublist_append_right _ _)⟩⟩
end
section
open Go Go.RowKit
set_option maxRecDepth 200000
def zyz : Nat → List UInt8 → List Cmd × List UInt8 × Int
 |0,s=>([],s,0)
 |n + 1,s=>if (xu s).2.2 = 0 then (if (zyz n (xu s).2.1).2.2 = 2 then ([],[],2) else ((xu s).1 :: (zyz n (xu s).2.1).1,(zyz n (xu s).2.1).2)) else if (xu s).2.2 = 2 then ([],[],2) else ([],s,0)
def y0 (s : List UInt8) : List Cmd × List UInt8 × Int:=zyz s.length s
def zy0 (o : List Cmd) (y : List Cmd × List UInt8 × Int) : List Cmd × List UInt8 × Int:=if y.2.2 = 2 then ([],[],2) else (o ++ y.1,y.2)
theorem zuz {c : Cmd} {l : List UInt8} (h : Shape c l) : 1 ≤ l.length:=by
 cases h <;> first | exact (zrg _).1 | (simp only [List.length_cons]; omega) | (unfold zib; (repeat' split) <;> simp)
theorem zvt {s : List UInt8} (h : (xu s).2.2 = 0) : ∃ l,Shape (xu s).1 l ∧ s = l ++ (xu s).2.1:=by
 by_cases h0 : s = []
 ·rw [xu,if_pos h0] at h; cases h
 ·rw [xu,if_neg h0] at h ⊢
  rcases zas s h0 with ⟨c,l,t,h1,h2,h3⟩ | ⟨h1,_⟩ | h1
  ·rw [h3]; exact ⟨l,h1,h2⟩
  ·rw [h1] at h; cases h
  ·rw [h1] at h; cases h
theorem zcv {s : List UInt8} (h : (xu s).2.2 = 0) : (xu s).2.1.length < s.length:=by
 obtain ⟨l,h1,h2⟩:=zvt h
 have:=zuz h1
 have e : s.length = l.length + (xu s).2.1.length:=by rw [← List.length_append,← h2]
 omega
theorem z0k (s : List UInt8) : (xu s).2.2 = 0 ∨ (xu s).2.2 = 2 ∨ (xu s).2.2 = 3 ∨ (xu s).2.2 = 6:=by
 by_cases h0 : s = []
 ·rw [xu,if_pos h0]; simp
 ·rw [xu,if_neg h0]
  rcases zas s h0 with ⟨c,l,t,h1,h2,h3⟩ | ⟨h1,_⟩ | h1
  ·rw [h3]; simp
  ·rw [h1]; simp [nok]
  ·rw [h1]; simp [nok]
theorem zdh : ∀ (n m : Nat) (s : List UInt8),s.length ≤ n → s.length ≤ m → zyz n s = zyz m s
 |0,0,s,_,_=>rfl
 |0,m + 1,s,h,_=>by
  have h0 : s = []:=List.length_eq_zero_iff.1 (by omega)
  subst h0; rfl
 |n + 1,0,s,_,h=>by
  have h0 : s = []:=List.length_eq_zero_iff.1 (by omega)
  subst h0; rfl
 |n + 1,m + 1,s,h1,h2=>by
  rw [zyz,zyz]
  by_cases he : (xu s).2.2 = 0
  ·have:=zcv he
   rw [if_pos he,if_pos he,zdh n m (xu s).2.1 (by omega) (by omega)]
  ·rw [if_neg he,if_neg he]
theorem zpi {s : List UInt8} (h : (xu s).2.2 = 0) : y0 s = zy0 [(xu s).1] (y0 (xu s).2.1):=by
 have hl:=zcv h
 rw [y0,zdh s.length (s.length + 1) s (Nat.le_refl _) (by omega),zyz,if_pos h,zdh s.length (xu s).2.1.length _ (by omega) (Nat.le_refl _)]
 rfl
theorem zh0 {s : List UInt8} (h : (xu s).2.2 = 2) : y0 s = ([],[],2):=by
 rw [y0,zdh s.length (s.length + 1) s (Nat.le_refl _) (by omega),zyz,if_neg (by rw [h]; decide),if_pos h]
theorem zk3 {s : List UInt8} (h : (xu s).2.2 ≠ 0) (h2 : (xu s).2.2 ≠ 2) : y0 s = ([],s,0):=by
 rw [y0,zdh s.length (s.length + 1) s (Nat.le_refl _) (by omega),zyz,if_neg h,if_neg h2]
theorem z2d (o p : List Cmd) (y : List Cmd × List UInt8 × Int) : zy0 o (zy0 p y) = zy0 (o ++ p) y:=by
 unfold zy0
 by_cases h : y.2.2 = 2
 ·rw [if_pos h,if_pos h,if_pos rfl]
 ·rw [if_neg h,if_neg h,if_neg h,List.append_assoc]
theorem zf0 (s : List UInt8) : (y0 s).2.2 = 0 ∨ y0 s = ([],[],2):=by
 generalize hn : s.length = n
 induction n using Nat.strongRecOn generalizing s with
 |ind n ih =>
  by_cases h : (xu s).2.2 = 0
  ·have hl:=zcv h
   rw [zpi h]
   rcases ih _ (by omega) (xu s).2.1 rfl with e | e
   ·left; rw [zy0,if_neg (by rw [e]; decide),e]
   ·right; rw [e]; rfl
  ·by_cases h2 : (xu s).2.2 = 2
   ·exact .inr (zh0 h2)
   ·left; rw [zk3 h h2]
theorem z2c (s : List UInt8) : zy0 [] (y0 s) = y0 s:=by
 rcases zf0 s with e | e
 ·rw [zy0,if_neg (by rw [e]; decide)]; rfl
 ·rw [e]; rfl
theorem zjq {α : Type} {T : Ty α} : Sub (vA (.slice none 0 0)) (slA T []):=fun _ _ h=>by
 rw [h.eq]; exact .of ⟨none,0,0,rfl,rfl,Nat.le_refl _,Nat.zero_le _,fun _=>rfl,fun h=>absurd rfl h⟩
variable {T0 : Gh} [TabU T0]
attribute [local irreducible] z_ zg AW AL AO QY qd zx rsA Opd xi vA gvA zt z0 slA jc ipA rpA EqK LnK IxK LdK FaK FdK
theorem zwz (s : List UInt8) (hs : s.length ≤ 4000000000) : AP Tryz.prog T0 34 [SA s] (zt [slA ws (y0 s).1,SA (y0 s).2.1,I (y0 s).2.2]):=by
 have c1 : True:=trivial
 refine za Tryz.func34 rfl (by decide) Tryz.ntmps34 rfl ?_
 repeat' (first
 |refine z_a ?_ | (refine zb ?_ ?_ <;> intro hb <;> try exact no_) | (refine sx_ ?_ <;> intro bb) | (refine su_ ?_ <;> intro u hu1 hu2) | fail)
 refine zrx ws 35 ?_
 refine z14 5 (fun y : List UInt8 × List Cmd=>[(0,SA y.1)]) (fun y=>y.2) (fun y=>y.1.length + y.2.length ≤ s.length ∧ zy0 y.2 (y0 y.1) = y0 s) (fun y=>y.1.length) (s,[]) ⟨by simp,z2c s⟩ rfl ?_
 rintro ⟨q,out⟩ u ⟨i1,i2⟩ hu1 hu2
 simp only at i1 i2 ⊢
 clear c1
 have c1:=zs4 (T0:=T0) q (by omega)
 have k1:=fun h=>zpi (s:=q) h
 have k2:=fun h=>zh0 (s:=q) h
 have k3:=fun h h2=>zk3 (s:=q) h h2
 have k4:=fun h=>zcv (s:=q) h
 have ke:=z0k q
 obtain ⟨⟨c,t,e⟩,hx⟩ : ∃ x,x = xu q:=⟨_,rfl⟩
 rw [← hx] at c1 k1 k2 k3 k4 ke
 simp only at c1 k1 k2 k3 k4 ke
 clear hx
 by_cases he : e = 0
 ·subst he
  have k1:=k1 rfl
  have k4:=k4 rfl
  rw [k1,z2d] at i2
  clear k2 k3 ke k1
  repeat' (first
  |refine z_a ?_ | (refine zb ?_ ?_ <;> intro hb <;> try exact no_) | (refine sx_ ?_ <;> intro bb) | (refine su_ ?_ <;> intro u hu1 hu2) | fail)
  all_goals first | (exfalso; omega) | exact ⟨(t,out ++ [c]),_,⟨by simp only [List.length_append,List.length_singleton]; omega,i2⟩,by simp only; omega,wx_,sl_⟩
 ·apply zt2 0 rfl
  case hz=>simp only [List.cons_append,List.nil_append]; repeat' (first | exact zwh | apply zqw | exact zg1 | exact zkc)
  by_cases h2 : e = 2
  ·subst h2
   rw [k2 rfl] at i2
   have hr : y0 s = ([],[],2):=by rw [← i2]; rfl
   rw [hr]
   repeat' (first
   |refine z_a ?_ | (refine zb ?_ ?_ <;> intro hb <;> try exact no_) | (refine sx_ ?_ <;> intro bb) | (refine su_ ?_ <;> intro u hu1 hu2) | fail)
   all_goals first | (exfalso; omega) | exact ⟨_,[],rl_,List.nil_sublist _,ka (qb zjq (qb (Sub.refl _) (qb (Sub.refl _) vj))),rfl⟩
  ·rw [k3 he h2] at i2
   have hr : y0 s = (out,q,0):=by rw [← i2]; simp [zy0]
   rw [hr]
   repeat' (first
   |refine z_a ?_ | (refine zb ?_ ?_ <;> intro hb <;> try exact no_) | (refine sx_ ?_ <;> intro bb) | (refine su_ ?_ <;> intro u hu1 hu2) | fail)
   all_goals first | (exfalso; omega) | exact ⟨_,[],rl_,List.nil_sublist _,Sub.refl _,rfl⟩
end
section
open Go Go.RowKit
set_option maxRecDepth 100000
theorem zt3 (s : List UInt8) (h : (y0 s).2.2 = 0) : s.length = qs (y0 s).1 + (y0 s).2.1.length ∧ (∀ c ∈ (y0 s).1,z9 c = true) ∧ s = ((y0 s).1.flatMap xy) ++ (y0 s).2.1 ∧ (((y0 s).2.1 = [] ∧ (xu (y0 s).2.1).2.2 = 6) ∨ (z2h (y0 s).2.1 ∧ (xu (y0 s).2.1).2.2 = 3)):=by
 generalize hn : s.length = n
 induction n using Nat.strongRecOn generalizing s with
 |ind n ih =>
  by_cases h1 : (xu s).2.2 = 0
  ·have hl:=zcv h1
   have e1:=zpi h1
   rcases zf0 (xu s).2.1 with k | k
   ·have e3 : y0 s = ((xu s).1 :: (y0 (xu s).2.1).1,(y0 (xu s).2.1).2):=by rw [e1,zy0,if_neg (by rw [k]; decide)]; rfl
    obtain ⟨j1,j2,j3,j4⟩:=ih _ (by omega) (xu s).2.1 k rfl
    obtain ⟨l,s1,s2⟩:=zvt h1
    obtain ⟨s3,s4⟩:=zzv s1
    rw [e3]
    refine ⟨?_, ?_, ?_,j4⟩
    ·have e4 : xk (xu s).1 = l.length:=by rw [xk,xm,if_pos s3,s4]
     have e5 : s.length = l.length + (xu s).2.1.length:=by rw [← List.length_append,← s2]
     simp only [qs,List.map_cons,List.sum_cons] at j1 ⊢; omega
    ·intro c hc
     rcases List.mem_cons.1 hc with rfl | hc
     ·exact s3
     ·exact j2 c hc
    ·rw [List.flatMap_cons,s4,List.append_assoc,← j3]; exact s2
   ·rw [e1,k] at h; cases h
  ·by_cases h2 : (xu s).2.2 = 2
   ·rw [zh0 h2] at h; cases h
   ·have e1:=zk3 h1 h2
    rw [e1]
    refine ⟨by simp [qs]; exact hn.symm,fun c hc=>(by cases hc),by simp, ?_⟩
    by_cases h0 : s = []
    ·subst h0; exact .inl ⟨rfl,rfl⟩
    ·right
     rcases zas s h0 with ⟨c,l,t,k1,k2,k3⟩ | ⟨k1,k2⟩ | k1
     ·exact absurd (by rw [xu,if_neg h0,k3]) h1
     ·exact ⟨k2,by rw [xu,if_neg h0,k1]; rfl⟩
     ·exact absurd (by rw [xu,if_neg h0,k1]; rfl) h2
theorem z2b (s : List UInt8) : (y0 s).1.length ≤ s.length:=by
 rcases zf0 s with h | h
 ·obtain ⟨h1,h2,h3,_⟩:=zt3 s h
  have : ∀ l : List Cmd,(∀ c ∈ l,z9 c = true) → l.length ≤ qs l:=fun l=>by
   induction l with
   |nil=>intro _; simp [qs]
   |cons c l ih =>
    intro h
    have h4:=(zba (h c (by simp))).1
    have h5 : xk c = (xy c).length:=by rw [xk,xm,if_pos (h c (by simp))]
    have:=ih fun d hd=>h d (by simp [hd])
    simp only [qs,List.map_cons,List.sum_cons,List.length_cons] at this ⊢; omega
  have:=this _ h2
  omega
 ·rw [h]; simp
end
end Go.Proofs.YtgfmjmfphmjdkaaGreatDoor
