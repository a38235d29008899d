/- Several texts in one: see the comment ahead of each. No condition. -/
import Derived.Test.YtgfmjmfphmjdkaaGreatDoorR1KP
import Derived.Test.YtgfmjmfphmjdkaaGreatDoorR1AW
import Derived.Test.YtgfmjmfphmjdkaaGreatDoorR1O3
set_option linter.unusedSimpArgs false
set_option linter.unusedVariables false
set_option linter.unusedSectionVars false
namespace Go.Proofs.YtgfmjmfphmjdkaaGreatDoor
set_option maxHeartbeats 4000000
section
open Go Go.RowKit
theorem zlq (c : Cmd) : w_ [c] = zbj c:=by simp [w_]
end
section
open Go Go.RowKit
variable {T0 : Gh}
set_option maxRecDepth 100000
theorem zpv : Sub (vA (.slice none 0 0)) (slA ws []):=fun _ _ h=>by
 rw [h.eq]; exact .of ⟨none,0,0,rfl,rfl,Nat.le_refl _,Nat.zero_le _,fun _=>rfl,fun h=>absurd rfl h⟩
theorem zjr {r s p : Int} {o : Bool} : Sub (z0 [I r,vA (.slice none 0 0),I s,I p,B o]) (x_ r [] s p o):=vx (qb (Sub.refl _) (qb zpv (qb (Sub.refl _) (qb (Sub.refl _) (qb (Sub.refl _) vj)))))
def z6y (room : Int) : AV:=if 8 ≤ room ∧ room ≤ 48 then zt [x_ room [] 0 0 false,I 0] else zt [x_ 0 [] 0 0 false,I 4]
attribute [local irreducible] z_ zg AW AL AO QY qd zx rsA Opd xi vA gvA zt z0 slA jc ipA rpA EqK LnK IxK LdK FaK FdK
theorem zhd (room : Int) : AP Tryz.prog T0 83 [I room] (z6y room):=by
 refine za Tryz.func83 rfl (by decide) Tryz.ntmps83 rfl ?_
 repeat' (first
 |refine g6_ ?_ | (refine zb ?_ ?_ <;> intro hb <;> try exact no_) | (refine sx_ ?_ <;> intro bb) | (refine su_ ?_ <;> intro u hu1 hu2) | fail)
 ·refine ⟨_,[],rs_,List.nil_sublist _, ?_,rfl⟩
  rw [z6y,if_neg (by omega)]; exact ka (qb zjr (qb (Sub.refl _) vj))
 ·refine ⟨_,[],rs_,List.nil_sublist _, ?_,rfl⟩
  rw [z6y,if_pos (by omega)]; exact ka (qb zjr (qb (Sub.refl _) vj))
theorem zhe (l : List Cmd) (hl : l.length ≤ 100000) : AP Tryz.prog T0 94 [slA ws l] (SA (ja l)):=by
 refine za Tryz.func94 rfl (by decide) Tryz.ntmps94 rfl ?_
 repeat' (first
 |refine g7_ ?_ | (refine zb ?_ ?_ <;> intro hb <;> try exact no_) | (refine sx_ ?_ <;> intro bb) | (refine su_ ?_ <;> intro u hu1 hu2) | fail)
 refine yk (fun k : Nat=>[(3,SA (ja (l.take k))),(10,I k)]) (fun k=>k ≤ l.length) (fun k=>l.length - k) 0 (Nat.zero_le _) ?_
 rintro k i1
 have hle:=jy (l.take k)
 rw [List.length_take,← jt] at hle
 by_cases hlt : k < l.length
 ·have hn:=zhs l k hlt
  have h8 : (xm l[k]).1.length ≤ 8:=wo l[k]
  repeat' (first
  |refine g7_ ?_ | (refine zb ?_ ?_ <;> intro hb <;> try exact no_) | (refine sx_ ?_ <;> intro bb) | (refine su_ ?_ <;> intro u hu1 hu2) | fail)
  exact ⟨k + 1,by omega,by omega,by rw [hn]; exact wx_,sl_⟩
 ·repeat' (first
  |refine g7_ ?_ | (refine zb ?_ ?_ <;> intro hb <;> try exact no_) | (refine sx_ ?_ <;> intro bb) | (refine su_ ?_ <;> intro u hu1 hu2) | fail)
  exact ⟨_,[],rs_,List.nil_sublist _,Sub.eq (by rw [List.take_of_length_le (by omega)]),rfl⟩
theorem zet (l : List Cmd) (hl : l.length ≤ 100000) : AP Tryz.prog T0 139 [slA ws l] (SA (ja l)):=by
 refine za Tryz.func139 rfl (by decide) Tryz.ntmps139 rfl ?_
 repeat' (first
 |refine g7_ ?_ | (refine zb ?_ ?_ <;> intro hb <;> try exact no_) | (refine sx_ ?_ <;> intro bb) | (refine su_ ?_ <;> intro u hu1 hu2) | fail)
 refine yk (fun k : Nat=>[(3,SA (ja (l.take k))),(4,I k)]) (fun k=>k ≤ l.length) (fun k=>l.length - k) 0 (Nat.zero_le _) ?_
 rintro k i1
 have hle:=jy (l.take k)
 rw [List.length_take,← jt] at hle
 by_cases hlt : k < l.length
 ·have hn:=zhs l k hlt
  have h8 : (xm l[k]).1.length ≤ 8:=wo l[k]
  repeat' (first
  |refine g7_ ?_ | (refine zb ?_ ?_ <;> intro hb <;> try exact no_) | (refine sx_ ?_ <;> intro bb) | (refine su_ ?_ <;> intro u hu1 hu2) | fail)
  exact ⟨k + 1,by omega,by omega,by rw [hn]; exact wx_,sl_⟩
 ·repeat' (first
  |refine g7_ ?_ | (refine zb ?_ ?_ <;> intro hb <;> try exact no_) | (refine sx_ ?_ <;> intro bb) | (refine su_ ?_ <;> intro u hu1 hu2) | fail)
  exact ⟨_,[],rs_,List.nil_sublist _,Sub.eq (by rw [List.take_of_length_le (by omega)]),rfl⟩
end
section
open Go Go.RowKit
variable {T0 : Gh}
set_option maxRecDepth 100000
attribute [local irreducible] z_ zg AW AL AO QY qd zx rsA Opd xi vA gvA zt z0 slA jc ipA rpA EqK LnK IxK LdK FaK FdK
theorem uq (room : Int) (l : List Cmd) (sent pad : Int) (off : Bool) (hl : l.length ≤ 90000) : AP Tryz.prog T0 88 [x_ room l sent pad off] (B (okL room l sent pad)):=by
 by_cases hr : 8 ≤ room ∧ room ≤ 48
 ·have c1 : AP Tryz.prog T0 83 [I room] (zt [x_ room [] 0 0 false,I 0]):=(zhd room).to (by rw [z6y,if_pos hr])
  have b1:=jy l
  refine za Tryz.func88 rfl (by decide) Tryz.ntmps88 rfl ?_
  repeat' (first
  |refine z23 ?_ | (refine zb ?_ ?_ <;> intro hb <;> try exact no_) | (refine sx_ ?_ <;> intro bb) | (refine su_ ?_ <;> intro u hu1 hu2) | fail)
  ·exact ⟨_,[],rs_,List.nil_sublist _,Sub.eq (congrArg B (znz (by omega)).symm),rfl⟩
  refine yk (fun k : Nat=>[(33,I k)]) (fun k=>k ≤ l.length ∧ (l.take k).all z9 = true) (fun k=>l.length - k) 0 ⟨Nat.zero_le _,rfl⟩ ?_
  rintro k ⟨i1,i2⟩
  by_cases hlt : k < l.length
  ·have hn:=zr1 z9 l k hlt
   repeat' (first
   |refine z23 ?_ | (refine zb ?_ ?_ <;> intro hb <;> try exact no_) | (refine sx_ ?_ <;> intro bb) | (refine su_ ?_ <;> intro u hu1 hu2) | fail)
   ·exact ⟨_,[],rs_,List.nil_sublist _,Sub.eq (congrArg B (zvm (z3y hlt hb)).symm),rfl⟩
   ·exact ⟨k + 1,⟨by omega,by rw [hn,i2,hb]; rfl⟩,by omega,wx_,sl_⟩
  ·rw [List.take_of_length_le (by omega)] at i2
   have b2:=fun h : 0 < l.length=>jy [l[0]]
   rcases Nat.eq_zero_or_pos l.length with h0 | h0
   ·repeat' (first
    |refine z23 ?_ | (refine zb ?_ ?_ <;> intro hb <;> try exact no_) | (refine sx_ ?_ <;> intro bb) | (refine su_ ?_ <;> intro u hu1 hu2) | fail)
    refine ⟨_,[],rs_,List.nil_sublist _,Sub.eq (congrArg B ?_),rfl⟩
    obtain rfl : l = []:=List.eq_nil_of_length_eq_zero (by omega)
    rw [Bool.eq_iff_iff,zd1,decide_eq_true_eq]; omega
   ·have b3:=b2 h0
    simp only [List.length_cons,List.length_nil] at b3
    repeat' (first
    |refine z23 ?_ | (refine zb ?_ ?_ <;> intro hb <;> try exact no_) | (refine sx_ ?_ <;> intro bb) | (refine su_ ?_ <;> intro u hu1 hu2) | fail)
    refine ⟨_,[],rs_,List.nil_sublist _,Sub.eq (congrArg B ?_),rfl⟩
    cases l with
    |nil=>simp at h0
    |cons c l =>
     rw [Bool.eq_iff_iff,zcs,i2]
     have e : (qs [(c :: l)[0]]) = xk c:=zaq _
     simp only [Bool.and_eq_true,decide_eq_true_eq,e,true_and]
     omega
 ·have c1 : AP Tryz.prog T0 83 [I room] (zt [x_ 0 [] 0 0 false,I 4]):=(zhd room).to (by rw [z6y,if_neg hr])
  refine za Tryz.func88 rfl (by decide) Tryz.ntmps88 rfl ?_
  repeat' (first
  |refine z23 ?_ | (refine zb ?_ ?_ <;> intro hb <;> try exact no_) | (refine sx_ ?_ <;> intro bb) | (refine su_ ?_ <;> intro u hu1 hu2) | fail)
  exact ⟨_,[],rs_,List.nil_sublist _,Sub.eq (congrArg B (znz (by omega)).symm),rfl⟩
theorem yc (room : Int) (l : List Cmd) (sent pad : Int) (off : Bool) (hl : l.length ≤ 90000) : AP Tryz.prog T0 90 [x_ room l sent pad off] (B (okL room l sent pad)):=by
 have c1 : True:=trivial
 have b1:=jy l
 refine za Tryz.func90 rfl (by decide) Tryz.ntmps90 rfl ?_
 repeat' (first
 |refine z23 ?_ | (refine zb ?_ ?_ <;> intro hb <;> try exact no_) | (refine sx_ ?_ <;> intro bb) | (refine su_ ?_ <;> intro u hu1 hu2) | fail)
 ·exact ⟨_,[],rs_,List.nil_sublist _,Sub.eq (congrArg B (znz (by omega)).symm),rfl⟩
 ·refine ⟨_,[],rs_,List.nil_sublist _,Sub.eq (congrArg B ?_),rfl⟩
  obtain rfl : l = []:=List.eq_nil_of_length_eq_zero (by omega)
  rw [Bool.eq_iff_iff,zd1,decide_eq_true_eq]; omega
 refine yk (fun k : Nat=>[(3,I k)]) (fun k=>k ≤ l.length ∧ (l.take k).all z9 = true) (fun k=>l.length - k) 0 ⟨Nat.zero_le _,rfl⟩ ?_
 rintro k ⟨i1,i2⟩
 by_cases hlt : k < l.length
 ·have hn:=zr1 z9 l k hlt
  repeat' (first
  |refine z23 ?_ | (refine zb ?_ ?_ <;> intro hb <;> try exact no_) | (refine sx_ ?_ <;> intro bb) | (refine su_ ?_ <;> intro u hu1 hu2) | fail)
  ·exact ⟨_,[],rs_,List.nil_sublist _,Sub.eq (congrArg B (zvm (z3y hlt hb)).symm),rfl⟩
  ·exact ⟨k + 1,⟨by omega,by rw [hn,i2,hb]; rfl⟩,by omega,wx_,sl_⟩
 ·rw [List.take_of_length_le (by omega)] at i2
  have b2:=jy (List.take (1 - 0) (List.drop 0 l))
  have b3 : (List.take (1 - 0) (List.drop 0 l)).length ≤ 1:=by simp; omega
  repeat' (first
  |refine z23 ?_ | (refine zb ?_ ?_ <;> intro hb <;> try exact no_) | (refine sx_ ?_ <;> intro bb) | (refine su_ ?_ <;> intro u hu1 hu2) | fail)
  refine ⟨_,[],rs_,List.nil_sublist _,Sub.eq (congrArg B ?_),rfl⟩
  cases l with
  |nil=>simp at *
  |cons c l =>
   rw [Bool.eq_iff_iff,zcs,i2]
   have e : qs (List.take (1 - 0) (List.drop 0 (c :: l))) = xk c:=zaq _
   simp only [Bool.and_eq_true,decide_eq_true_eq,e,true_and]
   omega
theorem zoo (r r' : Int) (l l' : List Cmd) (s s' p p' : Int) (o o' : Bool) (hl : l.length ≤ 90000) (hl' : l'.length ≤ 90000) : AP Tryz.prog T0 87 [x_ r l s p o,x_ r' l' s' p' o'] (B (decide ((r,l,s,p,o) = (r',l',s',p',o')))):=by
 refine za Tryz.func87 rfl (by decide) Tryz.ntmps87 rfl ?_
 repeat' (first
 |refine sa_ ?_ | refine zw ?_ (c:=by first | exact zg_ _ _ (by omega) (by omega) | fail) | refine x5 ?_ | refine zk ?_ (c:=by intro hk hk2; first | exact zg_ _ _ (by omega) (by omega) | fail) | refine sw_ ?_ | (refine zb ?_ ?_ <;> intro hb <;> try exact no_) | (refine sx_ ?_ <;> intro bb) | (refine su_ ?_ <;> intro u hu1 hu2) | fail)
 refine ⟨_,[],rs_,List.nil_sublist _,Sub.eq (congrArg B ?_),rfl⟩
 rw [Bool.eq_iff_iff]; simp only [Bool.and_eq_true,decide_eq_true_eq,Prod.mk.injEq,beq_iff_eq]
 constructor <;> (intro h; simp_all)
theorem zs7 (room : Int) (l : List Cmd) (sent pad : Int) (off : Bool) (hl : l.length ≤ 90000) : AF Tryz.prog T0 169 [x_ room l sent pad off] [] (fun A M' => ∃ u,A = z0 [I room,vA u,I sent,I pad,B off] ∧ M' = [zx ws 35 u l]):=by
 refine za Tryz.func169 rfl (by decide) Tryz.ntmps169 rfl ?_
 repeat' (first
 |refine g6_ ?_ | (refine zb ?_ ?_ <;> intro hb <;> try exact no_) | (refine sx_ ?_ <;> intro bb) | (refine su_ ?_ <;> intro u hu1 hu2) | fail)
 exact ⟨_,[zx ws 35 _ ([] ++ l)],rs_,sl_,_,rfl,by rw [List.nil_append]⟩
end
section
open Go Go.RowKit
variable {T0 : Gh}
set_option maxRecDepth 100000
def u3 (room : Int) (l : List Cmd) (sent pad : Int) (off : Bool) (c : Cmd) : AV :=
 if okL room l sent pad = true ∧ z9 c = true then (if room < qs l - sent + xk c then zt [x_ 0 [] 0 0 false,I 5] else zt [x_ room (l ++ [c]) sent pad off,I 0]) else zt [x_ 0 [] 0 0 false,I 1]
theorem y6 {r s p e : Int} {o : Bool} : Sub (zt [z0 [I r,vA (.slice none 0 0),I s,I p,B o],I e]) (zt [x_ r [] s p o,I e]):=ka (qb zjr (qb (Sub.refl _) vj))
theorem vo {α : Type} (l : List α) (n : Nat) : (l.drop n).take (l.length - n) = l.drop n:=List.take_of_length_le (by rw [List.length_drop]; omega)
theorem zva {room sent pad : Int} {l : List Cmd} (h : okL room l sent pad = true) : ((zj1 room l sent pad).length : Int) = qs l - sent:=by
 have f:=qv h
 rw [zj1,if_pos h,List.length_drop,jt]; omega
attribute [local irreducible] z_ zg AW AL AO QY qd zx rsA Opd xi vA gvA zt z0 slA jc ipA rpA EqK LnK IxK LdK FaK FdK
theorem zth (room : Int) (l : List Cmd) (sent pad : Int) (off : Bool) (hl : l.length ≤ 90000) : AP Tryz.prog T0 33 [x_ room l sent pad off] (SA (zj1 room l sent pad)):=by
 have c1:=uq (T0:=T0) room l sent pad off hl
 have c2:=zhe (T0:=T0) l (by omega)
 by_cases hk : okL room l sent pad = true
 ·rw [hk] at c1
  obtain ⟨hr,ha,h1,h2⟩:=qv hk
  obtain ⟨n,rfl⟩:=Int.eq_ofNat_of_zero_le hr.2.2.2.2
  have e:=jt l
  refine za Tryz.func33 rfl (by decide) Tryz.ntmps33 rfl ?_
  repeat' (first
  |refine zbz ?_ | (refine zb ?_ ?_ <;> intro hb <;> try exact no_) | (refine sx_ ?_ <;> intro bb) | (refine su_ ?_ <;> intro u hu1 hu2) | fail)
  exact ⟨_,[],rs_,List.nil_sublist _,Sub.eq (by rw [zj1,if_pos hk,vo]; rfl),rfl⟩
 ·have hk2 : okL room l sent pad = false:=by simpa using hk
  rw [hk2] at c1
  refine za Tryz.func33 rfl (by decide) Tryz.ntmps33 rfl ?_
  repeat' (first
  |refine zbz ?_ | (refine zb ?_ ?_ <;> intro hb <;> try exact no_) | (refine sx_ ?_ <;> intro bb) | (refine su_ ?_ <;> intro u hu1 hu2) | fail)
  exact ⟨_,[],rs_,List.nil_sublist _,Sub.eq (by rw [zj1,if_neg hk]),rfl⟩
theorem zop (room : Int) (l : List Cmd) (sent pad : Int) (off : Bool) (hl : l.length ≤ 90000) : AP Tryz.prog T0 168 [x_ room l sent pad off] (SA (zj1 room l sent pad)):=by
 have c1:=yc (T0:=T0) room l sent pad off hl
 have c2:=zet (T0:=T0) l (by omega)
 by_cases hk : okL room l sent pad = true
 ·rw [hk] at c1
  obtain ⟨hr,ha,h1,h2⟩:=qv hk
  obtain ⟨n,rfl⟩:=Int.eq_ofNat_of_zero_le hr.2.2.2.2
  have e:=jt l
  refine za Tryz.func168 rfl (by decide) Tryz.ntmps168 rfl ?_
  repeat' (first
  |refine zbz ?_ | (refine zb ?_ ?_ <;> intro hb <;> try exact no_) | (refine sx_ ?_ <;> intro bb) | (refine su_ ?_ <;> intro u hu1 hu2) | fail)
  exact ⟨_,[],rs_,List.nil_sublist _,Sub.eq (by rw [zj1,if_pos hk,vo]; rfl),rfl⟩
 ·have hk2 : okL room l sent pad = false:=by simpa using hk
  rw [hk2] at c1
  refine za Tryz.func168 rfl (by decide) Tryz.ntmps168 rfl ?_
  repeat' (first
  |refine zbz ?_ | (refine zb ?_ ?_ <;> intro hb <;> try exact no_) | (refine sx_ ?_ <;> intro bb) | (refine su_ ?_ <;> intro u hu1 hu2) | fail)
  exact ⟨_,[],rs_,List.nil_sublist _,Sub.eq (by rw [zj1,if_neg hk]),rfl⟩
theorem zhc (room : Int) (l : List Cmd) (sent pad : Int) (off : Bool) (c : Cmd) (hl : l.length ≤ 90000) : AP Tryz.prog T0 131 [x_ room l sent pad off,vi c] (u3 room l sent pad off c):=by
 have c1:=uq (T0:=T0) room l sent pad off hl
 have c2:=wt (T0:=T0) c
 have c3 : True:=trivial
 have b1:=jy l
 have b2:=jy [c]
 have e1 : qs [c] = xk c:=zaq c
 simp only [List.length_cons,List.length_nil] at b2
 refine za Tryz.func131 rfl (by decide) Tryz.ntmps131 rfl ?_
 by_cases hk : okL room l sent pad = true
 ·rw [hk] at c1
  obtain ⟨hr,ha,h1,h2⟩:=qv hk
  by_cases hc : z9 c = true
  ·rw [hc] at c2
   rw [u3,if_pos ⟨hk,hc⟩]
   repeat' (first
   |refine qas ?_ | (refine zb ?_ ?_ <;> intro hb <;> try exact no_) | (refine sx_ ?_ <;> intro bb) | (refine su_ ?_ <;> intro u hu1 hu2) | fail)
   ·exact ⟨_,[],rs_,List.nil_sublist _,by rw [if_pos (by omega)]; exact y6,rfl⟩
   ·refine ⟨_,[],rs_,List.nil_sublist _, ?_,rfl⟩
    rw [if_neg (by omega)]
    exact Sub.eq (by rw [show (List.drop 0 l).take (l.length - 0) = l by simp])
  ·have hc2 : z9 c = false:=by simpa using hc
   rw [hc2] at c2
   rw [u3,if_neg (fun h=>hc h.2)]
   repeat' (first
   |refine qas ?_ | (refine zb ?_ ?_ <;> intro hb <;> try exact no_) | (refine sx_ ?_ <;> intro bb) | (refine su_ ?_ <;> intro u hu1 hu2) | fail)
   exact ⟨_,[],rs_,List.nil_sublist _,y6,rfl⟩
 ·have hk2 : okL room l sent pad = false:=by simpa using hk
  rw [hk2] at c1
  rw [u3,if_neg (fun h=>hk h.1)]
  repeat' (first
  |refine qas ?_ | (refine zb ?_ ?_ <;> intro hb <;> try exact no_) | (refine sx_ ?_ <;> intro bb) | (refine su_ ?_ <;> intro u hu1 hu2) | fail)
  exact ⟨_,[],rs_,List.nil_sublist _,y6,rfl⟩
theorem zes (room : Int) (l : List Cmd) (sent pad : Int) (off : Bool) (c : Cmd) (hl : l.length ≤ 90000) : AP Tryz.prog T0 134 [x_ room l sent pad off,vi c] (u3 room l sent pad off c):=by
 have c1:=yc (T0:=T0) room l sent pad off hl
 have c2:=js (T0:=T0) c
 have c3:=zop (T0:=T0) room l sent pad off hl
 have co:=zs7 (T0:=T0) room l sent pad off hl
 have b1:=jy l
 have b2:=jy [c]
 have e1 : qs [c] = xk c:=zaq c
 simp only [List.length_cons,List.length_nil] at b2
 by_cases hk : okL room l sent pad = true
 ·rw [hk] at c1
  obtain ⟨hr,ha,h1,h2⟩:=qv hk
  have e2:=zva hk
  by_cases hc : z9 c = true
  ·rw [hc] at c2
   rw [u3,if_pos ⟨hk,hc⟩]
   by_cases hf : room < qs l - sent + xk c
   ·rw [if_pos hf]
    refine za Tryz.func134 rfl (by decide) Tryz.ntmps134 rfl ?_
    repeat' (first
    |(apply zj rfl rfl rfl rfl (c:=co)
      case ha=>exact os_
      rintro _ _ ⟨u,rfl,rfl⟩; refine zu (List.Mem.head _) fun hu1 hu2 => ?_)
    |refine z95 ?_ | (refine zb ?_ ?_ <;> intro hb <;> try exact no_) | (refine sx_ ?_ <;> intro bb) | (refine su_ ?_ <;> intro u hu1 hu2) | fail)
    exact ⟨_,[],rs_,List.nil_sublist _,y6,rfl⟩
   ·rw [if_neg hf]
    refine AF.frz1 (T:=ws) (e:=35) (l:=l ++ [c]) (F:=fun u=>zt [z0 [I room,vA u,I sent,I pad,B off],I 0]) ?_ ze8
    refine za Tryz.func134 rfl (by decide) Tryz.ntmps134 rfl ?_
    repeat' (first
    |(apply zj rfl rfl rfl rfl (c:=co)
      case ha=>exact os_
      rintro _ _ ⟨u,rfl,rfl⟩; refine zu (List.Mem.head _) fun hu1 hu2 => ?_)
    |refine z95 ?_ | (refine zb ?_ ?_ <;> intro hb <;> try exact no_) | (refine sx_ ?_ <;> intro bb) | (refine su_ ?_ <;> intro u hu1 hu2) | fail)
    exact ⟨_,[zx ws 35 _ (l ++ [c])],rs_,sl_,_,rfl,rfl⟩
  ·have hc2 : z9 c = false:=by simpa using hc
   rw [hc2] at c2
   rw [u3,if_neg (fun h=>hc h.2)]
   refine za Tryz.func134 rfl (by decide) Tryz.ntmps134 rfl ?_
   repeat' (first
   |(apply zj rfl rfl rfl rfl (c:=co)
     case ha=>exact os_
     rintro _ _ ⟨u,rfl,rfl⟩; refine zu (List.Mem.head _) fun hu1 hu2 => ?_)
   |refine z95 ?_ | (refine zb ?_ ?_ <;> intro hb <;> try exact no_) | (refine sx_ ?_ <;> intro bb) | (refine su_ ?_ <;> intro u hu1 hu2) | fail)
   exact ⟨_,[],rs_,List.nil_sublist _,y6,rfl⟩
 ·have hk2 : okL room l sent pad = false:=by simpa using hk
  rw [hk2] at c1
  rw [u3,if_neg (fun h=>hk h.1)]
  refine za Tryz.func134 rfl (by decide) Tryz.ntmps134 rfl ?_
  repeat' (first
  |(apply zj rfl rfl rfl rfl (c:=co)
    case ha=>exact os_
    rintro _ _ ⟨u,rfl,rfl⟩; refine zu (List.Mem.head _) fun hu1 hu2 => ?_)
  |refine z95 ?_ | (refine zb ?_ ?_ <;> intro hb <;> try exact no_) | (refine sx_ ?_ <;> intro bb) | (refine su_ ?_ <;> intro u hu1 hu2) | fail)
  exact ⟨_,[],rs_,List.nil_sublist _,y6,rfl⟩
end
section
open Go Go.RowKit
variable {T0 : Gh}
set_option maxRecDepth 100000
def zju (room : Int) (l : List Cmd) (sent pad : Int) (off : Bool) (g : Int) : AV :=
 if okL room l sent pad = true ∧ off = false then zt [SA (x4 l sent.toNat pad g).1,x_ room (x4 l sent.toNat pad g).2.1 ((x4 l sent.toNat pad g).2.2.1 : Nat) (x4 l sent.toNat pad g).2.2.2 off] else zt [SA [],x_ room l sent pad off]
theorem zu0 {l : List Cmd} {s : Nat} {p g : Int} (h : okS l s) (h0 : 0 ≤ p) (h1 : p ≤ 2) : (x4 l s p g).1.length ≤ qs l:=by
 have h2:=(zjt l s p g h h0 h1).2.2.1
 have h3:=congrArg List.length h2
 rw [List.length_append,List.length_drop,List.length_drop,jt,jt] at h3; omega
structure SendI (T : List UInt8 × List Cmd × Nat × Int) (L : Nat) (out : List UInt8) (l : List Cmd) (s : Nat) (p g : Int) : Prop where
 ok : okS l s
 p0 : 0 ≤ p
 p2 : p ≤ 2
 len : l.length ≤ L
 out : out ++ (x4 l s p g).1 = T.1
 rest : (x4 l s p g).2 = T.2
theorem SendI.stop {T : List UInt8 × List Cmd × Nat × Int} {L : Nat} {out : List UInt8} {l : List Cmd} {s : Nat} {p g : Int} (h : SendI T L out l s p g) (k : l = [] ∨ p ≠ 0 ∨ g ≤ 0) : T = (out,l,s,p):=by
 have a:=h.out; have b:=h.rest
 rw [ve k] at a b
 obtain ⟨t,u⟩:=T
 simp at a b; rw [← a,← b]
theorem SendI.part {T : List UInt8 × List Cmd × Nat × Int} {L : Nat} {out : List UInt8} {c : Cmd} {l : List Cmd} {s : Nat} {g : Nat} (h : SendI T L out (c :: l) s 0 g) (h1 : 0 < g) (k : g < xk c - s) : T = (out ++ ((xm c).1.drop s).take g,c :: l,s + g,0):=by
 have a:=h.out; have b:=h.rest
 rw [y7 (by omega) (by omega)] at a b
 obtain ⟨t,u⟩:=T
 simp at a b; rw [← a,← b]
theorem SendI.whole {T : List UInt8 × List Cmd × Nat × Int} {L : Nat} {out : List UInt8} {c : Cmd} {l : List Cmd} {s : Nat} {g : Int} (h : SendI T L out (c :: l) s 0 g) (h1 : 0 < g) (k : ((xk c - s : Nat) : Int) ≤ g) : SendI T L (out ++ (xm c).1.drop s) l 0 (zbj c) (g - ((xk c - s : Nat) : Int)):=by
 have a:=h.out; have b:=h.rest
 rw [vy h1 k] at a b
 exact ⟨zj5 h.ok,(zd0 c).1,(zd0 c).2,by have:=h.len; simp at this; omega,by rw [List.append_assoc]; exact a,b⟩
theorem SendI.byte {T : List UInt8 × List Cmd × Nat × Int} {L : Nat} {out : List UInt8} {c : Cmd} {l : List Cmd} {s : Nat} {g : Int} (h : SendI T L out (c :: l) s 0 g) (h1 : 0 < g) :
  (s + 1 = xk c → SendI T L (out ++ ((xm c).1.drop s).take 1) l 0 (zbj c) (g - 1)) ∧ (¬ s + 1 = xk c → SendI T L (out ++ ((xm c).1.drop s).take 1) (c :: l) (s + 1) 0 (g - 1)):=by
 have a:=h.out; have b:=h.rest
 have hlt:=h.ok.2.2 c l rfl
 rw [zsc h1 hlt] at a b
 constructor
 ·intro e
  rw [if_pos e] at a b
  exact ⟨zj5 h.ok,(zd0 c).1,(zd0 c).2,by have:=h.len; simp at this; omega,by rw [List.append_assoc]; exact a,b⟩
 ·intro e
  rw [if_neg e] at a b
  refine ⟨⟨h.ok.1,(fun e=>nomatch e),fun d r q => ?_⟩,by decide,by decide,h.len,by rw [List.append_assoc]; exact a,b⟩
  injection q with e1 e2; subst e1; omega
theorem SendI.start {l : List Cmd} {s : Nat} {p g : Int} (h : okS l s) (h0 : 0 ≤ p) (h2 : p ≤ 2) : SendI (x4 l s p g) l.length [] l s p g:=⟨h,h0,h2,Nat.le_refl _,rfl,rfl⟩
attribute [local irreducible] z_ zg AW AL AO QY qd zx rsA Opd xi vA gvA zt z0 slA jc ipA rpA EqK LnK IxK LdK FaK FdK
theorem ztg (room : Int) (l : List Cmd) (sent pad : Int) (off : Bool) (g : Int) (hl : l.length ≤ 90000) (hg : g ≤ 9223372036854775807) : AP Tryz.prog T0 133 [x_ room l sent pad off,I g] (zju room l sent pad off g):=by
 have c1:=uq (T0:=T0) room l sent pad off hl
 have c2 : True:=trivial
 have c3 : True:=trivial
 by_cases hk : okL room l sent pad = true ∧ off = false
 ·rw [zju,if_pos hk]
  obtain ⟨hk,rfl⟩:=hk
  have hs:=zej hk
  rw [hk] at c1
  obtain ⟨hr,ha,h1,h2⟩:=qv hk
  obtain ⟨n,rfl⟩:=Int.eq_ofNat_of_zero_le hr.2.2.2.2
  simp only [Int.toNat_natCast] at hs ⊢
  have hT:=zu0 (g:=g) hs hr.2.2.1 hr.2.2.2.1
  have b1:=jy l
  have i0:=SendI.start (g:=g) hs hr.2.2.1 hr.2.2.2.1
  generalize x4 l n pad g = T at *
  refine za Tryz.func133 rfl (by decide) Tryz.ntmps133 rfl ?_
  repeat' (first
  |refine z5h ?_ | (refine zb ?_ ?_ <;> intro hb <;> try exact no_) | (refine sx_ ?_ <;> intro bb) | (refine su_ ?_ <;> intro u hu1 hu2) | fail)
  refine zig (σ:=List UInt8 × List Cmd × Nat × Int × Int) (fun x=>[(6,SA x.1),(1,I x.2.2.2.2)]) (fun x=>[I room,slA ws x.2.1,I x.2.2.1,I x.2.2.2.1,B false]) (fun x=>x.2.2.2.2 ≤ 9223372036854775807 ∧ SendI T l.length x.1 x.2.1 x.2.2.1 x.2.2.2.1 x.2.2.2.2) (fun x=>x.2.1.length) ([],l,n,pad,g) ⟨hg,i0⟩ rfl ?_
  rintro ⟨out,l',s,p,g'⟩ ⟨hg',i1⟩
  simp only at hg' i1 ⊢
  have hlen:=i1.len
  have hout : out.length ≤ T.1.length:=by rw [← i1.out,List.length_append]; omega
  clear hk c1 i0 hs
  cases l' with
  |nil =>
   have e:=i1.stop (.inl rfl)
   have h0 : ([] : List Cmd).length = 0:=rfl
   subst e
   repeat' (first
   |refine z5h ?_ | (refine zb ?_ ?_ <;> intro hb <;> try exact no_) | (refine sx_ ?_ <;> intro bb) | (refine su_ ?_ <;> intro u hu1 hu2) | fail)
   exact ⟨_,[],rl_,List.nil_sublist _,Sub.eq (by rfl),rfl⟩
  |cons c l' =>
   have hlt:=i1.ok.2.2 c l' rfl
   simp only [List.length_cons] at hlen
   have h9 : (c :: l').length = l'.length + 1:=rfl
   by_cases hp : p = 0
   ·subst hp
    have c2 : AP Tryz.prog T0 94 [slA ws (List.take (1 - 0) (List.drop 0 (c :: l')))] (SA (xm c).1):=(zhe [c] (by simp)).to (by rw [zjc])
    have c3 : AP Tryz.prog T0 167 [slA ws [(c :: l')[0]]] (I (zbj c)):=(z0_ [c] (by simp)).to (by rw [zlq])
    have hX : (xm c).1.length = xk c:=rfl
    have hle:=wo c
    have hL : (((xm c).1.drop s).take ((xm c).1.length - s)).length = xk c - s:=by rw [List.length_take,List.length_drop]; omega
    have e1 : ((xm c).1.drop s).take ((xm c).1.length - s) = (xm c).1.drop s:=vo _ _
    by_cases hg0 : g' ≤ 0
    ·have e:=i1.stop (.inr (.inr hg0))
     subst e
     repeat' (first
     |refine z5h ?_ | (refine zb ?_ ?_ <;> intro hb <;> try exact no_) | (refine sx_ ?_ <;> intro bb) | (refine su_ ?_ <;> intro u hu1 hu2) | fail)
     exact ⟨_,[],rl_,List.nil_sublist _,Sub.eq (by rfl),rfl⟩
    ·obtain ⟨m,rfl⟩:=Int.eq_ofNat_of_zero_le (show 0 ≤ g' by omega)
     repeat' (first
     |refine z5h ?_ | (refine zb ?_ ?_ <;> intro hb <;> try exact no_) | (refine sx_ ?_ <;> intro bb) | (refine su_ ?_ <;> intro u hu1 hu2) | fail)
     ·have e:=i1.part (by omega) (by omega)
      subst e
      refine ⟨_,[],rl_,List.nil_sublist _,Sub.eq ?_,rfl⟩
      rw [e1]; rfl
     ·have e2 : List.take ((c :: l').length - 1) (List.drop 1 (c :: l')) = l':=by simp
      have e3 : (m : Int) - ((xk c - s : Nat) : Int) = ((m - (xk c - s) : Nat) : Int):=by omega
      have i2:=i1.whole (by omega) (by omega)
      rw [e3] at i2
      refine ⟨(out ++ (xm c).1.drop s,l',0,zbj c,((m - (xk c - s) : Nat) : Int)),⟨by show ((m - (xk c - s) : Nat) : Int) ≤ _; omega,i2⟩,by simp, ?_, ?_⟩
      ·rw [← hL,e1]; dsimp only; exact wx_
      ·rw [e2]; exact sl_
   ·have e:=i1.stop (.inr (.inl hp))
    subst e
    repeat' (first
    |refine z5h ?_ | (refine zb ?_ ?_ <;> intro hb <;> try exact no_) | (refine sx_ ?_ <;> intro bb) | (refine su_ ?_ <;> intro u hu1 hu2) | fail)
    exact ⟨_,[],rl_,List.nil_sublist _,Sub.eq (by rfl),rfl⟩
 ·rw [zju,if_neg hk]
  by_cases hk1 : okL room l sent pad = true
  ·have hoff : off = true:=by
    cases off
    ·exact absurd ⟨hk1,rfl⟩ hk
    ·rfl
   subst hoff
   rw [hk1] at c1
   refine za Tryz.func133 rfl (by decide) Tryz.ntmps133 rfl ?_
   repeat' (first
   |refine z5h ?_ | (refine zb ?_ ?_ <;> intro hb <;> try exact no_) | (refine sx_ ?_ <;> intro bb) | (refine su_ ?_ <;> intro u hu1 hu2) | fail)
   exact ⟨_,[],rl_,List.nil_sublist _,Sub.refl _,rfl⟩
  ·have hk2 : okL room l sent pad = false:=by simpa using hk1
   rw [hk2] at c1
   refine za Tryz.func133 rfl (by decide) Tryz.ntmps133 rfl ?_
   repeat' (first
   |refine z5h ?_ | (refine zb ?_ ?_ <;> intro hb <;> try exact no_) | (refine sx_ ?_ <;> intro bb) | (refine su_ ?_ <;> intro u hu1 hu2) | fail)
   exact ⟨_,[],rl_,List.nil_sublist _,Sub.refl _,rfl⟩
end
section
open Go Go.RowKit
variable {T0 : Gh}
set_option maxRecDepth 100000
attribute [local irreducible] z_ zg AW AL AO QY qd zx rsA Opd xi vA gvA zt z0 slA jc ipA rpA EqK LnK IxK LdK FaK FdK
theorem zon (room : Int) (l : List Cmd) (sent pad : Int) (off : Bool) (g : Int) (hl : l.length ≤ 90000) (hg : g ≤ 9223372036854775807) : AP Tryz.prog T0 96 [x_ room l sent pad off,I g] (zju room l sent pad off g):=by
 have c1:=yc (T0:=T0) room l sent pad off hl
 have c2 : True:=trivial
 have c3 : True:=trivial
 by_cases hk : okL room l sent pad = true ∧ off = false
 ·rw [zju,if_pos hk]
  obtain ⟨hk,rfl⟩:=hk
  have hs:=zej hk
  rw [hk] at c1
  obtain ⟨hr,ha,h1,h2⟩:=qv hk
  obtain ⟨n,rfl⟩:=Int.eq_ofNat_of_zero_le hr.2.2.2.2
  simp only [Int.toNat_natCast] at hs ⊢
  have hT:=zu0 (g:=g) hs hr.2.2.1 hr.2.2.2.1
  have b1:=jy l
  have i0:=SendI.start (g:=g) hs hr.2.2.1 hr.2.2.2.1
  generalize x4 l n pad g = T at *
  refine za Tryz.func96 rfl (by decide) Tryz.ntmps96 rfl ?_
  repeat' (first
  |refine zh3 ?_ | (refine zb ?_ ?_ <;> intro hb <;> try exact no_) | (refine sx_ ?_ <;> intro bb) | (refine su_ ?_ <;> intro u hu1 hu2) | fail)
  refine zig (σ:=List UInt8 × List Cmd × Nat × Int × Int) (fun x=>[(6,SA x.1),(1,I x.2.2.2.2)]) (fun x=>[I room,slA ws x.2.1,I x.2.2.1,I x.2.2.2.1,B false]) (fun x=>x.2.2.2.2 ≤ 9223372036854775807 ∧ SendI T l.length x.1 x.2.1 x.2.2.1 x.2.2.2.1 x.2.2.2.2) (fun x=>x.2.1.length * 10 + (10 - x.2.2.1)) ([],l,n,pad,g) ⟨hg,i0⟩ rfl ?_
  rintro ⟨out,l',s,p,g'⟩ ⟨hg',i1⟩
  simp only at hg' i1 ⊢
  have hlen:=i1.len
  have hout : out.length ≤ T.1.length:=by rw [← i1.out,List.length_append]; omega
  clear hk c1 i0 hs
  cases l' with
  |nil =>
   have e:=i1.stop (.inl rfl)
   have h0 : ([] : List Cmd).length = 0:=rfl
   subst e
   repeat' (first
   |refine zh3 ?_ | (refine zb ?_ ?_ <;> intro hb <;> try exact no_) | (refine sx_ ?_ <;> intro bb) | (refine su_ ?_ <;> intro u hu1 hu2) | fail)
   exact ⟨_,[],rl_,List.nil_sublist _,Sub.eq (by rfl),rfl⟩
  |cons c l' =>
   have hlt:=i1.ok.2.2 c l' rfl
   simp only [List.length_cons] at hlen
   have h9 : (c :: l').length = l'.length + 1:=rfl
   by_cases hp : p = 0
   ·subst hp
    have c2 : AP Tryz.prog T0 139 [slA ws (List.take (1 - 0) (List.drop 0 (c :: l')))] (SA (xm c).1):=(zet [c] (by simp)).to (by rw [zjc])
    have c3 : AP Tryz.prog T0 140 [slA ws (List.take (1 - 0) (List.drop 0 (c :: l')))] (I (zbj c)):=(zos [c] (by simp)).to (by rw [zlq])
    have hX : (xm c).1.length = xk c:=rfl
    have hle:=wo c
    have hL : (((xm c).1.drop s).take (s + 1 - s)).length = 1:=by rw [List.length_take,List.length_drop]; omega
    have e1 : ((xm c).1.drop s).take (s + 1 - s) = ((xm c).1.drop s).take 1:=by rw [Nat.add_sub_cancel_left]
    by_cases hg0 : g' ≤ 0
    ·have e:=i1.stop (.inr (.inr hg0))
     subst e
     repeat' (first
     |refine zh3 ?_ | (refine zb ?_ ?_ <;> intro hb <;> try exact no_) | (refine sx_ ?_ <;> intro bb) | (refine su_ ?_ <;> intro u hu1 hu2) | fail)
     exact ⟨_,[],rl_,List.nil_sublist _,Sub.eq (by rfl),rfl⟩
    ·obtain ⟨m,rfl⟩:=Int.eq_ofNat_of_zero_le (show 0 ≤ g' by omega)
     have i2:=i1.byte (by omega)
     rw [show (m : Int) - 1 = ((m - 1 : Nat) : Int) by omega] at i2
     repeat' (first
     |refine zh3 ?_ | (refine zb ?_ ?_ <;> intro hb <;> try exact no_) | (refine sx_ ?_ <;> intro bb) | (refine su_ ?_ <;> intro u hu1 hu2) | fail)
     ·have e2 : List.take ((c :: l').length - 1) (List.drop 1 (c :: l')) = l':=by simp
      refine ⟨(out ++ ((xm c).1.drop s).take 1,l',0,zbj c,((m - 1 : Nat) : Int)),⟨by show ((m - 1 : Nat) : Int) ≤ _; omega,i2.1 (by omega)⟩,by simp; omega, ?_, ?_⟩
      ·rw [e1]; dsimp only; exact wx_
      ·rw [e2]; exact sl_
     ·refine ⟨(out ++ ((xm c).1.drop s).take 1,c :: l',s + 1,0,((m - 1 : Nat) : Int)),⟨by show ((m - 1 : Nat) : Int) ≤ _; omega,i2.2 (by omega)⟩,by simp; omega, ?_, ?_⟩
      ·rw [e1]; dsimp only; exact wx_
      ·exact sl_
   ·have e:=i1.stop (.inr (.inl hp))
    subst e
    repeat' (first
    |refine zh3 ?_ | (refine zb ?_ ?_ <;> intro hb <;> try exact no_) | (refine sx_ ?_ <;> intro bb) | (refine su_ ?_ <;> intro u hu1 hu2) | fail)
    exact ⟨_,[],rl_,List.nil_sublist _,Sub.eq (by rfl),rfl⟩
 ·rw [zju,if_neg hk]
  by_cases hk1 : okL room l sent pad = true
  ·have hoff : off = true:=by
    cases off
    ·exact absurd ⟨hk1,rfl⟩ hk
    ·rfl
   subst hoff
   rw [hk1] at c1
   refine za Tryz.func96 rfl (by decide) Tryz.ntmps96 rfl ?_
   repeat' (first
   |refine zh3 ?_ | (refine zb ?_ ?_ <;> intro hb <;> try exact no_) | (refine sx_ ?_ <;> intro bb) | (refine su_ ?_ <;> intro u hu1 hu2) | fail)
   exact ⟨_,[],rl_,List.nil_sublist _,Sub.refl _,rfl⟩
  ·have hk2 : okL room l sent pad = false:=by simpa using hk1
   rw [hk2] at c1
   refine za Tryz.func96 rfl (by decide) Tryz.ntmps96 rfl ?_
   repeat' (first
   |refine zh3 ?_ | (refine zb ?_ ?_ <;> intro hb <;> try exact no_) | (refine sx_ ?_ <;> intro bb) | (refine su_ ?_ <;> intro u hu1 hu2) | fail)
   exact ⟨_,[],rl_,List.nil_sublist _,Sub.refl _,rfl⟩
end
section
open Go Go.RowKit
variable {T0 : Gh}
set_option maxRecDepth 100000
def zlh (room : Int) (l : List Cmd) (sent pad : Int) : Int:=if okL room l sent pad = true then max 0 (pad - 1) else pad
def zl1 (room : Int) (l : List Cmd) (sent pad : Int) (off b : Bool) : Bool:=if okL room l sent pad = true then b else off
def zmj (sent : Int) : Nat:=if 0 < sent then 1 else 0
def zkq (room : Int) (l : List Cmd) (sent pad : Int) : List Cmd:=if okL room l sent pad = true then l.take (zmj sent) else l
def zgy (room : Int) (l : List Cmd) (sent pad : Int) : List Cmd:=if okL room l sent pad = true then l.drop (zmj sent) else []
attribute [local irreducible] z_ zg AW AL AO QY qd zx rsA Opd xi vA gvA zt z0 slA jc ipA rpA EqK LnK IxK LdK FaK FdK
theorem ztf (room : Int) (l : List Cmd) (sent pad : Int) (off : Bool) (hl : l.length ≤ 90000) : AP Tryz.prog T0 100 [x_ room l sent pad off] (x_ room l sent (zlh room l sent pad) off):=by
 have c1:=uq (T0:=T0) room l sent pad off hl
 by_cases hk : okL room l sent pad = true
 ·rw [hk] at c1
  obtain ⟨hr,_⟩:=qv hk
  rw [zlh,if_pos hk]
  refine za Tryz.func100 rfl (by decide) Tryz.ntmps100 rfl ?_
  repeat' (first
  |refine zy8 ?_ | (refine zb ?_ ?_ <;> intro hb <;> try exact no_) | (refine sx_ ?_ <;> intro bb) | (refine su_ ?_ <;> intro u hu1 hu2) | fail)
  exact ⟨_,[],rl_,List.nil_sublist _,Sub.refl _,rfl⟩
 ·have hk2 : okL room l sent pad = false:=by simpa using hk
  rw [hk2] at c1
  rw [zlh,if_neg hk]
  refine za Tryz.func100 rfl (by decide) Tryz.ntmps100 rfl ?_
  repeat' (first
  |refine zy8 ?_ | (refine zb ?_ ?_ <;> intro hb <;> try exact no_) | (refine sx_ ?_ <;> intro bb) | (refine su_ ?_ <;> intro u hu1 hu2) | fail)
  exact ⟨_,[],rl_,List.nil_sublist _,Sub.refl _,rfl⟩
theorem zom (room : Int) (l : List Cmd) (sent pad : Int) (off : Bool) (hl : l.length ≤ 90000) : AP Tryz.prog T0 101 [x_ room l sent pad off] (x_ room l sent (zlh room l sent pad) off):=by
 have c1:=yc (T0:=T0) room l sent pad off hl
 by_cases hk : okL room l sent pad = true
 ·rw [hk] at c1
  obtain ⟨hr,_⟩:=qv hk
  rw [zlh,if_pos hk]
  refine za Tryz.func101 rfl (by decide) Tryz.ntmps101 rfl ?_
  repeat' (first
  |refine zy8 ?_ | (refine zb ?_ ?_ <;> intro hb <;> try exact no_) | (refine sx_ ?_ <;> intro bb) | (refine su_ ?_ <;> intro u hu1 hu2) | fail)
  ·exact ⟨_,[],rl_,List.nil_sublist _,Sub.eq (by rw [show max 0 (pad - 1) = pad - 1 by omega]),rfl⟩
  ·exact ⟨_,[],rl_,List.nil_sublist _,Sub.eq (by rw [show max 0 (pad - 1) = pad by omega]),rfl⟩
 ·have hk2 : okL room l sent pad = false:=by simpa using hk
  rw [hk2] at c1
  rw [zlh,if_neg hk]
  refine za Tryz.func101 rfl (by decide) Tryz.ntmps101 rfl ?_
  repeat' (first
  |refine zy8 ?_ | (refine zb ?_ ?_ <;> intro hb <;> try exact no_) | (refine sx_ ?_ <;> intro bb) | (refine su_ ?_ <;> intro u hu1 hu2) | fail)
  exact ⟨_,[],rl_,List.nil_sublist _,Sub.refl _,rfl⟩
theorem zti (room : Int) (l : List Cmd) (sent pad : Int) (off b : Bool) (hl : l.length ≤ 90000) : AP Tryz.prog T0 102 [x_ room l sent pad off,B b] (x_ room l sent pad (zl1 room l sent pad off b)):=by
 have c1:=uq (T0:=T0) room l sent pad off hl
 refine za Tryz.func102 rfl (by decide) Tryz.ntmps102 rfl ?_
 repeat' (first
 |refine zy8 ?_ | (refine zb ?_ ?_ <;> intro hb <;> try exact no_) | (refine sx_ ?_ <;> intro bb) | (refine su_ ?_ <;> intro u hu1 hu2) | fail)
 ·exact ⟨_,[],rl_,List.nil_sublist _,Sub.eq (by rw [zl1,if_pos hb]),rfl⟩
 ·exact ⟨_,[],rl_,List.nil_sublist _,Sub.eq (by rw [zl1,if_neg (by rw [hb]; decide)]),rfl⟩
theorem zoq (room : Int) (l : List Cmd) (sent pad : Int) (off b : Bool) (hl : l.length ≤ 90000) : AP Tryz.prog T0 103 [x_ room l sent pad off,B b] (x_ room l sent pad (zl1 room l sent pad off b)):=by
 have c1:=yc (T0:=T0) room l sent pad off hl
 refine za Tryz.func103 rfl (by decide) Tryz.ntmps103 rfl ?_
 repeat' (first
 |refine zy8 ?_ | (refine zb ?_ ?_ <;> intro hb <;> try exact no_) | (refine sx_ ?_ <;> intro bb) | (refine su_ ?_ <;> intro u hu1 hu2) | fail)
 ·exact ⟨_,[],rl_,List.nil_sublist _,Sub.eq (by rw [zl1,if_pos hb]),rfl⟩
 ·exact ⟨_,[],rl_,List.nil_sublist _,Sub.eq (by rw [zl1,if_neg (by rw [hb]; decide)]),rfl⟩
theorem zkp {room sent pad : Int} {l : List Cmd} (h : okL room l sent pad = true) : zmj sent ≤ l.length:=by
 unfold zmj
 cases l with
 |nil=>have:=zd1.1 h; split <;> simp; omega
 |cons c l=>split <;> simp
theorem zpw {room : Int} {l m : List Cmd} {sent pad : Int} {off : Bool} : Sub (zt [x_ room l sent pad off,vA (.slice none 0 0)]) (zt [x_ room l sent pad off,slA ws []]):=ka (qb (Sub.refl _) (qb zpv vj))
theorem ztj (room : Int) (l : List Cmd) (sent pad : Int) (off : Bool) (hl : l.length ≤ 90000) : AP Tryz.prog T0 97 [x_ room l sent pad off] (zt [x_ room (zkq room l sent pad) sent pad off,slA ws (zgy room l sent pad)]):=by
 have c1:=uq (T0:=T0) room l sent pad off hl
 by_cases hk : okL room l sent pad = true
 ·rw [hk] at c1
  obtain ⟨hr,_⟩:=qv hk
  have hd:=zkp hk
  rw [zkq,zgy,if_pos hk,if_pos hk]
  obtain ⟨n,rfl⟩:=Int.eq_ofNat_of_zero_le hr.2.2.2.2
  have hn : zmj (n : Int) = min n 1:=by unfold zmj; split <;> omega
  refine za Tryz.func97 rfl (by decide) Tryz.ntmps97 rfl ?_
  repeat' (first
  |refine zy8 ?_ | (refine zb ?_ ?_ <;> intro hb <;> try exact no_) | (refine sx_ ?_ <;> intro bb) | (refine su_ ?_ <;> intro u hu1 hu2) | fail)
  refine ⟨_,[],rl_,List.nil_sublist _, ?_,rfl⟩
  rw [hn]
  refine ka (qb (vx (qb (Sub.refl _) (qb ?_ (qb (Sub.refl _) (qb (Sub.refl _) (qb (Sub.refl _) vj)))))) (qb ?_ vj))
  ·refine Sub.trans qw (Sub.eq ?_); simp
  ·exact Sub.eq (by rw [vo])
 ·have hk2 : okL room l sent pad = false:=by simpa using hk
  rw [hk2] at c1
  rw [zkq,zgy,if_neg hk,if_neg hk]
  refine za Tryz.func97 rfl (by decide) Tryz.ntmps97 rfl ?_
  repeat' (first
  |refine zy8 ?_ | (refine zb ?_ ?_ <;> intro hb <;> try exact no_) | (refine sx_ ?_ <;> intro bb) | (refine su_ ?_ <;> intro u hu1 hu2) | fail)
  exact ⟨_,[],rl_,List.nil_sublist _,zpw (m:=[]),rfl⟩
theorem zg8 (room : Int) (l : List Cmd) (sent pad : Int) (off : Bool) (hl : l.length ≤ 90000) : AP Tryz.prog T0 85 [x_ room l sent pad off] (zt [x_ room (zkq room l sent pad) sent pad off,slA ws (zgy room l sent pad)]):=by
 have c1:=yc (T0:=T0) room l sent pad off hl
 by_cases hk : okL room l sent pad = true
 ·rw [hk] at c1
  obtain ⟨hr,_⟩:=qv hk
  have hd:=zkp hk
  rw [zkq,zgy,if_pos hk,if_pos hk]
  obtain ⟨n,rfl⟩:=Int.eq_ofNat_of_zero_le hr.2.2.2.2
  have hn : zmj (n : Int) = min n 1:=by unfold zmj; split <;> omega
  rw [hn] at hd ⊢
  refine za Tryz.func85 rfl (by decide) Tryz.ntmps85 rfl ?_
  repeat' (first
  |refine zy8 ?_ | (refine zb ?_ ?_ <;> intro hb <;> try exact no_) | (refine sx_ ?_ <;> intro bb) | (refine su_ ?_ <;> intro u hu1 hu2) | fail)
  ·refine ⟨_,[],rl_,List.nil_sublist _,Sub.eq ?_,rfl⟩
   rw [show min n 1 = 1 by omega,vo]; simp
  ·refine ⟨_,[],rl_,List.nil_sublist _,Sub.eq ?_,rfl⟩
   rw [show min n 1 = 0 by omega,vo]; simp
 ·have hk2 : okL room l sent pad = false:=by simpa using hk
  rw [hk2] at c1
  rw [zkq,zgy,if_neg hk,if_neg hk]
  refine za Tryz.func85 rfl (by decide) Tryz.ntmps85 rfl ?_
  repeat' (first
  |refine zy8 ?_ | (refine zb ?_ ?_ <;> intro hb <;> try exact no_) | (refine sx_ ?_ <;> intro bb) | (refine su_ ?_ <;> intro u hu1 hu2) | fail)
  exact ⟨_,[],rl_,List.nil_sublist _,zpw (m:=[]),rfl⟩
end
end Go.Proofs.YtgfmjmfphmjdkaaGreatDoor
