/- Several texts in one: see the comment ahead of each. No condition. -/
import Derived.Test.YtgfmjmfphmjdkaaGreatDoorR3KP
import Derived.Test.YtgfmjmfphmjdkaaGreatDoorR3ZX
import Derived.Test.YtgfmjmfphmjdkaaGreatDoorR3O3
set_option linter.unusedSimpArgs false
set_option linter.unusedVariables false
set_option linter.unusedSectionVars false
namespace Go.Proofs.YtgfmjmfphmjdkaaGreatDoor
set_option maxHeartbeats 4000000
section
open Go Go.RowKit
theorem zts (c : Cmd) : wv [c] = zcl c:=by simp [wv]
end
section
open Go Go.RowKit
variable {T0 : Gh}
set_option maxRecDepth 100000
theorem zon : Sub (vA (.slice none 0 0)) (slA zc7 []):=fun _ _ h=>by
 rw [h.eq]; exact .of ⟨none,0,0,rfl,rfl,Nat.le_refl _,Nat.zero_le _,fun _=>rfl,fun h=>absurd rfl h⟩
theorem zjd {r s p : Int} {o : Bool} : Sub (qb [I r,vA (.slice none 0 0),I s,I p,B o]) (kp r [] s p o):=un (qu (Sub.refl _) (qu zon (qu (Sub.refl _) (qu (Sub.refl _) (qu (Sub.refl _) y4)))))
def z5s (room : Int) : AV:=if 8 ≤ room ∧ room ≤ 48 then zy [kp room [] 0 0 false,I 0] else zy [kp 0 [] 0 0 false,I 4]
attribute [local irreducible] zz zg AW AL AO QY qh z_ rsA Opd xh vA gvA zy qb slA jl ipA rpA EqK LnK IxK LdK FaK FdK
theorem zg6 (room : Int) : AP Tryz.prog T0 83 [I room] (z5s room):=by
 refine za Tryz.func83 rfl (by decide) Tryz.ntmps83 rfl ?_
 repeat' (first
 |refine g2_ ?_ | (refine zd ?_ ?_ <;> intro hb <;> try exact no_) | (refine sx_ ?_ <;> intro bb) | (refine su_ ?_ <;> intro u hu1 hu2) | fail)
 ·refine ⟨_,[],rs_,List.nil_sublist _, ?_,rfl⟩
  rw [z5s,if_neg (by omega)]; exact wa (qu zjd (qu (Sub.refl _) y4))
 ·refine ⟨_,[],rs_,List.nil_sublist _, ?_,rfl⟩
  rw [z5s,if_pos (by omega)]; exact wa (qu zjd (qu (Sub.refl _) y4))
theorem zg7 (l : List Cmd) (hl : l.length ≤ 100000) : AP Tryz.prog T0 94 [slA zc7 l] (SA (qo l)):=by
 refine za Tryz.func94 rfl (by decide) Tryz.ntmps94 rfl ?_
 repeat' (first
 |refine g3_ ?_ | (refine zd ?_ ?_ <;> intro hb <;> try exact no_) | (refine sx_ ?_ <;> intro bb) | (refine su_ ?_ <;> intro u hu1 hu2) | fail)
 refine zdc (fun k : Nat=>[(3,SA (qo (l.take k))),(10,I k)]) (fun k=>k ≤ l.length) (fun k=>l.length - k) 0 (Nat.zero_le _) ?_
 rintro k i1
 have hle:=yk (l.take k)
 rw [List.length_take,← jf] at hle
 by_cases hlt : k < l.length
 ·have hn:=zn2 l k hlt
  have h8 : (jt l[k]).1.length ≤ 8:=zau l[k]
  repeat' (first
  |refine g3_ ?_ | (refine zd ?_ ?_ <;> intro hb <;> try exact no_) | (refine sx_ ?_ <;> intro bb) | (refine su_ ?_ <;> intro u hu1 hu2) | fail)
  exact ⟨k + 1,by omega,by omega,by rw [hn]; exact wx_,sl_⟩
 ·repeat' (first
  |refine g3_ ?_ | (refine zd ?_ ?_ <;> intro hb <;> try exact no_) | (refine sx_ ?_ <;> intro bb) | (refine su_ ?_ <;> intro u hu1 hu2) | fail)
  exact ⟨_,[],rs_,List.nil_sublist _,Sub.eq (by rw [List.take_of_length_le (by omega)]),rfl⟩
end
section
open Go Go.RowKit
variable {T0 : Gh}
set_option maxRecDepth 100000
attribute [local irreducible] zz zg AW AL AO QY qh z_ rsA Opd xh vA gvA zy qb slA jl ipA rpA EqK LnK IxK LdK FaK FdK
theorem uy (room : Int) (l : List Cmd) (sent pad : Int) (off : Bool) (hl : l.length ≤ 90000) : AP Tryz.prog T0 88 [kp room l sent pad off] (B (okL room l sent pad)):=by
 by_cases hr : 8 ≤ room ∧ room ≤ 48
 ·have c1 : AP Tryz.prog T0 83 [I room] (zy [kp room [] 0 0 false,I 0]):=(zg6 room).to (by rw [z5s,if_pos hr])
  have b1:=yk l
  refine za Tryz.func88 rfl (by decide) Tryz.ntmps88 rfl ?_
  repeat' (first
  |refine z7h ?_ | (refine zd ?_ ?_ <;> intro hb <;> try exact no_) | (refine sx_ ?_ <;> intro bb) | (refine su_ ?_ <;> intro u hu1 hu2) | fail)
  ·exact ⟨_,[],rs_,List.nil_sublist _,Sub.eq (congrArg B (ztu (by omega)).symm),rfl⟩
  refine zdc (fun k : Nat=>[(33,I k)]) (fun k=>k ≤ l.length ∧ (l.take k).all z9 = true) (fun k=>l.length - k) 0 ⟨Nat.zero_le _,rfl⟩ ?_
  rintro k ⟨i1,i2⟩
  by_cases hlt : k < l.length
  ·have hn:=z1b z9 l k hlt
   repeat' (first
   |refine z7h ?_ | (refine zd ?_ ?_ <;> intro hb <;> try exact no_) | (refine sx_ ?_ <;> intro bb) | (refine su_ ?_ <;> intro u hu1 hu2) | fail)
   ·exact ⟨_,[],rs_,List.nil_sublist _,Sub.eq (congrArg B (z3o (z83 hlt hb)).symm),rfl⟩
   ·exact ⟨k + 1,⟨by omega,by rw [hn,i2,hb]; rfl⟩,by omega,wx_,sl_⟩
  ·rw [List.take_of_length_le (by omega)] at i2
   have b2:=fun h : 0 < l.length=>yk [l[0]]
   rcases Nat.eq_zero_or_pos l.length with h0 | h0
   ·repeat' (first
    |refine z7h ?_ | (refine zd ?_ ?_ <;> intro hb <;> try exact no_) | (refine sx_ ?_ <;> intro bb) | (refine su_ ?_ <;> intro u hu1 hu2) | fail)
    refine ⟨_,[],rs_,List.nil_sublist _,Sub.eq (congrArg B ?_),rfl⟩
    obtain rfl : l = []:=List.eq_nil_of_length_eq_zero (by omega)
    rw [Bool.eq_iff_iff,zb1,decide_eq_true_eq]; omega
   ·have b3:=b2 h0
    simp only [List.length_cons,List.length_nil] at b3
    repeat' (first
    |refine z7h ?_ | (refine zd ?_ ?_ <;> intro hb <;> try exact no_) | (refine sx_ ?_ <;> intro bb) | (refine su_ ?_ <;> intro u hu1 hu2) | fail)
    refine ⟨_,[],rs_,List.nil_sublist _,Sub.eq (congrArg B ?_),rfl⟩
    cases l with
    |nil=>simp at h0
    |cons c l =>
     rw [Bool.eq_iff_iff,za9,i2]
     have e : (qr [(c :: l)[0]]) = jb c:=zhi _
     simp only [Bool.and_eq_true,decide_eq_true_eq,e,true_and]
     omega
 ·have c1 : AP Tryz.prog T0 83 [I room] (zy [kp 0 [] 0 0 false,I 4]):=(zg6 room).to (by rw [z5s,if_neg hr])
  refine za Tryz.func88 rfl (by decide) Tryz.ntmps88 rfl ?_
  repeat' (first
  |refine z7h ?_ | (refine zd ?_ ?_ <;> intro hb <;> try exact no_) | (refine sx_ ?_ <;> intro bb) | (refine su_ ?_ <;> intro u hu1 hu2) | fail)
  exact ⟨_,[],rs_,List.nil_sublist _,Sub.eq (congrArg B (ztu (by omega)).symm),rfl⟩
theorem znr (r r' : Int) (l l' : List Cmd) (s s' p p' : Int) (o o' : Bool) (hl : l.length ≤ 90000) (hl' : l'.length ≤ 90000) : AP Tryz.prog T0 87 [kp r l s p o,kp r' l' s' p' o'] (B (decide ((r,l,s,p,o) = (r',l',s',p',o')))):=by
 refine za Tryz.func87 rfl (by decide) Tryz.ntmps87 rfl ?_
 repeat' (first
 |refine sa_ ?_ | refine qd ?_ (c:=by first | exact zg1 _ _ (by omega) (by omega) | fail) | refine j0 ?_ | refine zr ?_ (c:=by intro hk hk2; first | exact zg1 _ _ (by omega) (by omega) | fail) | refine sw_ ?_ | (refine zd ?_ ?_ <;> intro hb <;> try exact no_) | (refine sx_ ?_ <;> intro bb) | (refine su_ ?_ <;> intro u hu1 hu2) | fail)
 refine ⟨_,[],rs_,List.nil_sublist _,Sub.eq (congrArg B ?_),rfl⟩
 rw [Bool.eq_iff_iff]; simp only [Bool.and_eq_true,decide_eq_true_eq,Prod.mk.injEq,beq_iff_eq]
 constructor <;> (intro h; simp_all)
end
section
open Go Go.RowKit
variable {T0 : Gh}
set_option maxRecDepth 100000
def zee (room : Int) (l : List Cmd) (sent pad : Int) (off : Bool) (c : Cmd) : AV :=
 if okL room l sent pad = true ∧ z9 c = true then (if room < qr l - sent + jb c then zy [kp 0 [] 0 0 false,I 5] else zy [kp room (l ++ [c]) sent pad off,I 0]) else zy [kp 0 [] 0 0 false,I 1]
theorem zf9 {r s p e : Int} {o : Bool} : Sub (zy [qb [I r,vA (.slice none 0 0),I s,I p,B o],I e]) (zy [kp r [] s p o,I e]):=wa (qu zjd (qu (Sub.refl _) y4))
theorem zax {α : Type} (l : List α) (n : Nat) : (l.drop n).take (l.length - n) = l.drop n:=List.take_of_length_le (by rw [List.length_drop]; omega)
attribute [local irreducible] zz zg AW AL AO QY qh z_ rsA Opd xh vA gvA zy qb slA jl ipA rpA EqK LnK IxK LdK FaK FdK
theorem zir (room : Int) (l : List Cmd) (sent pad : Int) (off : Bool) (hl : l.length ≤ 90000) : AP Tryz.prog T0 33 [kp room l sent pad off] (SA (ztj room l sent pad)):=by
 have c1:=uy (T0:=T0) room l sent pad off hl
 have c2:=zg7 (T0:=T0) l (by omega)
 by_cases hk : okL room l sent pad = true
 ·rw [hk] at c1
  obtain ⟨hr,ha,h1,h2⟩:=zv hk
  obtain ⟨n,rfl⟩:=Int.eq_ofNat_of_zero_le hr.2.2.2.2
  have e:=jf l
  refine za Tryz.func33 rfl (by decide) Tryz.ntmps33 rfl ?_
  repeat' (first
  |refine g7_ ?_ | (refine zd ?_ ?_ <;> intro hb <;> try exact no_) | (refine sx_ ?_ <;> intro bb) | (refine su_ ?_ <;> intro u hu1 hu2) | fail)
  exact ⟨_,[],rs_,List.nil_sublist _,Sub.eq (by rw [ztj,if_pos hk,zax]; rfl),rfl⟩
 ·have hk2 : okL room l sent pad = false:=by simpa using hk
  rw [hk2] at c1
  refine za Tryz.func33 rfl (by decide) Tryz.ntmps33 rfl ?_
  repeat' (first
  |refine g7_ ?_ | (refine zd ?_ ?_ <;> intro hb <;> try exact no_) | (refine sx_ ?_ <;> intro bb) | (refine su_ ?_ <;> intro u hu1 hu2) | fail)
  exact ⟨_,[],rs_,List.nil_sublist _,Sub.eq (by rw [ztj,if_neg hk]),rfl⟩
theorem zg5 (room : Int) (l : List Cmd) (sent pad : Int) (off : Bool) (c : Cmd) (hl : l.length ≤ 90000) : AP Tryz.prog T0 131 [kp room l sent pad off,yw c] (zee room l sent pad off c):=by
 have c1:=uy (T0:=T0) room l sent pad off hl
 have c2:=wi (T0:=T0) c
 have c3 : True:=trivial
 have b1:=yk l
 have b2:=yk [c]
 have e1 : qr [c] = jb c:=zhi c
 simp only [List.length_cons,List.length_nil] at b2
 refine za Tryz.func131 rfl (by decide) Tryz.ntmps131 rfl ?_
 by_cases hk : okL room l sent pad = true
 ·rw [hk] at c1
  obtain ⟨hr,ha,h1,h2⟩:=zv hk
  by_cases hc : z9 c = true
  ·rw [hc] at c2
   rw [zee,if_pos ⟨hk,hc⟩]
   repeat' (first
   |refine z_3 ?_ | (refine zd ?_ ?_ <;> intro hb <;> try exact no_) | (refine sx_ ?_ <;> intro bb) | (refine su_ ?_ <;> intro u hu1 hu2) | fail)
   ·exact ⟨_,[],rs_,List.nil_sublist _,by rw [if_pos (by omega)]; exact zf9,rfl⟩
   ·refine ⟨_,[],rs_,List.nil_sublist _, ?_,rfl⟩
    rw [if_neg (by omega)]
    exact Sub.eq (by rw [show (List.drop 0 l).take (l.length - 0) = l by simp])
  ·have hc2 : z9 c = false:=by simpa using hc
   rw [hc2] at c2
   rw [zee,if_neg (fun h=>hc h.2)]
   repeat' (first
   |refine z_3 ?_ | (refine zd ?_ ?_ <;> intro hb <;> try exact no_) | (refine sx_ ?_ <;> intro bb) | (refine su_ ?_ <;> intro u hu1 hu2) | fail)
   exact ⟨_,[],rs_,List.nil_sublist _,zf9,rfl⟩
 ·have hk2 : okL room l sent pad = false:=by simpa using hk
  rw [hk2] at c1
  rw [zee,if_neg (fun h=>hk h.1)]
  repeat' (first
  |refine z_3 ?_ | (refine zd ?_ ?_ <;> intro hb <;> try exact no_) | (refine sx_ ?_ <;> intro bb) | (refine su_ ?_ <;> intro u hu1 hu2) | fail)
  exact ⟨_,[],rs_,List.nil_sublist _,zf9,rfl⟩
end
section
open Go Go.RowKit
variable {T0 : Gh}
set_option maxRecDepth 100000
def zqn (room : Int) (l : List Cmd) (sent pad : Int) (off : Bool) (g : Int) : AV :=
 if okL room l sent pad = true ∧ off = false then zy [SA (xt l sent.toNat pad g).1,kp room (xt l sent.toNat pad g).2.1 ((xt l sent.toNat pad g).2.2.1 : Nat) (xt l sent.toNat pad g).2.2.2 off] else zy [SA [],kp room l sent pad off]
theorem z28 {l : List Cmd} {s : Nat} {p g : Int} (h : okS l s) (h0 : 0 ≤ p) (h1 : p ≤ 2) : (xt l s p g).1.length ≤ qr l:=by
 have h2:=(zji l s p g h h0 h1).2.2.1
 have h3:=congrArg List.length h2
 rw [List.length_append,List.length_drop,List.length_drop,jf,jf] at h3; omega
structure SendI (T : List UInt8 × List Cmd × Nat × Int) (L : Nat) (out : List UInt8) (l : List Cmd) (s : Nat) (p g : Int) : Prop where
 ok : okS l s
 p0 : 0 ≤ p
 p2 : p ≤ 2
 len : l.length ≤ L
 out : out ++ (xt l s p g).1 = T.1
 rest : (xt l s p g).2 = T.2
theorem SendI.stop {T : List UInt8 × List Cmd × Nat × Int} {L : Nat} {out : List UInt8} {l : List Cmd} {s : Nat} {p g : Int} (h : SendI T L out l s p g) (k : l = [] ∨ p ≠ 0 ∨ g ≤ 0) : T = (out,l,s,p):=by
 have a:=h.out; have b:=h.rest
 rw [jz k] at a b
 obtain ⟨t,u⟩:=T
 simp at a b; rw [← a,← b]
theorem SendI.part {T : List UInt8 × List Cmd × Nat × Int} {L : Nat} {out : List UInt8} {c : Cmd} {l : List Cmd} {s : Nat} {g : Nat} (h : SendI T L out (c :: l) s 0 g) (h1 : 0 < g) (k : g < jb c - s) : T = (out ++ ((jt c).1.drop s).take g,c :: l,s + g,0):=by
 have a:=h.out; have b:=h.rest
 rw [za7 (by omega) (by omega)] at a b
 obtain ⟨t,u⟩:=T
 simp at a b; rw [← a,← b]
theorem SendI.whole {T : List UInt8 × List Cmd × Nat × Int} {L : Nat} {out : List UInt8} {c : Cmd} {l : List Cmd} {s : Nat} {g : Int} (h : SendI T L out (c :: l) s 0 g) (h1 : 0 < g) (k : ((jb c - s : Nat) : Int) ≤ g) : SendI T L (out ++ (jt c).1.drop s) l 0 (zcl c) (g - ((jb c - s : Nat) : Int)):=by
 have a:=h.out; have b:=h.rest
 rw [uq h1 k] at a b
 exact ⟨zoz h.ok,(zjn c).1,(zjn c).2,by have:=h.len; simp at this; omega,by rw [List.append_assoc]; exact a,b⟩
theorem SendI.start {l : List Cmd} {s : Nat} {p g : Int} (h : okS l s) (h0 : 0 ≤ p) (h2 : p ≤ 2) : SendI (xt l s p g) l.length [] l s p g:=⟨h,h0,h2,Nat.le_refl _,rfl,rfl⟩
attribute [local irreducible] zz zg AW AL AO QY qh z_ rsA Opd xh vA gvA zy qb slA jl ipA rpA EqK LnK IxK LdK FaK FdK
theorem zrm (room : Int) (l : List Cmd) (sent pad : Int) (off : Bool) (g : Int) (hl : l.length ≤ 90000) (hg : g ≤ 9223372036854775807) : AP Tryz.prog T0 133 [kp room l sent pad off,I g] (zqn room l sent pad off g):=by
 have c1:=uy (T0:=T0) room l sent pad off hl
 have c2 : True:=trivial
 have c3 : True:=trivial
 by_cases hk : okL room l sent pad = true ∧ off = false
 ·rw [zqn,if_pos hk]
  obtain ⟨hk,rfl⟩:=hk
  have hs:=zab hk
  rw [hk] at c1
  obtain ⟨hr,ha,h1,h2⟩:=zv hk
  obtain ⟨n,rfl⟩:=Int.eq_ofNat_of_zero_le hr.2.2.2.2
  simp only [Int.toNat_natCast] at hs ⊢
  have hT:=z28 (g:=g) hs hr.2.2.1 hr.2.2.2.1
  have b1:=yk l
  have i0:=SendI.start (g:=g) hs hr.2.2.1 hr.2.2.2.1
  generalize xt l n pad g = T at *
  refine za Tryz.func133 rfl (by decide) Tryz.ntmps133 rfl ?_
  repeat' (first
  |refine z32 ?_ | (refine zd ?_ ?_ <;> intro hb <;> try exact no_) | (refine sx_ ?_ <;> intro bb) | (refine su_ ?_ <;> intro u hu1 hu2) | fail)
  refine zr_ (σ:=List UInt8 × List Cmd × Nat × Int × Int) (fun x=>[(6,SA x.1),(1,I x.2.2.2.2)]) (fun x=>[I room,slA zc7 x.2.1,I x.2.2.1,I x.2.2.2.1,B false]) (fun x=>x.2.2.2.2 ≤ 9223372036854775807 ∧ SendI T l.length x.1 x.2.1 x.2.2.1 x.2.2.2.1 x.2.2.2.2) (fun x=>x.2.1.length) ([],l,n,pad,g) ⟨hg,i0⟩ rfl ?_
  rintro ⟨out,l',s,p,g'⟩ ⟨hg',i1⟩
  simp only at hg' i1 ⊢
  have hlen:=i1.len
  have hout : out.length ≤ T.1.length:=by rw [← i1.out,List.length_append]; omega
  clear hk c1 i0 hs
  cases l' with
  |nil =>
   have e:=i1.stop (.inl rfl)
   have h0 : ([] : List Cmd).length = 0:=rfl
   subst e
   repeat' (first
   |refine z32 ?_ | (refine zd ?_ ?_ <;> intro hb <;> try exact no_) | (refine sx_ ?_ <;> intro bb) | (refine su_ ?_ <;> intro u hu1 hu2) | fail)
   exact ⟨_,[],rl_,List.nil_sublist _,Sub.eq (by rfl),rfl⟩
  |cons c l' =>
   have hlt:=i1.ok.2.2 c l' rfl
   simp only [List.length_cons] at hlen
   have h9 : (c :: l').length = l'.length + 1:=rfl
   by_cases hp : p = 0
   ·subst hp
    have c2 : AP Tryz.prog T0 94 [slA zc7 (List.take (1 - 0) (List.drop 0 (c :: l')))] (SA (jt c).1):=(zg7 [c] (by simp)).to (by rw [zr1])
    have c3 : AP Tryz.prog T0 167 [slA zc7 [(c :: l')[0]]] (I (zcl c)):=(zz8 [c] (by simp)).to (by rw [zts])
    have hX : (jt c).1.length = jb c:=rfl
    have hle:=zau c
    have hL : (((jt c).1.drop s).take ((jt c).1.length - s)).length = jb c - s:=by rw [List.length_take,List.length_drop]; omega
    have e1 : ((jt c).1.drop s).take ((jt c).1.length - s) = (jt c).1.drop s:=zax _ _
    by_cases hg0 : g' ≤ 0
    ·have e:=i1.stop (.inr (.inr hg0))
     subst e
     repeat' (first
     |refine z32 ?_ | (refine zd ?_ ?_ <;> intro hb <;> try exact no_) | (refine sx_ ?_ <;> intro bb) | (refine su_ ?_ <;> intro u hu1 hu2) | fail)
     exact ⟨_,[],rl_,List.nil_sublist _,Sub.eq (by rfl),rfl⟩
    ·obtain ⟨m,rfl⟩:=Int.eq_ofNat_of_zero_le (show 0 ≤ g' by omega)
     repeat' (first
     |refine z32 ?_ | (refine zd ?_ ?_ <;> intro hb <;> try exact no_) | (refine sx_ ?_ <;> intro bb) | (refine su_ ?_ <;> intro u hu1 hu2) | fail)
     ·have e:=i1.part (by omega) (by omega)
      subst e
      refine ⟨_,[],rl_,List.nil_sublist _,Sub.eq ?_,rfl⟩
      rw [e1]; rfl
     ·have e2 : List.take ((c :: l').length - 1) (List.drop 1 (c :: l')) = l':=by simp
      have e3 : (m : Int) - ((jb c - s : Nat) : Int) = ((m - (jb c - s) : Nat) : Int):=by omega
      have i2:=i1.whole (by omega) (by omega)
      rw [e3] at i2
      refine ⟨(out ++ (jt c).1.drop s,l',0,zcl c,((m - (jb c - s) : Nat) : Int)),⟨by show ((m - (jb c - s) : Nat) : Int) ≤ _; omega,i2⟩,by simp, ?_, ?_⟩
      ·rw [← hL,e1]; dsimp only; exact wx_
      ·rw [e2]; exact sl_
   ·have e:=i1.stop (.inr (.inl hp))
    subst e
    repeat' (first
    |refine z32 ?_ | (refine zd ?_ ?_ <;> intro hb <;> try exact no_) | (refine sx_ ?_ <;> intro bb) | (refine su_ ?_ <;> intro u hu1 hu2) | fail)
    exact ⟨_,[],rl_,List.nil_sublist _,Sub.eq (by rfl),rfl⟩
 ·rw [zqn,if_neg hk]
  by_cases hk1 : okL room l sent pad = true
  ·have hoff : off = true:=by
    cases off
    ·exact absurd ⟨hk1,rfl⟩ hk
    ·rfl
   subst hoff
   rw [hk1] at c1
   refine za Tryz.func133 rfl (by decide) Tryz.ntmps133 rfl ?_
   repeat' (first
   |refine z32 ?_ | (refine zd ?_ ?_ <;> intro hb <;> try exact no_) | (refine sx_ ?_ <;> intro bb) | (refine su_ ?_ <;> intro u hu1 hu2) | fail)
   exact ⟨_,[],rl_,List.nil_sublist _,Sub.refl _,rfl⟩
  ·have hk2 : okL room l sent pad = false:=by simpa using hk1
   rw [hk2] at c1
   refine za Tryz.func133 rfl (by decide) Tryz.ntmps133 rfl ?_
   repeat' (first
   |refine z32 ?_ | (refine zd ?_ ?_ <;> intro hb <;> try exact no_) | (refine sx_ ?_ <;> intro bb) | (refine su_ ?_ <;> intro u hu1 hu2) | fail)
   exact ⟨_,[],rl_,List.nil_sublist _,Sub.refl _,rfl⟩
end
section
open Go Go.RowKit
variable {T0 : Gh}
set_option maxRecDepth 100000
attribute [local irreducible] zz zg AW AL AO QY qh z_ rsA Opd xh vA gvA zy qb slA jl ipA rpA EqK LnK IxK LdK FaK FdK
end
section
open Go Go.RowKit
variable {T0 : Gh}
set_option maxRecDepth 100000
def zx5 (room : Int) (l : List Cmd) (sent pad : Int) : Int:=if okL room l sent pad = true then max 0 (pad - 1) else pad
def zzp (room : Int) (l : List Cmd) (sent pad : Int) (off b : Bool) : Bool:=if okL room l sent pad = true then b else off
def zrw (sent : Int) : Nat:=if 0 < sent then 1 else 0
def z0q (room : Int) (l : List Cmd) (sent pad : Int) : List Cmd:=if okL room l sent pad = true then l.take (zrw sent) else l
def zuv (room : Int) (l : List Cmd) (sent pad : Int) : List Cmd:=if okL room l sent pad = true then l.drop (zrw sent) else []
attribute [local irreducible] zz zg AW AL AO QY qh z_ rsA Opd xh vA gvA zy qb slA jl ipA rpA EqK LnK IxK LdK FaK FdK
theorem zrl (room : Int) (l : List Cmd) (sent pad : Int) (off : Bool) (hl : l.length ≤ 90000) : AP Tryz.prog T0 100 [kp room l sent pad off] (kp room l sent (zx5 room l sent pad) off):=by
 have c1:=uy (T0:=T0) room l sent pad off hl
 by_cases hk : okL room l sent pad = true
 ·rw [hk] at c1
  obtain ⟨hr,_⟩:=zv hk
  rw [zx5,if_pos hk]
  refine za Tryz.func100 rfl (by decide) Tryz.ntmps100 rfl ?_
  repeat' (first
  |refine z7i ?_ | (refine zd ?_ ?_ <;> intro hb <;> try exact no_) | (refine sx_ ?_ <;> intro bb) | (refine su_ ?_ <;> intro u hu1 hu2) | fail)
  exact ⟨_,[],rl_,List.nil_sublist _,Sub.refl _,rfl⟩
 ·have hk2 : okL room l sent pad = false:=by simpa using hk
  rw [hk2] at c1
  rw [zx5,if_neg hk]
  refine za Tryz.func100 rfl (by decide) Tryz.ntmps100 rfl ?_
  repeat' (first
  |refine z7i ?_ | (refine zd ?_ ?_ <;> intro hb <;> try exact no_) | (refine sx_ ?_ <;> intro bb) | (refine su_ ?_ <;> intro u hu1 hu2) | fail)
  exact ⟨_,[],rl_,List.nil_sublist _,Sub.refl _,rfl⟩
theorem zrn (room : Int) (l : List Cmd) (sent pad : Int) (off b : Bool) (hl : l.length ≤ 90000) : AP Tryz.prog T0 102 [kp room l sent pad off,B b] (kp room l sent pad (zzp room l sent pad off b)):=by
 have c1:=uy (T0:=T0) room l sent pad off hl
 refine za Tryz.func102 rfl (by decide) Tryz.ntmps102 rfl ?_
 repeat' (first
 |refine z7i ?_ | (refine zd ?_ ?_ <;> intro hb <;> try exact no_) | (refine sx_ ?_ <;> intro bb) | (refine su_ ?_ <;> intro u hu1 hu2) | fail)
 ·exact ⟨_,[],rl_,List.nil_sublist _,Sub.eq (by rw [zzp,if_pos hb]),rfl⟩
 ·exact ⟨_,[],rl_,List.nil_sublist _,Sub.eq (by rw [zzp,if_neg (by rw [hb]; decide)]),rfl⟩
theorem zpy {room sent pad : Int} {l : List Cmd} (h : okL room l sent pad = true) : zrw sent ≤ l.length:=by
 unfold zrw
 cases l with
 |nil=>have:=zb1.1 h; split <;> simp; omega
 |cons c l=>split <;> simp
theorem zx9 {room : Int} {l m : List Cmd} {sent pad : Int} {off : Bool} : Sub (zy [kp room l sent pad off,vA (.slice none 0 0)]) (zy [kp room l sent pad off,slA zc7 []]):=wa (qu (Sub.refl _) (qu zon y4))
theorem zro (room : Int) (l : List Cmd) (sent pad : Int) (off : Bool) (hl : l.length ≤ 90000) : AP Tryz.prog T0 97 [kp room l sent pad off] (zy [kp room (z0q room l sent pad) sent pad off,slA zc7 (zuv room l sent pad)]):=by
 have c1:=uy (T0:=T0) room l sent pad off hl
 by_cases hk : okL room l sent pad = true
 ·rw [hk] at c1
  obtain ⟨hr,_⟩:=zv hk
  have hd:=zpy hk
  rw [z0q,zuv,if_pos hk,if_pos hk]
  obtain ⟨n,rfl⟩:=Int.eq_ofNat_of_zero_le hr.2.2.2.2
  have hn : zrw (n : Int) = min n 1:=by unfold zrw; split <;> omega
  refine za Tryz.func97 rfl (by decide) Tryz.ntmps97 rfl ?_
  repeat' (first
  |refine z7i ?_ | (refine zd ?_ ?_ <;> intro hb <;> try exact no_) | (refine sx_ ?_ <;> intro bb) | (refine su_ ?_ <;> intro u hu1 hu2) | fail)
  refine ⟨_,[],rl_,List.nil_sublist _, ?_,rfl⟩
  rw [hn]
  refine wa (qu (un (qu (Sub.refl _) (qu ?_ (qu (Sub.refl _) (qu (Sub.refl _) (qu (Sub.refl _) y4)))))) (qu ?_ y4))
  ·refine Sub.trans jc (Sub.eq ?_); simp
  ·exact Sub.eq (by rw [zax])
 ·have hk2 : okL room l sent pad = false:=by simpa using hk
  rw [hk2] at c1
  rw [z0q,zuv,if_neg hk,if_neg hk]
  refine za Tryz.func97 rfl (by decide) Tryz.ntmps97 rfl ?_
  repeat' (first
  |refine z7i ?_ | (refine zd ?_ ?_ <;> intro hb <;> try exact no_) | (refine sx_ ?_ <;> intro bb) | (refine su_ ?_ <;> intro u hu1 hu2) | fail)
  exact ⟨_,[],rl_,List.nil_sublist _,zx9 (m:=[]),rfl⟩
end
end Go.Proofs.YtgfmjmfphmjdkaaGreatDoor
