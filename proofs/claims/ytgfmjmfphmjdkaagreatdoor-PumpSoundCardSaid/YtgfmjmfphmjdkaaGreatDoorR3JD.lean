/- Layer 30 (pump): to drop, to forget all, other sides, a tick, to hold, by the program. No condition. -/
import Derived.Test.YtgfmjmfphmjdkaaGreatDoorR3JA
import Derived.Test.YtgfmjmfphmjdkaaGreatDoorR3BF
import Derived.Test.YtgfmjmfphmjdkaaGreatDoorR3J0
set_option linter.unusedSimpArgs false
set_option linter.unusedVariables false
set_option linter.unusedSectionVars false
namespace Go.Proofs.YtgfmjmfphmjdkaaGreatDoor
set_option maxHeartbeats 4000000
open Go Go.RowKit
set_option maxRecDepth 200000
theorem zwx {P : Program} {T0 : Gh} {fr : Fr} {M : List Own} {ops : Array Oper} {o : Oper} {α : Type} {T : Ty α} {t e : TypeId} {x y : Operand} {n : Nat} {d : α} {by' : Nat} {av : α → AV} {k k' : IntKind} (ho : o.op = .makeSlice t x y) (hu : P.underlying t = some (.slice e)) (he : El P T e d by' av) (hx : xh T0 fr x k n) (hy : xh T0 fr y k' n) (hn : by' * n ≤ 140737488355328) (hm : n ≤ maxLen) : AY P T0 ops o fr M (slA T (List.replicate n d)):=fun w0 G F a w next Qc hs hf hk _ =>
 zw5 ho hu he hx hy hn hm w0 G F a w next Qc hs hf (fun A M' G' u w' h hl hs' hr=>by
  obtain ⟨v,rfl,rfl⟩:=h
  obtain rfl:=hr.eq
  obtain ⟨G2,g1,g2,g3⟩:=St.freeze (i:=0) hs' rfl
  exact hk _ _ G2 _ w' ⟨rfl,rfl⟩ (hl.trans g1) g2 g3) (fun _ _ _ _ h=>h.elim)
theorem zlv (b : Bel) (sp : List (Int × Int)) (k : Nat) (f t : Int) (h : sp[k]? = some (f,t)) : xq b (sp.take (k + 1)) = xb (xq b (sp.take k)) f t true:=by
 obtain ⟨h1,h2⟩:=List.getElem?_eq_some_iff.1 h
 unfold xq
 rw [List.take_succ_eq_append_getElem h1,List.foldl_append,h2]; rfl
theorem zl3 {p : Pu} (hp : x8 p = true) : xm p = (xq p.1 (p.2.2.drop (p.2.1.2.1.take (ze5 p.2.1.2.2.1)).length),(p.2.1.1,p.2.1.2.1.take (ze5 p.2.1.2.2.1),p.2.1.2.2.1,p.2.1.2.2.2.1,p.2.1.2.2.2.2),p.2.2.take (p.2.1.2.1.take (ze5 p.2.1.2.2.1)).length):=by
 have h:=(zm.1 hp).2.1
 have e : (p.2.1.2.1.take (ze5 p.2.1.2.2.1)).length = ze5 p.2.1.2.2.1:=by rw [List.length_take]; have:=zpy h; exact Nat.min_eq_left this
 unfold xm
 rw [if_pos hp,e]
variable {T0 : Gh} [TabS T0]
attribute [local irreducible] zz zg AW AL AO QY qh z_ rsA Opd xh vA gvA zy qb slA jl ipA rpA EqK LnK IxK LdK FaK FdK
theorem zfo (p : Pu) (hl : p.2.1.2.1.length ≤ 1000) : AP Tryz.prog T0 36 [puA p] (puA (xm p)):=by
 have c1:=wk (T0:=T0) p (by omega)
 have c3 : True:=trivial
 by_cases hp : x8 p = true
 ·rw [hp] at c1
  rw [zl3 hp]
  have c2:=zro (T0:=T0) p.2.1.1 p.2.1.2.1 p.2.1.2.2.1 p.2.1.2.2.2.1 p.2.1.2.2.2.2 (by omega)
  rw [z0q,if_pos (zm.1 hp).2.1] at c2
  replace c2 : AP Tryz.prog T0 97 [kp p.2.1.1 p.2.1.2.1 p.2.1.2.2.1 p.2.1.2.2.2.1 p.2.1.2.2.2.2] (zy [kp p.2.1.1 (p.2.1.2.1.take (ze5 p.2.1.2.2.1)) p.2.1.2.2.1 p.2.1.2.2.2.1 p.2.1.2.2.2.2,slA zc7 (zuv p.2.1.1 p.2.1.2.1 p.2.1.2.2.1 p.2.1.2.2.2.1)]):=c2
  have hK : (p.2.1.2.1.take (ze5 p.2.1.2.2.1)).length ≤ p.2.2.length:=by
   have:=(zm.1 hp).2.2.2.1
   rw [List.length_take]; omega
  have h9 : p.2.2.length ≤ 1000:=by have:=(zm.1 hp).2.2.2.1; omega
  generalize p.2.1.2.1.take (ze5 p.2.1.2.2.1) = K at *
  generalize zuv p.2.1.1 p.2.1.2.1 p.2.1.2.2.1 p.2.1.2.2.2.1 = gone at *
  clear hp
  have ed:=zax p.2.2 K.length
  have et : (List.drop 0 p.2.2).take (K.length - 0) = p.2.2.take K.length:=by simp
  refine za Tryz.func36 rfl (by decide) Tryz.ntmps36 rfl ?_
  repeat' (first
  |(apply qe; (case hn=>rfl); (case hm=>kernel_rfl)) | refine g6_ ?_ | (apply jx; (case hL=>rfl); (case hne=>rfl)) | exact jy | apply xr | (apply ze7; (case ho=>rfl)) | (apply xp; exact wg) | (apply jv; (case h=>exact zel); (case hk=>exact wk_); (case hc=>rfl)) | refine zrb ?_ | (refine zd ?_ ?_ <;> intro hb <;> try exact no_) | (refine sx_ ?_ <;> intro bb) | (refine su_ ?_ <;> intro u hu1 hu2) | fail)
  all_goals first | exact e2_ | skip
  rw [ed]
  have hL : (p.2.2.drop K.length).length ≤ 1000:=by rw [List.length_drop]; omega
  generalize p.2.2.drop K.length = L at *
  refine zr_ (σ:=Nat × Bel) (fun z=>[(26,I z.1)]) (fun z=>[I z.2.1,I z.2.2.1,slA guT z.2.2.2.1,I z.2.2.2.2.1,I z.2.2.2.2.2.1,B z.2.2.2.2.2.2.1,B z.2.2.2.2.2.2.2,I p.2.1.1,slA zc7 p.2.1.2.1,I p.2.1.2.2.1,I p.2.1.2.2.2.1,B p.2.1.2.2.2.2,slA spT p.2.2]) (fun z=>z.1 ≤ L.length ∧ z.2 = xq p.1 (L.take z.1)) (fun z=>L.length - z.1) (0,p.1) ⟨Nat.zero_le _,rfl⟩ rfl ?_
  rintro ⟨k,d⟩ ⟨k1,k2⟩
  simp only at k1 k2
  by_cases hlt : k < L.length
  ·obtain ⟨⟨f,t⟩,hat⟩ : ∃ z,L[k]? = some z:=⟨_,List.getElem?_eq_getElem hlt⟩
   have c3 : AP Tryz.prog T0 98 [blA d,I f,I t,B true] (blA (xb d f t true)):=zrq _ _ _ _ _ _ _ _ _ _
   have k3 : xb d f t true = xq p.1 (L.take (k + 1)):=by rw [zlv _ _ _ _ _ hat,k2]
   generalize xb d f t true = d' at *
   repeat' (first
   |(apply qe; (case hn=>rfl); (case hm=>kernel_rfl)) | refine g6_ ?_ | (apply jx; (case hL=>rfl); (case hne=>rfl)) | exact jy | apply xr | (apply ze7; (case ho=>rfl)) | (apply xp; exact wg) | (apply jv; (case h=>exact zel); (case hk=>exact wk_); (case hc=>rfl)) | refine zrb ?_ | (refine zd ?_ ?_ <;> intro hb <;> try exact no_) | (refine sx_ ?_ <;> intro bb) | (refine su_ ?_ <;> intro u hu1 hu2) | fail)
   all_goals first | exact e1_ | skip
   exact ⟨(k + 1,d'),⟨by simp only; omega,k3⟩,by simp only; omega,wx_,sl_⟩
  ·rw [List.take_of_length_le (by omega)] at k2
   subst k2
   repeat' (first
   |(apply qe; (case hn=>rfl); (case hm=>kernel_rfl)) | refine g6_ ?_ | (apply jx; (case hL=>rfl); (case hne=>rfl)) | exact jy | apply xr | (apply ze7; (case ho=>rfl)) | (apply xp; exact wg) | (apply jv; (case h=>exact zel); (case hk=>exact wk_); (case hc=>rfl)) | refine zrb ?_ | (refine zd ?_ ?_ <;> intro hb <;> try exact no_) | (refine sx_ ?_ <;> intro bb) | (refine su_ ?_ <;> intro u hu1 hu2) | fail)
   all_goals first | exact e1_ | skip
   all_goals exact ⟨_,[],rl_,List.nil_sublist _,Sub.eq (by rw [et]),rfl⟩
 ·have hp' : x8 p = false:=by simpa using hp
  rw [hp'] at c1
  have e : xm p = p:=if_neg hp
  rw [e]
  have c2 : True:=trivial
  refine za Tryz.func36 rfl (by decide) Tryz.ntmps36 rfl ?_
  repeat' (first
  |refine zrb ?_ | (refine zd ?_ ?_ <;> intro hb <;> try exact no_) | (refine sx_ ?_ <;> intro bb) | (refine su_ ?_ <;> intro u hu1 hu2) | fail)
  all_goals first | exact qai | skip
theorem zpr (p : Pu) (hl : p.2.1.2.1.length ≤ 1000) : AP Tryz.prog T0 38 [puA p] (puA (zep p)):=by
 have c1:=wk (T0:=T0) p (by omega)
 have c2:=zfo (T0:=T0) p hl
 have c3:=zj9 (T0:=T0) (xm p).1.1 (xm p).1.2.1
 unfold zep
 generalize ye (xm p).1.1 (xm p).1.2.1 = z at *
 generalize xm p = q at *
 refine za Tryz.func38 rfl (by decide) Tryz.ntmps38 rfl ?_
 by_cases hp : x8 p = true
 ·rw [hp] at c1
  rw [if_pos hp]
  repeat' (first
  |refine zrb ?_ | (refine zd ?_ ?_ <;> intro hb <;> try exact no_) | (refine sx_ ?_ <;> intro bb) | (refine su_ ?_ <;> intro u hu1 hu2) | fail)
  all_goals first | exact z0p | skip
 ·rw [if_neg hp]
  rw [show x8 p = false by simpa using hp] at c1
  repeat' (first
  |refine zrb ?_ | (refine zd ?_ ?_ <;> intro hb <;> try exact no_) | (refine sx_ ?_ <;> intro bb) | (refine su_ ?_ <;> intro u hu1 hu2) | fail)
  all_goals first | exact z0p | skip
theorem zpo (p : Pu) (w h : Int) (hl : p.2.1.2.1.length ≤ 1000) : AP Tryz.prog T0 24 [puA p,I w,I h] (zy [puA (vi p w h).1,I (vi p w h).2]):=by
 have c1:=wk (T0:=T0) p (by omega)
 have c2:=zfo (T0:=T0) p hl
 have c3:=zj9 (T0:=T0) w h
 have h9 : (xm p).2.1.2.1.length ≤ 1000:=by
  by_cases hp : x8 p = true
  ·rw [zl3 hp]; simp only [List.length_take]; omega
  ·rw [show xm p = p from if_neg hp]; exact hl
 unfold vi
 generalize ye w h = z at *
 generalize xm p = q at *
 obtain ⟨d,e⟩:=z
 refine za Tryz.func24 rfl (by decide) Tryz.ntmps24 rfl ?_
 by_cases hp : x8 p = true
 ·rw [hp] at c1
  rw [if_pos hp]
  by_cases he : e = 0
  ·subst he
   rw [if_pos rfl]
   repeat' (first
   |(apply jg 9; (case hD=>decide +kernel); (case hB=>decide +kernel); (case hg=>decide +kernel); (case hm=>kernel_rfl); (case hs=>rfl)) | refine zsl ?_ | (apply zw (by rfl) (by kernel_rfl) (by kernel_rfl)) | refine zrb ?_ | (refine zd ?_ ?_ <;> intro hb <;> try exact no_) | (refine sx_ ?_ <;> intro bb) | (refine su_ ?_ <;> intro u hu1 hu2) | fail)
   all_goals first | exact z0p | skip
  ·rw [if_neg he]
   repeat' (first
   |(apply jg 9; (case hD=>decide +kernel); (case hB=>decide +kernel); (case hg=>decide +kernel); (case hm=>kernel_rfl); (case hs=>rfl)) | refine zsl ?_ | (apply zw (by rfl) (by kernel_rfl) (by kernel_rfl)) | refine zrb ?_ | (refine zd ?_ ?_ <;> intro hb <;> try exact no_) | (refine sx_ ?_ <;> intro bb) | (refine su_ ?_ <;> intro u hu1 hu2) | fail)
   all_goals first | exact z0p | skip
 ·rw [if_neg hp]
  rw [show x8 p = false by simpa using hp] at c1
  repeat' (first
  |(apply jg 9; (case hD=>decide +kernel); (case hB=>decide +kernel); (case hg=>decide +kernel); (case hm=>kernel_rfl); (case hs=>rfl)) | refine zsl ?_ | (apply zw (by rfl) (by kernel_rfl) (by kernel_rfl)) | refine zrb ?_ | (refine zd ?_ ?_ <;> intro hb <;> try exact no_) | (refine sx_ ?_ <;> intro bb) | (refine su_ ?_ <;> intro u hu1 hu2) | fail)
  all_goals first | exact z0p | skip
theorem zpn (p : Pu) (hl : p.2.1.2.1.length ≤ 1000) : AP Tryz.prog T0 40 [puA p] (puA (ky p)):=by
 have c1:=wk (T0:=T0) p (by omega)
 have c3 : True:=trivial
 refine za Tryz.func40 rfl (by decide) Tryz.ntmps40 rfl ?_
 by_cases hp : x8 p = true
 ·rw [hp] at c1
  have c2:=zrl (T0:=T0) p.2.1.1 p.2.1.2.1 p.2.1.2.2.1 p.2.1.2.2.2.1 p.2.1.2.2.2.2 (by omega)
  rw [zx5,if_pos (zm.1 hp).2.1] at c2
  rw [(zdr hp).2]
  clear hp
  repeat' (first
  |refine zrb ?_ | (refine zd ?_ ?_ <;> intro hb <;> try exact no_) | (refine sx_ ?_ <;> intro bb) | (refine su_ ?_ <;> intro u hu1 hu2) | fail)
  all_goals first | exact z0p | skip
 ·have e : ky p = p:=if_neg hp
  rw [e]
  rw [show x8 p = false by simpa using hp] at c1
  have c2 : True:=trivial
  repeat' (first
  |refine zrb ?_ | (refine zd ?_ ?_ <;> intro hb <;> try exact no_) | (refine sx_ ?_ <;> intro bb) | (refine su_ ?_ <;> intro u hu1 hu2) | fail)
  all_goals first | exact z0p | skip
theorem zpq (p : Pu) (off : Bool) (hl : p.2.1.2.1.length ≤ 1000) : AP Tryz.prog T0 42 [puA p,B off] (puA (zlp p off)):=by
 have c1:=wk (T0:=T0) p (by omega)
 have c3 : True:=trivial
 refine za Tryz.func42 rfl (by decide) Tryz.ntmps42 rfl ?_
 unfold zlp
 by_cases hp : x8 p = true
 ·rw [hp] at c1
  have c2:=zrn (T0:=T0) p.2.1.1 p.2.1.2.1 p.2.1.2.2.1 p.2.1.2.2.2.1 p.2.1.2.2.2.2 off (by omega)
  rw [zzp,if_pos (zm.1 hp).2.1] at c2
  rw [if_pos hp]
  clear hp
  repeat' (first
  |refine zrb ?_ | (refine zd ?_ ?_ <;> intro hb <;> try exact no_) | (refine sx_ ?_ <;> intro bb) | (refine su_ ?_ <;> intro u hu1 hu2) | fail)
  all_goals first | exact z0p | skip
 ·rw [if_neg hp]
  rw [show x8 p = false by simpa using hp] at c1
  have c2 : True:=trivial
  repeat' (first
  |refine zrb ?_ | (refine zd ?_ ?_ <;> intro hb <;> try exact no_) | (refine sx_ ?_ <;> intro bb) | (refine su_ ?_ <;> intro u hu1 hu2) | fail)
  all_goals first | exact z0p | skip
end Go.Proofs.YtgfmjmfphmjdkaaGreatDoor
