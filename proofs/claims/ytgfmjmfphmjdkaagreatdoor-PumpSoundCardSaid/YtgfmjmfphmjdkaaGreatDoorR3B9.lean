/- Layer 27 (belief): blanks (by the library's Repeat), what is laid, the next row, a sign, by the program. No condition. -/
import Derived.Test.YtgfmjmfphmjdkaaGreatDoorR3BR
set_option linter.unusedSimpArgs false
set_option linter.unusedVariables false
set_option linter.unusedSectionVars false
namespace Go.Proofs.YtgfmjmfphmjdkaaGreatDoor
set_option maxHeartbeats 4000000
open Go Go.RowKit
set_option maxRecDepth 100000
section
variable {P : Program} {T0 : Gh} {N : Fz} {Q : ko} {fr : Fr} {M M' M'' : List Own} {ops : Array Oper} {o : Oper} {rest : List Oper} {x0 : Nat}
theorem j9 {f : FuncId} {args : Array Operand} {ts : Array TypeId} {As : List AV} {m1 m2 : Own} {K : AV → List Own → Prop} (hg : o.guard = none) (hd : o.dst = some x0) (hN : Nat.blt x0 N.n = true) (ho : o.op = .call { callee:=.value (.func f),args:=args,argTypes:=ts }) (ha : OpdAll T0 fr args.toList As) (c : AF P T0 f As [m1,m2] K) (hM : Pick m1 M M') (hM2 : Pick m2 M' M'')
  (h : ∀ A M1,K A M1 → AL P T0 N false ops Q rest ((x0,A) :: fr) (M1 ++ M'')) : AL P T0 N false ops Q (o :: rest) fr M:=by
 refine zqi (zc4 ((hM2.perm.cons m1).trans hM.perm)) ?_
 refine zdh hg (zhr ho ha c rfl) hd hN (fun _ _ h=>by obtain ⟨_,_,h⟩:=h; exact h.elim) ?_
 rintro A _ ⟨M1,rfl,k⟩
 exact h A M1 k
end
variable {T0 : Gh} [TabS T0]
attribute [local irreducible] zz zg AW AL AO QY qh z_ rsA Opd xh vA gvA zy qb slA jl ipA rpA EqK LnK IxK LdK FaK FdK
theorem z4e (n : Nat) (hn : n ≤ 100000) : AF Tryz.prog T0 71 [I n] [] (fun A M' => ∃ u,A = vA u ∧ M' = [z_ qs 87 u (List.replicate n (32,0))]):=by
 refine za Tryz.func71 rfl (by decide) Tryz.ntmps71 rfl ?_
 repeat' (first
 |(apply zt rfl rfl rfl rfl (c:=zz_ (32,0) n hn)
   case ha=>exact os_
   rintro _ _ ⟨u,rfl,rfl⟩)
 |refine sa_ ?_ | refine qd ?_ (c:=by first | exact zbf | fail) | refine jd ?_ (hy:=by first | exact AY.sub (qa (T:=qs) [(32,0)] rfl un_ el_ rfl (by decide) ⟨_,px_,rfl⟩) jc | fail) | refine j0 ?_ | refine zr ?_ (c:=by intro hk hk2; first | exact zbf | fail) | refine qj ?_ (hy:=by intro hk hk2; first | exact AY.sub (qa (T:=qs) [(32,0)] rfl un_ el_ rfl (by decide) ⟨_,px_,rfl⟩) jc | fail) | refine sw_ ?_ | (refine zd ?_ ?_ <;> intro hb <;> try exact no_) | (refine sx_ ?_ <;> intro bb) | (refine su_ ?_ <;> intro u hu1 hu2) | fail)
 exact ⟨_,_,rl_,sl_,u,rfl,rfl⟩
theorem z7t (n : Nat) (hn : n ≤ 100000) : AP Tryz.prog T0 71 [I n] (slA qs (List.replicate n (32,0))):=(z4e n hn).frz1 zrc
theorem ua {α : Type} (l : List α) (a : Nat) (cs : List α) (k : Nat) (c : α) (hc : cs[k]? = some c) (h : a + cs.length ≤ l.length) : (ovr l a (cs.take k)).set (a + k) c = ovr l a (cs.take (k + 1)):=by
 obtain ⟨hk,hck⟩:=List.getElem?_eq_some_iff.1 hc
 have e1 : (cs.take k).length = k:=by rw [List.length_take]; omega
 have e2 : (cs.take (k + 1)).length = k + 1:=by rw [List.length_take]; omega
 have e3 : (l.take a).length = a:=by rw [List.length_take]; omega
 have e4 : (l.take a ++ cs.take k).length = a + k:=by rw [List.length_append,e1,e3]
 unfold ovr
 rw [e1,e2,List.set_append_right _ _ (by omega),e4,Nat.sub_self,List.drop_eq_getElem_cons (show a + k < l.length by omega),List.set_cons_zero,List.take_succ_eq_append_getElem hk,hck,Nat.add_assoc]
 simp
theorem z2c {g : zj} : kg (guA g) ((guT.enc g).map vA):=zeo
theorem z4i (w : Nat) (h : Int) (u : Value) (l : List zj) (x y : Int) (b s : Bool) (p : Nat) (cs : List zp) (hw : 1 ≤ w) (hw2 : w ≤ 1000) (hl : l.length ≤ 100000) (hp : p + cs.length ≤ l.length) (h2 : 0 < (p + cs.length) % w → p + cs.length < l.length) :
  AF Tryz.prog T0 70 [qb [I w,I h,vA u,I x,I y,B b,B s],I p,slA qs cs] [z_ guT 96 u l] (fun _ M'=>M' = [z_ guT 96 u (yi w l p cs)]):=by
 have hp1 : 0 < p % w → 1 ≤ p:=fun k=>by
  rcases Nat.eq_zero_or_pos p with h | h
  ·subst h; simp at k
  ·exact h
 have hset : 0 < p % w → gAt (l.set (p - 1) xw) (p + cs.length) = gAt l (p + cs.length):=fun k=>by
  have:=hp1 k
  rw [znn _ _ _ _ (by omega),if_neg (by omega)]
 refine za Tryz.func70 rfl (by decide) Tryz.ntmps70 rfl ?_
 repeat' (first
 |refine zzy ?_ | (refine zd ?_ ?_ <;> intro hb <;> try exact no_) | (refine sx_ ?_ <;> intro bb) | (refine su_ ?_ <;> intro u hu1 hu2) | fail)
 ·rename_i hb1
  have k1 : 0 < p % w:=by omega
  rw [hset k1] at hb
  have hz : yi w l p cs = ovr ((l.set (p - 1) xw).set (p + cs.length) xw) p (cs.map fun c=>(c,true)):=by
   unfold yi; simp only
   rw [if_pos ⟨by omega,hb.2⟩,if_pos ⟨k1,hb1.2⟩]
  obtain ⟨l2,hl2⟩ : ∃ l2 : List zj,l2 = ((l.set (p - 1) xw).set (p + cs.length) xw):=⟨_,rfl⟩
  have hl2' : l2.length = l.length:=by rw [hl2]; simp
  refine zsa (d:=fun k : Nat=>[(59,I k)]) (g:=fun k=>ovr l2 p ((cs.map fun c=>((c,true) : zj)).take k)) (fun k=>k ≤ cs.length) (fun k=>cs.length - k) 0 (Nat.zero_le _) ?_ ?_
  ·rw [hl2]; simp [ovr]
  rintro k k1
  have hl3 : (ovr l2 p ((cs.map fun c=>((c,true) : zj)).take k)).length = l.length:=by rw [j7 (by simp; omega),hl2']
  by_cases hlt : k < cs.length
  ·obtain ⟨⟨c1,c2⟩,hat⟩ : ∃ z,cs[k]? = some z:=⟨_,List.getElem?_eq_getElem hlt⟩
   have hst:=ua l2 p (cs.map fun c=>((c,true) : zj)) k ((c1,c2),true) (by simp [hat]) (by simp; omega)
   obtain ⟨l4,hl4⟩ : ∃ l4,l4 = ovr l2 p ((cs.map fun c=>((c,true) : zj)).take k):=⟨_,rfl⟩
   rw [← hl4] at hl3 hst ⊢
   repeat' (first
   |refine zzy ?_ | (refine zd ?_ ?_ <;> intro hb <;> try exact no_) | (refine sx_ ?_ <;> intro bb) | (refine su_ ?_ <;> intro u hu1 hu2) | fail)
   all_goals first | exact e1_ | skip
   refine ⟨k + 1,by omega,by omega,wx_, ?_⟩
   rw [← hst]; exact sl_
  ·obtain rfl : k = cs.length:=by omega
   repeat' (first
   |refine zzy ?_ | (refine zd ?_ ?_ <;> intro hb <;> try exact no_) | (refine sx_ ?_ <;> intro bb) | (refine su_ ?_ <;> intro u hu1 hu2) | fail)
   all_goals first | exact e1_ | skip
   refine ⟨_,_,rl_,List.Sublist.cons _ (List.Sublist.refl _), ?_⟩
   rw [List.take_of_length_le (by simp),hl2,hz]
 ·rename_i hb1
  have k1 : 0 < p % w:=by omega
  rw [hset k1] at hb
  have hz : yi w l p cs = ovr (l.set (p - 1) xw) p (cs.map fun c=>(c,true)):=by
   unfold yi; simp only
   rw [if_neg (fun z=>by rcases hb with hb | hb; omega; exact hb z.2),if_pos ⟨k1,hb1.2⟩]
  obtain ⟨l2,hl2⟩ : ∃ l2 : List zj,l2 = (l.set (p - 1) xw):=⟨_,rfl⟩
  have hl2' : l2.length = l.length:=by rw [hl2]; simp
  refine zsa (d:=fun k : Nat=>[(59,I k)]) (g:=fun k=>ovr l2 p ((cs.map fun c=>((c,true) : zj)).take k)) (fun k=>k ≤ cs.length) (fun k=>cs.length - k) 0 (Nat.zero_le _) ?_ ?_
  ·rw [hl2]; simp [ovr]
  rintro k k1
  have hl3 : (ovr l2 p ((cs.map fun c=>((c,true) : zj)).take k)).length = l.length:=by rw [j7 (by simp; omega),hl2']
  by_cases hlt : k < cs.length
  ·obtain ⟨⟨c1,c2⟩,hat⟩ : ∃ z,cs[k]? = some z:=⟨_,List.getElem?_eq_getElem hlt⟩
   have hst:=ua l2 p (cs.map fun c=>((c,true) : zj)) k ((c1,c2),true) (by simp [hat]) (by simp; omega)
   obtain ⟨l4,hl4⟩ : ∃ l4,l4 = ovr l2 p ((cs.map fun c=>((c,true) : zj)).take k):=⟨_,rfl⟩
   rw [← hl4] at hl3 hst ⊢
   repeat' (first
   |refine zzy ?_ | (refine zd ?_ ?_ <;> intro hb <;> try exact no_) | (refine sx_ ?_ <;> intro bb) | (refine su_ ?_ <;> intro u hu1 hu2) | fail)
   all_goals first | exact e1_ | skip
   refine ⟨k + 1,by omega,by omega,wx_, ?_⟩
   rw [← hst]; exact sl_
  ·obtain rfl : k = cs.length:=by omega
   repeat' (first
   |refine zzy ?_ | (refine zd ?_ ?_ <;> intro hb <;> try exact no_) | (refine sx_ ?_ <;> intro bb) | (refine su_ ?_ <;> intro u hu1 hu2) | fail)
   all_goals first | exact e1_ | skip
   refine ⟨_,_,rl_,List.Sublist.cons _ (List.Sublist.refl _), ?_⟩
   rw [List.take_of_length_le (by simp),hl2,hz]
 ·rename_i hb1
  have hz : yi w l p cs = ovr (l.set (p + cs.length) xw) p (cs.map fun c=>(c,true)):=by
   unfold yi; simp only
   rw [if_pos ⟨by omega,hb.2⟩,if_neg (fun z=>by rcases hb1 with hb1 | hb1; omega; exact hb1 z.2)]
  obtain ⟨l2,hl2⟩ : ∃ l2 : List zj,l2 = (l.set (p + cs.length) xw):=⟨_,rfl⟩
  have hl2' : l2.length = l.length:=by rw [hl2]; simp
  refine zsa (d:=fun k : Nat=>[(59,I k)]) (g:=fun k=>ovr l2 p ((cs.map fun c=>((c,true) : zj)).take k)) (fun k=>k ≤ cs.length) (fun k=>cs.length - k) 0 (Nat.zero_le _) ?_ ?_
  ·rw [hl2]; simp [ovr]
  rintro k k1
  have hl3 : (ovr l2 p ((cs.map fun c=>((c,true) : zj)).take k)).length = l.length:=by rw [j7 (by simp; omega),hl2']
  by_cases hlt : k < cs.length
  ·obtain ⟨⟨c1,c2⟩,hat⟩ : ∃ z,cs[k]? = some z:=⟨_,List.getElem?_eq_getElem hlt⟩
   have hst:=ua l2 p (cs.map fun c=>((c,true) : zj)) k ((c1,c2),true) (by simp [hat]) (by simp; omega)
   obtain ⟨l4,hl4⟩ : ∃ l4,l4 = ovr l2 p ((cs.map fun c=>((c,true) : zj)).take k):=⟨_,rfl⟩
   rw [← hl4] at hl3 hst ⊢
   repeat' (first
   |refine zzy ?_ | (refine zd ?_ ?_ <;> intro hb <;> try exact no_) | (refine sx_ ?_ <;> intro bb) | (refine su_ ?_ <;> intro u hu1 hu2) | fail)
   all_goals first | exact e1_ | skip
   refine ⟨k + 1,by omega,by omega,wx_, ?_⟩
   rw [← hst]; exact sl_
  ·obtain rfl : k = cs.length:=by omega
   repeat' (first
   |refine zzy ?_ | (refine zd ?_ ?_ <;> intro hb <;> try exact no_) | (refine sx_ ?_ <;> intro bb) | (refine su_ ?_ <;> intro u hu1 hu2) | fail)
   all_goals first | exact e1_ | skip
   refine ⟨_,_,rl_,List.Sublist.cons _ (List.Sublist.refl _), ?_⟩
   rw [List.take_of_length_le (by simp),hl2,hz]
 ·rename_i hb1
  have hz : yi w l p cs = ovr l p (cs.map fun c=>(c,true)):=by
   unfold yi; simp only
   rw [if_neg (fun z=>by rcases hb with hb | hb; omega; exact hb z.2),if_neg (fun z=>by rcases hb1 with hb1 | hb1; omega; exact hb1 z.2)]
  obtain ⟨l2,hl2⟩ : ∃ l2 : List zj,l2 = l:=⟨_,rfl⟩
  have hl2' : l2.length = l.length:=by rw [hl2]
  refine zsa (d:=fun k : Nat=>[(59,I k)]) (g:=fun k=>ovr l2 p ((cs.map fun c=>((c,true) : zj)).take k)) (fun k=>k ≤ cs.length) (fun k=>cs.length - k) 0 (Nat.zero_le _) ?_ ?_
  ·rw [hl2]; simp [ovr]
  rintro k k1
  have hl3 : (ovr l2 p ((cs.map fun c=>((c,true) : zj)).take k)).length = l.length:=by rw [j7 (by simp; omega),hl2']
  by_cases hlt : k < cs.length
  ·obtain ⟨⟨c1,c2⟩,hat⟩ : ∃ z,cs[k]? = some z:=⟨_,List.getElem?_eq_getElem hlt⟩
   have hst:=ua l2 p (cs.map fun c=>((c,true) : zj)) k ((c1,c2),true) (by simp [hat]) (by simp; omega)
   obtain ⟨l4,hl4⟩ : ∃ l4,l4 = ovr l2 p ((cs.map fun c=>((c,true) : zj)).take k):=⟨_,rfl⟩
   rw [← hl4] at hl3 hst ⊢
   repeat' (first
   |refine zzy ?_ | (refine zd ?_ ?_ <;> intro hb <;> try exact no_) | (refine sx_ ?_ <;> intro bb) | (refine su_ ?_ <;> intro u hu1 hu2) | fail)
   all_goals first | exact e1_ | skip
   refine ⟨k + 1,by omega,by omega,wx_, ?_⟩
   rw [← hst]; exact sl_
  ·obtain rfl : k = cs.length:=by omega
   repeat' (first
   |refine zzy ?_ | (refine zd ?_ ?_ <;> intro hb <;> try exact no_) | (refine sx_ ?_ <;> intro bb) | (refine su_ ?_ <;> intro u hu1 hu2) | fail)
   all_goals first | exact e1_ | skip
   refine ⟨_,_,rl_,List.Sublist.cons _ (List.Sublist.refl _), ?_⟩
   rw [List.take_of_length_le (by simp),hl2,hz]
theorem zfp (w h : Int) (u : Value) (l : List zj) (x y : Int) (b s : Bool) (p : Int) (cs : List zp) (hw : 1 ≤ w) (hw2 : w ≤ 1000) (hl : l.length ≤ 100000) (hp0 : 0 ≤ p) (hp : p + cs.length ≤ l.length) (h2 : 0 < (p.toNat + cs.length) % w.toNat → p.toNat + cs.length < l.length) :
  AF Tryz.prog T0 70 [qb [I w,I h,vA u,I x,I y,B b,B s],I p,slA qs cs] [z_ guT 96 u l] (fun _ M'=>M' = [z_ guT 96 u (yi w.toNat l p.toNat cs)]):=by
 obtain ⟨w,rfl⟩:=Int.eq_ofNat_of_zero_le (show 0 ≤ w by omega)
 obtain ⟨p,rfl⟩:=Int.eq_ofNat_of_zero_le hp0
 exact z4i w h u l x y b s p cs (by omega) (by omega) hl (by omega) h2
theorem zvj (n : Int) (h0 : 0 ≤ n) (hn : n ≤ 100000) : AP Tryz.prog T0 71 [I n] (slA qs (List.replicate n.toNat (32,0))):=by
 obtain ⟨n,rfl⟩:=Int.eq_ofNat_of_zero_le h0
 exact z7t n (by omega)
end Go.Proofs.YtgfmjmfphmjdkaaGreatDoor
