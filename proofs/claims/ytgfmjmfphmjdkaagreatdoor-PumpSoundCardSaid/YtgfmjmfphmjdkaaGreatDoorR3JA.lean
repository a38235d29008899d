/- Layer 30 (pump): is a pump right? Is it too much? Are two the same? A new one. No condition. -/
import Derived.Test.YtgfmjmfphmjdkaaGreatDoorR3KR
import Derived.Test.YtgfmjmfphmjdkaaGreatDoorR3ZK
import Derived.Test.YtgfmjmfphmjdkaaGreatDoorR3BR
import Derived.Test.YtgfmjmfphmjdkaaGreatDoorR3BA
import Derived.Test.YtgfmjmfphmjdkaaGreatDoorR3H1
import Derived.Test.YtgfmjmfphmjdkaaGreatDoorR3B1
import Derived.Test.YtgfmjmfphmjdkaaGreatDoorR3BC
import Derived.Test.YtgfmjmfphmjdkaaGreatDoorR3BE
import Derived.Test.YtgfmjmfphmjdkaaGreatDoorR3BF
import Derived.Test.YtgfmjmfphmjdkaaGreatDoorR3H7
import Derived.Test.YtgfmjmfphmjdkaaGreatDoorR3ZS
import Derived.Test.YtgfmjmfphmjdkaaGreatDoorR3LA
import Derived.Test.YtgfmjmfphmjdkaaGreatDoorR3O4
set_option linter.unusedSimpArgs false
set_option linter.unusedVariables false
set_option linter.unusedSectionVars false
namespace Go.Proofs.YtgfmjmfphmjdkaaGreatDoor
set_option maxHeartbeats 4000000
open Go Go.RowKit
set_option maxRecDepth 200000
theorem z81 {α : Type} {p : α → Bool} {l : List α} {k : Nat} (h : ∀ i s,i < k → l[i]? = some s → p s = true) (hk : l.length ≤ k) : l.all p = true:=List.all_eq_true.2 fun s hs=>by
 obtain ⟨i,hi⟩:=List.getElem?_of_mem hs
 exact h i s (by have:=(List.getElem?_eq_some_iff.1 hi).1; omega) hi
theorem z82 {α : Type} {p : α → Bool} {l : List α} {k : Nat} {s : α} (h : l[k]? = some s) (h2 : p s = false) : l.all p = false:=by
 cases e : l.all p with
 |false=>rfl
 |true=>rw [List.all_eq_true.1 e s (List.mem_of_getElem? h)] at h2; cases h2
theorem zzm {α : Type} {p : α → Bool} {l : List α} {k : Nat} {s : α} (h : ∀ i s,i < k → l[i]? = some s → p s = true) (hs : l[k]? = some s) (h2 : p s = true) : ∀ i s,i < k + 1 → l[i]? = some s → p s = true:=fun i t hi ht=>by
 rcases Nat.lt_or_ge i k with q | q
 ·exact h i t q ht
 ·rw [show i = k by omega,hs] at ht; injection ht with ht; rw [← ht]; exact h2
theorem sn_ {A A' : AV} (h : Sub A A':=by
 first
 |(repeat' (first
   |exact y4
   |apply qu
   |exact Sub.refl _
   |exact zjb
   |exact jc
   |apply un
   |apply wa)
   done)
 |fail) : Sub A A':=h
theorem zya {n : Nat} {f t : Int} (h : (f < 0 ∨ t < f) ∨ (n : Int) < t) : ju n (f,t) = false:=by
 simp only [ju]
 rcases h with (h | h) | h
 ·rw [decide_eq_false (by omega)]; rfl
 ·rw [decide_eq_false (p:=f ≤ t) (by omega)]; simp
 ·rw [decide_eq_false (p:=t ≤ (n : Int)) (by omega)]; simp
theorem zx_ {n : Nat} {f t : Int} (h : (¬ f < 0 ∧ ¬ t < f) ∧ ¬ (n : Int) < t) : ju n (f,t) = true:=by
 simp only [ju,Bool.and_eq_true,decide_eq_true_eq]; omega
variable {T0 : Gh} [TabS T0]
attribute [local irreducible] zz zg AW AL AO QY qh z_ rsA Opd xh vA gvA zy qb slA jl ipA rpA EqK LnK IxK LdK FaK FdK
theorem wk (p : Pu) (hl : p.2.1.2.1.length ≤ 90000) : AP Tryz.prog T0 28 [puA p] (B (x8 p)):=by
 have c1 : AP Tryz.prog T0 63 [blA p.1] (B (ub p.1)):=vy _ _ _ _ _ _ _
 have c2:=uy (T0:=T0) p.2.1.1 p.2.1.2.1 p.2.1.2.2.1 p.2.1.2.2.2.1 p.2.1.2.2.2.2 hl
 refine za Tryz.func28 rfl (by decide) Tryz.ntmps28 rfl ?_
 have e : x8 p = (ub p.1 && okL p.2.1.1 p.2.1.2.1 p.2.1.2.2.1 p.2.1.2.2.2.1 && decide (p.2.1.1 = 48) && decide (p.2.2.length = p.2.1.2.1.length) && p.2.2.all (ju p.1.2.2.1.length)):=rfl
 rw [e]
 generalize ub p.1 = v1 at *
 generalize okL p.2.1.1 p.2.1.2.1 p.2.1.2.2.1 p.2.1.2.2.2.1 = v2 at *
 clear e
 repeat' (first
 |refine g7_ ?_ | (refine zd ?_ ?_ <;> intro hb <;> try exact no_) | (refine sx_ ?_ <;> intro bb) | (refine su_ ?_ <;> intro u hu1 hu2) | fail)
 ·refine ⟨_,[],rl_,List.nil_sublist _,Sub.eq (congrArg B ?_),rfl⟩
  rcases hb with ((hb | hb) | hb) | hb
  ·rw [hb]; rfl
  ·rw [hb,Bool.and_false]; rfl
  ·rw [decide_eq_false hb,Bool.and_false]; rfl
  ·rw [decide_eq_false (p:=p.2.2.length = p.2.1.2.1.length) (by omega),Bool.and_false]; rfl
 have e : (v1 && v2 && decide (p.2.1.1 = 48) && decide (p.2.2.length = p.2.1.2.1.length) && p.2.2.all (ju p.1.2.2.1.length)) = p.2.2.all (ju p.1.2.2.1.length):=by
  obtain ⟨⟨⟨q1,q2⟩,q3⟩,q4⟩:=hb
  rw [q1,q2,decide_eq_true q3,decide_eq_true (p:=p.2.2.length = p.2.1.2.1.length) (by omega)]; rfl
 rw [e]
 have h9 : p.2.2.length ≤ 90000:=by have:=hb.2; omega
 clear e hb
 refine zdc (fun k : Nat=>[(34,I k)]) (fun k=>k ≤ p.2.2.length ∧ ∀ i s,i < k → p.2.2[i]? = some s → ju p.1.2.2.1.length s = true) (fun k=>p.2.2.length - k) 0 ⟨Nat.zero_le _,fun _ _ z=>absurd z (Nat.not_lt_zero _)⟩ ?_
 rintro k ⟨k1,k2⟩
 by_cases hlt : k < p.2.2.length
 ·obtain ⟨⟨f,t⟩,hat⟩ : ∃ z,p.2.2[k]? = some z:=⟨_,List.getElem?_eq_getElem hlt⟩
  repeat' (first
  |refine g7_ ?_ | (refine zd ?_ ?_ <;> intro hb <;> try exact no_) | (refine sx_ ?_ <;> intro bb) | (refine su_ ?_ <;> intro u hu1 hu2) | fail)
  ·exact ⟨_,[],rl_,List.nil_sublist _,Sub.eq (congrArg B (z82 hat (zya hb)).symm),rfl⟩
  ·exact ⟨k + 1,⟨by omega,zzm k2 hat (zx_ hb)⟩,by omega,wx_,sl_⟩
 ·repeat' (first
  |refine g7_ ?_ | (refine zd ?_ ?_ <;> intro hb <;> try exact no_) | (refine sx_ ?_ <;> intro bb) | (refine su_ ?_ <;> intro u hu1 hu2) | fail)
  exact ⟨_,[],rl_,List.nil_sublist _,Sub.eq (congrArg B (z81 k2 (by omega)).symm),rfl⟩
theorem zj5 (p : Pu) : AP Tryz.prog T0 21 [puA p] (B (decide ((2000 : Int) < p.1.2.2.1.length) || decide ((200 : Int) < p.2.1.2.1.length) || decide ((200 : Int) < p.2.2.length))):=by
 refine za Tryz.func21 rfl (by decide) Tryz.ntmps21 rfl ?_
 repeat' (first
 |refine g7_ ?_ | (refine zd ?_ ?_ <;> intro hb <;> try exact no_) | (refine sx_ ?_ <;> intro bb) | (refine su_ ?_ <;> intro u hu1 hu2) | fail)
 exact ⟨_,[],rl_,List.nil_sublist _,Sub.refl _,rfl⟩
theorem zvi (w h : Int) : AP Tryz.prog T0 22 [I w,I h] (zy [puA (ze1 w h).1,I (ze1 w h).2]):=by
 have c1:=zj9 (T0:=T0) w h
 have c2 : AP Tryz.prog T0 83 [I 48] (zy [kp 48 [] 0 0 false,I 0]):=(zg6 48).to (by rw [z5s,if_pos (by decide)])
 unfold ze1
 generalize ye w h = z at *
 obtain ⟨⟨a1,a2,a3,a4,a5,a6,a7⟩,a8⟩:=z
 by_cases h0 : a8 = 0
 ·rw [if_pos h0]
  subst h0
  refine za Tryz.func22 rfl (by decide) Tryz.ntmps22 rfl ?_
  repeat' (first
  |refine g7_ ?_ | (refine zd ?_ ?_ <;> intro hb <;> try exact no_) | (refine sx_ ?_ <;> intro bb) | (refine su_ ?_ <;> intro u hu1 hu2) | fail)
  all_goals first | exact z9h | skip
 ·rw [if_neg h0]
  refine za Tryz.func22 rfl (by decide) Tryz.ntmps22 rfl ?_
  repeat' (first
  |refine g7_ ?_ | (refine zd ?_ ?_ <;> intro hb <;> try exact no_) | (refine sx_ ?_ <;> intro bb) | (refine su_ ?_ <;> intro u hu1 hu2) | fail)
  all_goals first | (exfalso; omega) | exact ⟨_,[],rl_,List.nil_sublist _,sn_,rfl⟩ | skip
theorem z0a (p : Pu) (h1 : p.1.2.2.1.length ≤ 100000) (h2 : p.2.1.2.1.length ≤ 90000) (h3 : p.2.2.length ≤ 90000) : AP Tryz.prog T0 27 [puA p,puA p] (B true):=by
 have c1 : AP Tryz.prog T0 86 [blA p.1,blA p.1] (B true):=(znq p.1.1 p.1.2.1 p.1.2.2.1 p.1.2.2.2.1 p.1.2.2.2.2.1 p.1.2.2.2.2.2.1 p.1.2.2.2.2.2.2 p.1.1 p.1.2.1 p.1.2.2.1 p.1.2.2.2.1 p.1.2.2.2.2.1 p.1.2.2.2.2.2.1 p.1.2.2.2.2.2.2 h1).to (by rw [zqo])
 have c2:=(znr (T0:=T0) p.2.1.1 p.2.1.1 p.2.1.2.1 p.2.1.2.1 p.2.1.2.2.1 p.2.1.2.2.1 p.2.1.2.2.2.1 p.2.1.2.2.2.1 p.2.1.2.2.2.2 p.2.1.2.2.2.2 h2 h2).to (A':=B true) (congrArg B (decide_eq_true rfl))
 refine za Tryz.func27 rfl (by decide) Tryz.ntmps27 rfl ?_
 repeat' (first
 |refine z_0 ?_ | (refine zd ?_ ?_ <;> intro hb <;> try exact no_) | (refine sx_ ?_ <;> intro bb) | (refine su_ ?_ <;> intro u hu1 hu2) | fail)
 all_goals first | exact e2_ | skip
 refine zdc (fun k : Nat=>[(5,I k)]) (fun k=>k ≤ p.2.2.length) (fun k=>p.2.2.length - k) 0 (Nat.zero_le _) ?_
 rintro k k1
 by_cases hlt : k < p.2.2.length
 ·obtain ⟨⟨f,t⟩,hat⟩ : ∃ z,p.2.2[k]? = some z:=⟨_,List.getElem?_eq_getElem hlt⟩
  repeat' (first
  |refine z_0 ?_ | (refine zd ?_ ?_ <;> intro hb <;> try exact no_) | (refine sx_ ?_ <;> intro bb) | (refine su_ ?_ <;> intro u hu1 hu2) | fail)
  all_goals first | (exfalso; simp at hb; done) | exact ⟨k + 1,by omega,by omega,wx_,sl_⟩ | skip
 ·repeat' (first
  |refine z_0 ?_ | (refine zd ?_ ?_ <;> intro hb <;> try exact no_) | (refine sx_ ?_ <;> intro bb) | (refine su_ ?_ <;> intro u hu1 hu2) | fail)
  all_goals first | exact z8d | skip
end Go.Proofs.YtgfmjmfphmjdkaaGreatDoor
namespace Go.Proofs.YtgfmjmfphmjdkaaGreatDoor
set_option maxHeartbeats 4000000
open Go Go.RowKit
set_option maxRecDepth 200000
abbrev woX (b : Nat) (p : Pu) (a1 a2 a3 a4 a5 a6 : AV) (s : List UInt8) : Own:=qh b 123 [I p.1.1,I p.1.2.1,slA guT p.1.2.2.1,I p.1.2.2.2.1,I p.1.2.2.2.2.1,B p.1.2.2.2.2.2.1,B p.1.2.2.2.2.2.2,I p.2.1.1,slA zc7 p.2.1.2.1,I p.2.1.2.2.1,I p.2.1.2.2.2.1,B p.2.1.2.2.2.2,slA spT p.2.2,a1,a2,a3,a4,a5,a6,SA s]
abbrev woO (b : Nat) (p : Pu) (t : Tm) (s : List UInt8) : Own:=woX b p (I t.1) (I t.2.1) (slA qs t.2.2.1) (I t.2.2.2.1) (I t.2.2.2.2.1) (B t.2.2.2.2.2) s
theorem zty {room : Int} {l : List Cmd} {sent pad : Int} {off : Bool} {c : Cmd} (h : okL room l sent pad = true) (hc : z9 c = true) (hr : (qr l : Int) - sent + jb c ≤ room) : zee room l sent pad off c = zy [kp room (l ++ [c]) sent pad off,I 0]:=by
 rw [zee,if_pos ⟨h,hc⟩,if_neg (by omega)]
theorem ztz {room : Int} {l : List Cmd} {sent pad : Int} {off : Bool} {c : Cmd} (hr : ¬ (qr l : Int) - sent + jb c ≤ room) : ∃ e,e ≠ 0 ∧ zee room l sent pad off c = zy [kp 0 [] 0 0 false,I e]:=by
 unfold zee
 split
 ·exact ⟨5,by decide,by rw [if_pos (by omega)]⟩
 ·exact ⟨1,by decide,rfl⟩
theorem zqm {p : Pu} {g : Int} (hp : x8 p = true) : (zi p g).2.2.1.2.1.length ≤ p.2.1.2.1.length:=by
 obtain ⟨_,_,_,_,_,_,k,h1,h2,_⟩:=k_ (g:=g) hp
 rw [h1,List.length_drop]; omega
variable {T0 : Gh} [TabS T0]
theorem zps (b : Bel) (t : Tm) : AP Tryz.prog T0 14 [blA b,tmA t] (zy [yw (zu b t).1,I (zu b t).2]):=z4f _ _ _ _ _ _ _ _ _ _ _ _ _
attribute [local irreducible] zz zg AW AL AO QY qh z_ rsA Opd xh vA gvA zy qb slA jl ipA rpA EqK LnK IxK LdK FaK FdK
theorem zrk (b : Nat) (p : Pu) (t : Tm) (s : List UInt8) (hl : p.2.1.2.1.length ≤ 90000) (h : xe p t = none) : AF Tryz.prog T0 91 [ptA b] [woO b p t s] (fun A M'=>A = B false ∧ M' = [woO b p t s]):=by
 have c1:=zps (T0:=T0) p.1 t
 have c3 : True:=trivial
 have c4 : True:=trivial
 have h':=uc.1 h
 by_cases h0 : (zu p.1 t).2 = 0
 ·have hr : ¬ (qr p.2.1.2.1 : Int) - p.2.1.2.2.1 + jb (zu p.1 t).1 ≤ p.2.1.1:=fun z=>h' ⟨h0,z⟩
  obtain ⟨e,he,e2⟩:=ztz (pad:=p.2.1.2.2.2.1) (off:=p.2.1.2.2.2.2) hr
  have c2:=zg5 (T0:=T0) p.2.1.1 p.2.1.2.1 p.2.1.2.2.1 p.2.1.2.2.2.1 p.2.1.2.2.2.2 (zu p.1 t).1 hl
  rw [e2] at c2
  rw [h0] at c1
  clear h0 hr h' h e2
  generalize (zu p.1 t).1 = z at *
  obtain ⟨k,a,d,r⟩:=z
  refine za Tryz.func91 rfl (by decide) Tryz.ntmps91 rfl ?_
  repeat' (first
  |refine zfk ?_ | (apply xf 10; (case hB=>decide +kernel); (case hn=>rfl); (case hg=>decide +kernel); (case hm=>kernel_rfl); (case hs=>rfl)) | (apply xf 13; (case hB=>decide +kernel); (case hn=>rfl); (case hg=>decide +kernel); (case hm=>kernel_rfl); (case hs=>rfl)) | refine zru ?_ | (refine qw rfl rfl rfl rfl al_ ?_; intro bn) | (apply qv rfl rfl rfl; (case hx=>exact oo_); (case hz=>exact sz_); (case hy=>exact oo_); (case hc=>exact zc8); (case hl=>rfl); (case h1=>exact vw); (case hU=>exact yd); (case hs=>exact vh)) | (apply zew rfl rfl rfl; (case hy=>exact y_)) | refine z_1 ?_ | (apply zw (by rfl) (by kernel_rfl) (by kernel_rfl)) | refine z_2 ?_ | (refine zd ?_ ?_ <;> intro hb <;> try exact no_) | (refine sx_ ?_ <;> intro bb) | (refine su_ ?_ <;> intro u hu1 hu2) | fail)
  all_goals first | (exfalso; omega) | exact ⟨_,[woO b p t s],rl_,sl_,rfl,rfl⟩ | skip
 ·have c2 : True:=trivial
  generalize zu p.1 t = z at *
  obtain ⟨⟨k,a,d,r⟩,e⟩:=z
  simp only at h0
  refine za Tryz.func91 rfl (by decide) Tryz.ntmps91 rfl ?_
  repeat' (first
  |refine zfk ?_ | (apply xf 10; (case hB=>decide +kernel); (case hn=>rfl); (case hg=>decide +kernel); (case hm=>kernel_rfl); (case hs=>rfl)) | (apply xf 13; (case hB=>decide +kernel); (case hn=>rfl); (case hg=>decide +kernel); (case hm=>kernel_rfl); (case hs=>rfl)) | refine zru ?_ | (refine qw rfl rfl rfl rfl al_ ?_; intro bn) | (apply qv rfl rfl rfl; (case hx=>exact oo_); (case hz=>exact sz_); (case hy=>exact oo_); (case hc=>exact zc8); (case hl=>rfl); (case h1=>exact vw); (case hU=>exact yd); (case hs=>exact vh)) | (apply zew rfl rfl rfl; (case hy=>exact y_)) | refine z_1 ?_ | (apply zw (by rfl) (by kernel_rfl) (by kernel_rfl)) | refine z_2 ?_ | (refine zd ?_ ?_ <;> intro hb <;> try exact no_) | (refine sx_ ?_ <;> intro bb) | (refine su_ ?_ <;> intro u hu1 hu2) | fail)
  all_goals first | (exfalso; omega) | exact ⟨_,[woO b p t s],rl_,sl_,rfl,rfl⟩ | skip
theorem zrj (b : Nat) (p q : Pu) (t : Tm) (s : List UInt8) (hp : x8 p = true) (hf : qz p.1 t) (hl : p.2.1.2.1.length ≤ 1000) (h : xe p t = some q) : AF Tryz.prog T0 91 [ptA b] [woO b p t s] (fun A M'=>A = B true ∧ M' = [woO b q t s]):=by
 obtain ⟨_,o2,o3,o4,o5,o6⟩:=j8 hp hf h
 obtain ⟨_,h2,h3,h4,_⟩:=zm.1 hp
 have hr : (qr p.2.1.2.1 : Int) - p.2.1.2.2.1 + jb (zu p.1 t).1 ≤ p.2.1.1:=Classical.byContradiction fun z=>by
  rw [uc.2 fun y=>z y.2] at h; cases h
 have c1:=zps (T0:=T0) p.1 t
 have c2:=zg5 (T0:=T0) p.2.1.1 p.2.1.2.1 p.2.1.2.2.1 p.2.1.2.2.2.1 p.2.1.2.2.2.2 (zu p.1 t).1 (by omega)
 rw [zty h2 o5 hr,h3] at c2
 rw [o6] at c1
 have c3 : AP Tryz.prog T0 132 [blA p.1,yw (zu p.1 t).1] (zy [I (jh p.1 (zu p.1 t).1).1,I (jh p.1 (zu p.1 t).1).2]):=zvt _ _ _ _ _ _ _ _
 have c4 : AP Tryz.prog T0 19 [blA p.1,yw (zu p.1 t).1] (zy [blA (doB p.1 (zu p.1 t).1).1,I (doB p.1 (zu p.1 t).1).2]):=z70 _ _ _ _ _ _ _ _
 have eq : q = ((doB p.1 (zu p.1 t).1).1,(48,p.2.1.2.1 ++ [(zu p.1 t).1],p.2.1.2.2.1,p.2.1.2.2.2.1,p.2.1.2.2.2.2),p.2.2 ++ [jh p.1 (zu p.1 t).1]):=Prod.ext o3 (Prod.ext o2 o4)
 have e0 : (List.drop 0 p.2.2).take (p.2.2.length - 0) = p.2.2:=by simp
 rw [eq]
 rw [h3] at hr
 obtain ⟨⟨w,h0,l,x,y,bb,s0⟩,⟨room,kl,sent,pad,off⟩,sp⟩:=p
 simp only at h3 h4 c1 c2 c3 c4 e0 hl ⊢
 subst h3
 clear o2 o3 o4 o5 o6 eq hr h hp hf h2
 generalize zu (w,h0,l,x,y,bb,s0) t = z at *
 obtain ⟨⟨k,a,d,r⟩,ez⟩:=z
 simp only at c1 c2 c3 c4 ⊢
 generalize jh (w,h0,l,x,y,bb,s0) (k,a,d,r) = tb at *
 generalize doB (w,h0,l,x,y,bb,s0) (k,a,d,r) = db at *
 obtain ⟨f,g⟩:=tb
 obtain ⟨⟨d1,d2,d3,d4,d5,d6,d7⟩,de⟩:=db
 refine za Tryz.func91 rfl (by decide) Tryz.ntmps91 rfl ?_
 repeat' (first
 |refine zfk ?_ | (apply uk 10 14; (case hN=>decide +kernel); (case hD=>decide +kernel); (case hB=>kernel_rfl); (case hm=>kernel_rfl); (case hod=>rfl); (case hl=>rfl); (case hn=>rfl); (case hsd=>rfl); (case hb=>rfl)) | (apply zv4; (case h2=>exact zl5)) | (apply qt; (case h2=>rfl); (case hD=>decide +kernel); (case hB=>decide +kernel); (case hg=>decide +kernel); (case hm=>kernel_rfl); (case hoL=>rfl); (case hod=>rfl)) | refine zrt ?_ | (apply xf 10; (case hB=>decide +kernel); (case hn=>rfl); (case hg=>decide +kernel); (case hm=>kernel_rfl); (case hs=>rfl)) | (apply xf 13; (case hB=>decide +kernel); (case hn=>rfl); (case hg=>decide +kernel); (case hm=>kernel_rfl); (case hs=>rfl)) | refine zru ?_ | (refine qw rfl rfl rfl rfl al_ ?_; intro bn) | (apply qv rfl rfl rfl; (case hx=>exact oo_); (case hz=>exact sz_); (case hy=>exact oo_); (case hc=>exact zc8); (case hl=>rfl); (case h1=>exact vw); (case hU=>exact yd); (case hs=>exact vh)) | (apply zew rfl rfl rfl; (case hy=>exact y_)) | refine zam ?_ | (apply qe; (case hn=>rfl); (case hm=>kernel_rfl)) | refine g6_ ?_ | (apply jx; (case hL=>rfl); (case hne=>rfl)) | exact jy | apply xr | (apply ze7; (case ho=>rfl)) | (apply xp; exact wg) | (apply jv; (case h=>exact zel); (case hk=>exact wk_); (case hc=>rfl)) | refine z14 ?_ | (apply zw (by rfl) (by kernel_rfl) (by kernel_rfl)) | refine z_2 ?_ | (refine zd ?_ ?_ <;> intro hb <;> try exact no_) | (refine sx_ ?_ <;> intro bb) | (refine su_ ?_ <;> intro u hu1 hu2) | fail)
 all_goals first | exact e2_ | skip
 try rw [e0]
 exact ⟨_,[woO b ((d1,d2,d3,d4,d5,d6,d7),(48,kl ++ [(k,a,d,r)],sent,pad,off),sp ++ [(f,g)]) t s],rl_,sl_,rfl,rfl⟩
end Go.Proofs.YtgfmjmfphmjdkaaGreatDoor
namespace Go.Proofs.YtgfmjmfphmjdkaaGreatDoor
set_option maxHeartbeats 4000000
open Go Go.RowKit
set_option maxRecDepth 200000
theorem zyo {p : Pu} {g : Int} (hp : x8 p = true) : zqn p.2.1.1 p.2.1.2.1 p.2.1.2.2.1 p.2.1.2.2.2.1 p.2.1.2.2.2.2 g = zy [SA (zi p g).1,kp (zi p g).2.2.1.1 (zi p g).2.2.1.2.1 (zi p g).2.2.1.2.2.1 (zi p g).2.2.1.2.2.2.1 (zi p g).2.2.1.2.2.2.2]:=by
 have h2:=(zm.1 hp).2.1
 by_cases ho : p.2.1.2.2.2.2 = true
 ·rw [show zi p g = ([],p) from if_pos ho,zqn,if_neg (fun z=>by rw [ho] at z; cases z.2)]
 ·rw [vu ho,zqn,if_pos ⟨h2,by simpa using ho⟩]
theorem zm4 {p : Pu} {g : Int} (hp : x8 p = true) : (zi p g).2.2.2 = p.2.2.drop (p.2.1.2.1.length - (zi p g).2.2.1.2.1.length) ∧ (zi p g).2.2.1.1 = p.2.1.1:=by
 by_cases ho : p.2.1.2.2.2.2 = true
 ·rw [show zi p g = ([],p) from if_pos ho]; simp
 ·rw [vu ho]; exact ⟨rfl,rfl⟩
theorem zyn (p : Pu) (g : Int) : zi p (max g 0) = zi p g:=by
 rcases Int.lt_or_le g 0 with h | h
 ·rw [show max g 0 = 0 by omega]
  unfold zi
  rw [jz (g:=0) (.inr (.inr (Int.le_refl _))),jz (g:=g) (.inr (.inr (by omega)))]
 ·rw [show max g 0 = g by omega]
theorem zy1 {p : Pu} {t : Tm} (hp : x8 p = true) (hf : qz p.1 t) (g : Int) : xo p t (max g 0) = xo p t g:=by
 rcases Int.lt_or_le g 0 with h | h
 ·have e : ∀ g : Int,g ≤ 0 → (zi (xz p t) g).1 = []:=fun g hg=>by
   obtain ⟨_,_,_,_,a5,_⟩:=k_ (g:=g) (zba hp hf).1
   exact List.length_eq_zero_iff.1 (by omega)
  rw [vn (e _ (by omega)),vn (e _ (by omega)),zyn]
 ·rw [show max g 0 = g by omega]
theorem zw_ : ∀ l : List Cmd,l.all z9 = true → l.length ≤ qr l
 |[],_=>Nat.zero_le _
 |c :: l,h=>by
  simp only [List.all_cons,Bool.and_eq_true] at h
  have:=zfi h.1
  have:=zw_ l h.2
  have e:=uh c l
  simp only [List.length_cons]; omega
theorem zhy {q : Pu} (hq : x8 q = true) : q.2.1.2.1.length ≤ 1000:=by
 obtain ⟨k1,k2,k3,k4,k5⟩:=zm.1 hq
 obtain ⟨f1,f2,f3,f4⟩:=zv k2
 obtain ⟨n,hn⟩:=Int.eq_ofNat_of_zero_le f1.2.2.2.2
 have o:=zab k2
 have:=zw_ _ f2
 cases h : q.2.1.2.1 with
 |nil=>simp
 |cons c l =>
  have h8:=zau c
  have h9:=o.2.2 c l h
  rw [h] at this f4
  omega
variable {T0 : Gh} [TabS T0]
attribute [local irreducible] zz zg AW AL AO QY qh z_ rsA Opd xh vA gvA zy qb slA jl ipA rpA EqK LnK IxK LdK FaK FdK
theorem zpp (b : Nat) (p : Pu) (a1 a2 a3 a4 a5 a6 : AV) (s : List UInt8) (g : Int) (hp : x8 p = true) (hl : p.2.1.2.1.length ≤ 1000) (hs : s.length ≤ 1000000) (hg : g ≤ 9223372036854775807) : AF Tryz.prog T0 92 [ptA b,I g] [woX b p a1 a2 a3 a4 a5 a6 s] (fun A M'=>A = B (!decide ((zi p g).1 = [])) ∧ M' = [woX b (zi p g).2 a1 a2 a3 a4 a5 a6 (s ++ (zi p g).1)]):=by
 have co : True:=trivial
 have cs : True:=trivial
 have c1:=zrm (T0:=T0) p.2.1.1 p.2.1.2.1 p.2.1.2.2.1 p.2.1.2.2.2.1 p.2.1.2.2.2.2 g (by omega) hg
 rw [zyo hp] at c1
 have c2 : True:=trivial
 have c3 : True:=trivial
 obtain ⟨e1,e2⟩:=zm4 (g:=g) hp
 have hle:=zqm (g:=g) hp
 obtain ⟨_,a1',_,a4',a5',_⟩:=k_ (g:=g) hp
 have hsp:=(zm.1 hp).2.2.2.1
 have hby : (zi p g).1.length ≤ 1000000:=by
  have f:=zv (zm.1 hp).2.1
  have:=congrArg List.length a4'
  simp only [List.length_append,List.length_drop,jf] at this
  have:=yk p.2.1.2.1
  omega
 have ed:=zax p.2.2 (p.2.1.2.1.length - (zi p g).2.2.1.2.1.length)
 rw [e2] at c1
 clear hp a4' a5'
 generalize zi p g = z at *
 obtain ⟨so,⟨d,⟨room',kl',sent',pad',off'⟩,sp'⟩⟩:=z
 obtain ⟨dd,⟨room,kl,sent,pad,off⟩,sp⟩:=p
 simp only at e1 e2 hle hsp c1 ed a1' hby ⊢
 subst a1' e1 e2
 refine za Tryz.func92 rfl (by decide) Tryz.ntmps92 rfl ?_
 repeat' (first
 |(apply zb rfl rfl rfl rfl (c:=co _)
   case ha=>exact os_
   case hM=>exact zf
   rintro _ _ ⟨rfl,rfl⟩)
  |(apply zb rfl rfl rfl rfl (c:=cs _ _ _ _ _ _ _)
    case ha=>exact os_
    case hM=>exact zf
    rintro _ _ ⟨rfl,rfl⟩)
 |refine zxk ?_ | (refine zd ?_ ?_ <;> intro hb <;> try exact no_) | (refine sx_ ?_ <;> intro bb) | (refine su_ ?_ <;> intro u hu1 hu2) | fail)
 rw [ed]
 exact ⟨_,[woX b (d,(room',kl',sent',pad',off'),sp.drop (kl.length - kl'.length)) a1 a2 a3 a4 a5 a6 (s ++ so)],rl_,sl_,rfl,rfl⟩
theorem zj4 (p : Pu) (g : Int) (hl : p.2.1.2.1.length ≤ 1000) (hg : g ≤ 9223372036854775807) : AP Tryz.prog T0 32 [puA p,I g] (zy [SA (zbv p g).1,puA (zbv p g).2]):=by
 have c1:=wk (T0:=T0) p (by omega)
 have c2 : True:=trivial
 have c3 : True:=trivial
 have co : True:=trivial
 unfold zbv
 by_cases hp : x8 p = true
 ·rw [hp] at c1
  rw [if_pos hp]
  have cs:=fun b a1 a2 a3 a4 a5 a6=>zpp (T0:=T0) b p a1 a2 a3 a4 a5 a6 [] g hp hl (by simp) hg
  simp only [List.nil_append] at cs
  clear hp
  generalize zi p g = z at *
  obtain ⟨so,q⟩:=z
  simp only at cs ⊢
  refine za Tryz.func32 rfl (by decide) Tryz.ntmps32 rfl ?_
  repeat' (first
  |(apply zb rfl rfl rfl rfl (c:=cs _ _ _ _ _ _ _)
    case ha=>exact os_
    case hM=>exact zf
    rintro _ _ ⟨rfl,rfl⟩)
  |(apply jg 9; (case hD=>decide +kernel); (case hB=>decide +kernel); (case hg=>decide +kernel); (case hm=>kernel_rfl); (case hs=>rfl)) | refine zsl ?_ | (apply zw (by rfl) (by kernel_rfl) (by kernel_rfl)) | refine zxk ?_ | (refine zd ?_ ?_ <;> intro hb <;> try exact no_) | (refine sx_ ?_ <;> intro bb) | (refine su_ ?_ <;> intro u hu1 hu2) | fail)
  all_goals first | exact qai | skip
 ·have hp' : x8 p = false:=by simpa using hp
  rw [hp'] at c1
  rw [if_neg hp]
  have cs : True:=trivial
  refine za Tryz.func32 rfl (by decide) Tryz.ntmps32 rfl ?_
  repeat' (first
  |(apply zb rfl rfl rfl rfl (c:=cs _ _ _ _ _ _ _)
    case ha=>exact os_
    case hM=>exact zf
    rintro _ _ ⟨rfl,rfl⟩)
  |(apply jg 9; (case hD=>decide +kernel); (case hB=>decide +kernel); (case hg=>decide +kernel); (case hm=>kernel_rfl); (case hs=>rfl)) | refine zsl ?_ | (apply zw (by rfl) (by kernel_rfl) (by kernel_rfl)) | refine zxk ?_ | (refine zd ?_ ?_ <;> intro hb <;> try exact no_) | (refine sx_ ?_ <;> intro bb) | (refine su_ ?_ <;> intro u hu1 hu2) | fail)
  all_goals first | exact qai | skip
theorem wm (p : Pu) (t : Tm) (g : Int) (hl : p.2.1.2.1.length ≤ 1000) (hg : g ≤ 9223372036854775807) : AP Tryz.prog T0 30 [puA p,tmA t,I g] (zy [SA (vj p t g).1,puA (vj p t g).2.1,I (vj p t g).2.2]):=by
 have c1 : AP Tryz.prog T0 12 [blA p.1,tmA t] (zy [I (zd9 p.1 t).1,I (zd9 p.1 t).2]):=zvk _ _ _ _ _ _ _ _ _ _ _ _ _
 have c2:=wk (T0:=T0) p (by omega)
 have c3 : True:=trivial
 have co : True:=trivial
 have cs : True:=trivial
 unfold vj
 by_cases hf : qz p.1 t
 ·rw [zkz hf] at c1
  by_cases hp : x8 p = true
  ·rw [hp] at c2
   rw [if_pos ⟨hp,hf⟩]
   refine za Tryz.func30 rfl (by decide) Tryz.ntmps30 rfl ?_
   repeat' (first
   |(apply zb rfl rfl rfl rfl (c:=co _)
     case ha=>exact os_
     case hM=>exact zf
     rintro _ _ ⟨rfl,rfl⟩)
    |(apply zb rfl rfl rfl rfl (c:=cs _ _ _ _ _ _ _)
      case ha=>exact os_
      case hM=>exact zf
      rintro _ _ ⟨rfl,rfl⟩)
   |(apply jg 9; (case hD=>decide +kernel); (case hB=>decide +kernel); (case hg=>decide +kernel); (case hm=>kernel_rfl); (case hs=>rfl)) | refine zsl ?_ | (apply zw (by rfl) (by kernel_rfl) (by kernel_rfl)) | refine zxk ?_ | (refine zd ?_ ?_ <;> intro hb <;> try exact no_) | (refine sx_ ?_ <;> intro bb) | (refine su_ ?_ <;> intro u hu1 hu2) | fail)
   all_goals first | exact e2_ | skip
   have hN : zah p t ≤ 100000:=by
    have m:=zgp p.1 t
    have f:=zv (zm.1 hp).2.1
    have h9:=(zc0 hf).2
    unfold zah; omega
   refine zr_ (σ:=List UInt8 × Pu) (fun _=>[]) (fun z=>[I z.2.1.1,I z.2.1.2.1,slA guT z.2.1.2.2.1,I z.2.1.2.2.2.1,I z.2.1.2.2.2.2.1,B z.2.1.2.2.2.2.2.1,B z.2.1.2.2.2.2.2.2,I z.2.2.1.1,slA zc7 z.2.2.1.2.1,I z.2.2.1.2.2.1,I z.2.2.1.2.2.2.1,B z.2.2.1.2.2.2.2,slA spT z.2.2.2,I t.1,I t.2.1,slA qs t.2.2.1,I t.2.2.2.1,I t.2.2.2.2.1,B t.2.2.2.2.2,SA z.1]) (fun z=>x8 z.2 = true ∧ qz z.2.1 t ∧ (z.1 ++ (xo z.2 t (max g 0 - (z.1.length : Nat))).1,(xo z.2 t (max g 0 - (z.1.length : Nat))).2) = xo p t g ∧ zah z.2 t + z.1.length ≤ 100000) (fun z=>zah z.2 t) ([],p) ⟨hp,hf,by simp [zy1 hp hf],by simpa using hN⟩ rfl ?_
   rintro ⟨out,q⟩ ⟨i1,i2,i3,i4⟩
   simp only at i1 i2 i3 i4 ⊢
   obtain ⟨f1,f2,f3,f4⟩:=zba i1 i2
   repeat' (first
   |(apply zb rfl rfl rfl rfl (c:=co _)
     case ha=>exact os_
     case hM=>exact zf
     rintro _ _ ⟨rfl,rfl⟩)
    |(apply zb rfl rfl rfl rfl (c:=cs _ _ _ _ _ _ _)
      case ha=>exact os_
      case hM=>exact zf
      rintro _ _ ⟨rfl,rfl⟩)
   |(apply jg 9; (case hD=>decide +kernel); (case hB=>decide +kernel); (case hg=>decide +kernel); (case hm=>kernel_rfl); (case hs=>rfl)) | refine zsl ?_ | (apply zw (by rfl) (by kernel_rfl) (by kernel_rfl)) | refine zxk ?_ | (refine zd ?_ ?_ <;> intro hb <;> try exact no_) | (refine sx_ ?_ <;> intro bb) | (refine su_ ?_ <;> intro u hu1 hu2) | fail)
   refine zr_ (σ:=Pu) (fun _=>[]) (fun z=>[I z.1.1,I z.1.2.1,slA guT z.1.2.2.1,I z.1.2.2.2.1,I z.1.2.2.2.2.1,B z.1.2.2.2.2.2.1,B z.1.2.2.2.2.2.2,I z.2.1.1,slA zc7 z.2.1.2.1,I z.2.1.2.2.1,I z.2.1.2.2.2.1,B z.2.1.2.2.2.2,slA spT z.2.2,I t.1,I t.2.1,slA qs t.2.2.1,I t.2.2.2.1,I t.2.2.2.2.1,B t.2.2.2.2.2,SA out]) (fun z=>x8 z = true ∧ qz z.1 t ∧ xz z t = xz q t) (fun z=>zs5 z.1 t) q ⟨i1,i2,rfl⟩ rfl ?_
   rintro r ⟨r1,r2,r3⟩
   cases ho : xe r t with
   |some r' =>
    have co:=fun b=>zrj (T0:=T0) b r r' t out r1 r2 (zhy r1) ho
    have cs : True:=trivial
    obtain ⟨m1,m2,_⟩:=je r2 ho
    have m3:=(j8 r1 r2 ho).1
    have m4:=zin r2 ho
    clear i3 i4 r1 r2
    repeat' (first
    |(apply zb rfl rfl rfl rfl (c:=co _)
      case ha=>exact os_
      case hM=>exact zf
      rintro _ _ ⟨rfl,rfl⟩)
     |(apply zb rfl rfl rfl rfl (c:=cs _ _ _ _ _ _ _)
       case ha=>exact os_
       case hM=>exact zf
       rintro _ _ ⟨rfl,rfl⟩)
    |(apply jg 9; (case hD=>decide +kernel); (case hB=>decide +kernel); (case hg=>decide +kernel); (case hm=>kernel_rfl); (case hs=>rfl)) | refine zsl ?_ | (apply zw (by rfl) (by kernel_rfl) (by kernel_rfl)) | refine zxk ?_ | (refine zd ?_ ?_ <;> intro hb <;> try exact no_) | (refine sx_ ?_ <;> intro bb) | (refine su_ ?_ <;> intro u hu1 hu2) | fail)
    all_goals first | exact e2_ | skip
    exact ⟨r',⟨m3,m1,by rw [← m4]; exact r3⟩,by omega,wx_,sl_⟩
   |none =>
    have co:=fun b=>zrk (T0:=T0) b r t out (by have:=zhy r1; omega) ho
    have e : r = xz q t:=by rw [← r3,zbb ho]
    subst e
    have cs:=fun b a1 a2 a3 a4 a5 a6=>zpp (T0:=T0) b (xz q t) a1 a2 a3 a4 a5 a6 out (max g 0 - (out.length : Nat)) f1 (zhy f1) (by omega) (by omega)
    obtain ⟨s1,s2,_,_,s5,_⟩:=k_ (g:=max g 0 - (out.length : Nat)) f1
    have sb:=uo (t:=t) (g:=max g 0 - (out.length : Nat)) f1
    have stop:=vn (p:=q) (t:=t) (g:=max g 0 - (out.length : Nat))
    have go:=zjm (g:=max g 0 - (out.length : Nat)) i1 i2
    have sf : qz (zi (xz q t) (max g 0 - (out.length : Nat))).2.1 t:=by rw [s2]; exact f2
    clear r1 r2 r3 ho s2 f1 f2 f3
    generalize zi (xz q t) (max g 0 - (out.length : Nat)) = z at *
    obtain ⟨so,q'⟩:=z
    simp only at cs s1 s5 sb stop go sf
    by_cases hz : so = []
    ·rw [stop hz] at i3
     subst hz
     repeat' (first
     |(apply zb rfl rfl rfl rfl (c:=co _)
       case ha=>exact os_
       case hM=>exact zf
       rintro _ _ ⟨rfl,rfl⟩)
      |(apply zb rfl rfl rfl rfl (c:=cs _ _ _ _ _ _ _)
        case ha=>exact os_
        case hM=>exact zf
        rintro _ _ ⟨rfl,rfl⟩)
     |(apply jg 9; (case hD=>decide +kernel); (case hB=>decide +kernel); (case hg=>decide +kernel); (case hm=>kernel_rfl); (case hs=>rfl)) | refine zsl ?_ | (apply zw (by rfl) (by kernel_rfl) (by kernel_rfl)) | refine zxk ?_ | (refine zd ?_ ?_ <;> intro hb <;> try exact no_) | (refine sx_ ?_ <;> intro bb) | (refine su_ ?_ <;> intro u hu1 hu2) | fail)
     all_goals first | exact e2_ | skip
     exact ⟨_,[],rl_,List.nil_sublist _,Sub.eq (by rw [← i3]),rfl⟩
    ·rw [go hz] at i3
     have hz2:=List.length_pos_iff.2 hz
     repeat' (first
     |(apply zb rfl rfl rfl rfl (c:=co _)
       case ha=>exact os_
       case hM=>exact zf
       rintro _ _ ⟨rfl,rfl⟩)
      |(apply zb rfl rfl rfl rfl (c:=cs _ _ _ _ _ _ _)
        case ha=>exact os_
        case hM=>exact zf
        rintro _ _ ⟨rfl,rfl⟩)
     |(apply jg 9; (case hD=>decide +kernel); (case hB=>decide +kernel); (case hg=>decide +kernel); (case hm=>kernel_rfl); (case hs=>rfl)) | refine zsl ?_ | (apply zw (by rfl) (by kernel_rfl) (by kernel_rfl)) | refine zxk ?_ | (refine zd ?_ ?_ <;> intro hb <;> try exact no_) | (refine sx_ ?_ <;> intro bb) | (refine su_ ?_ <;> intro u hu1 hu2) | fail)
     all_goals first | (exfalso; exact hz (by simpa using hb)) | skip
     refine ⟨(out ++ so,q'),⟨s1,sf, ?_,by simp only [List.length_append]; omega⟩,by simp only; omega,wx_,sl_⟩
     rw [← i3]
     simp only [List.length_append,List.append_assoc]
     rw [show max g 0 - ((out.length + so.length : Nat) : Int) = max g 0 - (out.length : Nat) - (so.length : Nat) by omega]
  ·have hp' : x8 p = false:=by simpa using hp
   rw [hp'] at c2
   rw [if_neg (fun z=>hp z.1)]
   refine za Tryz.func30 rfl (by decide) Tryz.ntmps30 rfl ?_
   repeat' (first
   |(apply zb rfl rfl rfl rfl (c:=co _)
     case ha=>exact os_
     case hM=>exact zf
     rintro _ _ ⟨rfl,rfl⟩)
    |(apply zb rfl rfl rfl rfl (c:=cs _ _ _ _ _ _ _)
      case ha=>exact os_
      case hM=>exact zf
      rintro _ _ ⟨rfl,rfl⟩)
   |(apply jg 9; (case hD=>decide +kernel); (case hB=>decide +kernel); (case hg=>decide +kernel); (case hm=>kernel_rfl); (case hs=>rfl)) | refine zsl ?_ | (apply zw (by rfl) (by kernel_rfl) (by kernel_rfl)) | refine zxk ?_ | (refine zd ?_ ?_ <;> intro hb <;> try exact no_) | (refine sx_ ?_ <;> intro bb) | (refine su_ ?_ <;> intro u hu1 hu2) | fail)
   all_goals first | exact z9h | skip
 ·rw [zk0 hf] at c1
  rw [if_neg (fun z=>hf z.2)]
  refine za Tryz.func30 rfl (by decide) Tryz.ntmps30 rfl ?_
  repeat' (first
  |(apply zb rfl rfl rfl rfl (c:=co _)
    case ha=>exact os_
    case hM=>exact zf
    rintro _ _ ⟨rfl,rfl⟩)
   |(apply zb rfl rfl rfl rfl (c:=cs _ _ _ _ _ _ _)
     case ha=>exact os_
     case hM=>exact zf
     rintro _ _ ⟨rfl,rfl⟩)
  |(apply jg 9; (case hD=>decide +kernel); (case hB=>decide +kernel); (case hg=>decide +kernel); (case hm=>kernel_rfl); (case hs=>rfl)) | refine zsl ?_ | (apply zw (by rfl) (by kernel_rfl) (by kernel_rfl)) | refine zxk ?_ | (refine zd ?_ ?_ <;> intro hb <;> try exact no_) | (refine sx_ ?_ <;> intro bb) | (refine su_ ?_ <;> intro u hu1 hu2) | fail)
  all_goals first | exact z9h | skip
end Go.Proofs.YtgfmjmfphmjdkaaGreatDoor
