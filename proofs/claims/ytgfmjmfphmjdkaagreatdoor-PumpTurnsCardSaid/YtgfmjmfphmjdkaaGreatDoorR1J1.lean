/- Layer 30 (pump), plainly: what a pump is, fills, sends and pushes. No condition. -/
import Derived.Test.YtgfmjmfphmjdkaaGreatDoorR1KP
import Derived.Test.YtgfmjmfphmjdkaaGreatDoorR1I1
import Derived.Test.YtgfmjmfphmjdkaaGreatDoorR1ZM
import Derived.Test.YtgfmjmfphmjdkaaGreatDoorR1ZN
set_option linter.unusedSimpArgs false
set_option linter.unusedVariables false
set_option linter.unusedSectionVars false
namespace Go.Proofs.YtgfmjmfphmjdkaaGreatDoor
set_option maxHeartbeats 4000000
open Go Go.RowKit
set_option maxRecDepth 100000
abbrev Lk:=Int × List Cmd × Int × Int × Bool
abbrev Pu:=Bel × Lk × List (Int × Int)
def noK : Lk:=(0,[],0,0,false)
def zvq : Pu:=(noB,noK,[])
def zh_ (w h : Int) : Pu × Int:=if (yg w h).2 = 0 then (((yg w h).1,(48,[],0,0,false),[]),0) else (zvq,(yg w h).2)
def jz (n : Nat) (s : Int × Int) : Bool:=decide (0 ≤ s.1) && decide (s.1 ≤ s.2) && decide (s.2 ≤ n)
noncomputable def jg (p : Pu) : Bool:=yv p.1 && okL p.2.1.1 p.2.1.2.1 p.2.1.2.2.1 p.2.1.2.2.2.1 && decide (p.2.1.1 = 48) && decide (p.2.2.length = p.2.1.2.1.length) && p.2.2.all (jz p.1.2.2.1.length)
noncomputable def xt (p : Pu) (t : Tm) : Option Pu :=
 if (zy p.1 t).2 = 0 ∧ (qs p.2.1.2.1 : Int) - p.2.1.2.2.1 + xk (zy p.1 t).1 ≤ p.2.1.1 then
  some ((doB p.1 (zy p.1 t).1).1,(p.2.1.1,p.2.1.2.1 ++ [(zy p.1 t).1],p.2.1.2.2.1,p.2.1.2.2.2.1,p.2.1.2.2.2.2),p.2.2 ++ [xv p.1 (zy p.1 t).1])
 else none
noncomputable def ze_ (t : Tm) : Nat → Pu → Pu
 |0,p=>p
 |n + 1,p=>match xt p t with
  |none=>p
  |some q=>ze_ t n q
noncomputable def zt7 (b : Bel) (t : Tm) : Nat:=2 * zh4 b t + atW b t
noncomputable def q_ (p : Pu) (t : Tm) : Pu:=ze_ t (zt7 p.1 t) p
theorem km {p q : Pu} {t : Tm} (hf : q9 p.1 t) (h : xt p t = some q) : q9 q.1 t ∧ zt7 q.1 t + 1 ≤ zt7 p.1 t ∧ (12 * zh4 q.1 t + 8 * atW q.1 t + qs q.2.1.2.1 ≤ 12 * zh4 p.1 t + 8 * atW p.1 t + qs p.2.1.2.1) ∧ z2r q.1 t + w_ q.2.1.2.1 ≤ z2r p.1 t + w_ p.2.1.2.1 ∧ q.1.1 = p.1.1 ∧ q.1.2.1 = p.1.2.1 ∧ q.1.2.2.1.length = p.1.2.2.1.length:=by
 unfold xt at h
 by_cases c : (zy p.1 t).2 = 0 ∧ (qs p.2.1.2.1 : Int) - p.2.1.2.2.1 + xk (zy p.1 t).1 ≤ p.2.1.1
 ·rw [if_pos c] at h
  injection h with h
  subst h
  obtain ⟨m1,m2,m3⟩:=zsi hf (by rw [c.1]; decide)
  rcases zdz hf with ⟨_,_,e⟩ | ⟨_,_,_,s4,s5,s6,s7,_⟩
  ·exact absurd c.1 (by rw [e]; decide)
  ·have e1 : qs (p.2.1.2.1 ++ [(zy p.1 t).1]) = qs p.2.1.2.1 + xk (zy p.1 t).1:=by simp [qs]
   have e2 : w_ (p.2.1.2.1 ++ [(zy p.1 t).1]) = w_ p.2.1.2.1 + zbj (zy p.1 t).1:=by simp [w_]
   refine ⟨s4,m1, ?_, ?_,s6,s7,s5⟩
   ·show _ + qs (p.2.1.2.1 ++ [(zy p.1 t).1]) ≤ _
    rw [e1]; simp only; omega
   ·show _ + w_ (p.2.1.2.1 ++ [(zy p.1 t).1]) ≤ _
    rw [e2]; simp only; omega
 ·rw [if_neg c] at h; cases h
theorem zs1 {t : Tm} (n : Nat) : ∀ (m : Nat) (p : Pu),q9 p.1 t → zt7 p.1 t ≤ n → zt7 p.1 t ≤ m → ze_ t n p = ze_ t m p:=by
 induction n with
 |zero =>
  intro m p hf hn hm
  cases e : xt p t with
  |none =>
   cases m with
   |zero=>rfl
   |succ k=>unfold ze_; rw [e]
  |some q=>have:=(km hf e).2.1; omega
 |succ n ih =>
  intro m p hf hn hm
  cases e : xt p t with
  |none =>
   cases m with
   |zero=>unfold ze_; rw [e]
   |succ k=>unfold ze_; rw [e]
  |some q =>
   obtain ⟨q1,q2,_⟩:=km hf e
   obtain ⟨m,rfl⟩ : ∃ k,m = k + 1:=⟨m - 1,by omega⟩
   unfold ze_
   rw [e]
   exact ih m q q1 (by omega) (by omega)
theorem za6 {p : Pu} {t : Tm} (h : xt p t = none) : q_ p t = p:=by
 unfold q_
 cases zt7 p.1 t with
 |zero=>rfl
 |succ k=>unfold ze_; rw [h]
theorem zd8 {p q : Pu} {t : Tm} (hf : q9 p.1 t) (h : xt p t = some q) : q_ p t = q_ q t:=by
 obtain ⟨q1,q2,_⟩:=km hf h
 unfold q_
 obtain ⟨k,hk⟩ : ∃ k,zt7 p.1 t = k + 1:=⟨zt7 p.1 t - 1,by omega⟩
 rw [hk]
 show (match xt p t with | none=>p | some q=>ze_ t k q) = _
 rw [h]
 exact zs1 k _ q q1 (by omega) (Nat.le_refl _)
theorem zg4 {t : Tm} {R : Pu → Prop} (step : ∀ p q,q9 p.1 t → R p → xt p t = some q → R q) : ∀ (n : Nat) (p : Pu),zt7 p.1 t ≤ n → q9 p.1 t → R p → q9 (q_ p t).1 t ∧ R (q_ p t) ∧ xt (q_ p t) t = none:=by
 intro n
 induction n with
 |zero =>
  intro p hn hf hR
  cases e : xt p t with
  |none=>rw [za6 e]; exact ⟨hf,hR,e⟩
  |some q=>have:=(km hf e).2.1; omega
 |succ n ih =>
  intro p hn hf hR
  cases e : xt p t with
  |none=>rw [za6 e]; exact ⟨hf,hR,e⟩
  |some q =>
   obtain ⟨q1,q2,_⟩:=km hf e
   rw [zd8 hf e]
   exact ih q (by omega) q1 (step p q hf hR e)
def zo (p : Pu) (g : Int) : List UInt8 × Pu :=
 if p.2.1.2.2.2.2 = true then ([],p) else
 ((x4 p.2.1.2.1 p.2.1.2.2.1.toNat p.2.1.2.2.2.1 g).1,(p.1,(p.2.1.1,(x4 p.2.1.2.1 p.2.1.2.2.1.toNat p.2.1.2.2.2.1 g).2.1,((x4 p.2.1.2.1 p.2.1.2.2.1.toNat p.2.1.2.2.2.1 g).2.2.1 : Int),(x4 p.2.1.2.1 p.2.1.2.2.1.toNat p.2.1.2.2.2.1 g).2.2.2,p.2.1.2.2.2.2),p.2.2.drop (p.2.1.2.1.length - (x4 p.2.1.2.1 p.2.1.2.2.1.toNat p.2.1.2.2.2.1 g).2.1.length)))
noncomputable def ue (p : Pu) (g : Int) : List UInt8 × Pu:=if jg p = true then zo p g else ([],p)
noncomputable def zlp (t : Tm) : Nat → Pu → Int → List UInt8 × Pu
 |0,p,_=>([],p)
 |n + 1,p,g=>if (zo (q_ p t) g).1 = [] then zo (q_ p t) g
  else ((zo (q_ p t) g).1 ++ (zlp t n (zo (q_ p t) g).2 (g - ((zo (q_ p t) g).1.length : Nat))).1,(zlp t n (zo (q_ p t) g).2 (g - ((zo (q_ p t) g).1.length : Nat))).2)
noncomputable def zht (p : Pu) (t : Tm) : Nat:=12 * zh4 p.1 t + 8 * atW p.1 t + (qs p.2.1.2.1 - p.2.1.2.2.1.toNat)
noncomputable def vk (p : Pu) (t : Tm) (g : Int) : List UInt8 × Pu:=zlp t (zht p t + 1) p g
noncomputable def ua (p : Pu) (t : Tm) (g : Int) : List UInt8 × Pu × Int:=if jg p = true ∧ q9 p.1 t then ((vk p t g).1,(vk p t g).2,0) else ([],zvq,1)
end Go.Proofs.YtgfmjmfphmjdkaaGreatDoor
namespace Go.Proofs.YtgfmjmfphmjdkaaGreatDoor
set_option maxHeartbeats 4000000
open Go Go.RowKit
set_option maxRecDepth 100000
theorem zuq {b : Bel} {c : Cmd} (h : yv b = true) : jz b.2.2.1.length (xv b c) = true:=by
 obtain ⟨bw,bh,l,x,y,bb,s⟩:=b
 have h' : vr bw bh l x y bb s = true:=h
 obtain ⟨w,h0,e1,e2,w2,w3,w4,w5,hl,hk,p1,p2⟩:=qn.1 h'
 subst e1 e2
 have e3 : ((w : Int) * h0) = (l.length : Int):=by rw [hl]; exact (Int.natCast_mul w h0).symm
 have zero : jz l.length (0,0) = true:=by simp [jz]
 show jz l.length _ = true
 unfold xv
 dsimp only
 by_cases q0 : ¬ (yv ((w : Int),(h0 : Int),l,x,y,bb,s) = true ∧ z9 c = true ∧ chg c.1 = true)
 ·rw [if_pos q0]; exact zero
 ·rw [if_neg q0]
  by_cases q1 : s = false ∨ (zq w x bb c = true ∧ y = (h0 : Int) - 1)
  ·simp only [if_pos q1]
   simp only [e3,jz,Bool.and_eq_true,decide_eq_true_eq]; omega
  ·simp only [if_neg q1]
   by_cases q2 : c.1 = 10
   ·rw [if_pos q2]; exact zero
   ·rw [if_neg q2]
    have hs : s = true:=by
     cases s with
     |true=>rfl
     |false=>exact absurd (.inl rfl) q1
    subst hs
    obtain ⟨x1,x2,y1,y2,_⟩:=p1 rfl
    have hY : ∀ Y : Int,0 ≤ Y → Y < h0 → 0 ≤ Y * w ∧ Y * w + w ≤ l.length ∧ (Y + 1) * w = Y * w + w:=fun Y a b'=>by
     have k1:=Int.mul_nonneg a (show (0 : Int) ≤ w by omega)
     have k2 : (Y + 1) * w ≤ h0 * w:=Int.mul_le_mul_of_nonneg_right (by omega) (by omega)
     have k3 : (Y + 1) * w = Y * w + w:=by rw [Int.add_mul,Int.one_mul]
     have k4 : (h0 : Int) * w = w * h0:=Int.mul_comm _ _
     exact ⟨k1,by omega,k3⟩
    have hlen : 1 ≤ (zh c.2.2.2).length:=(vg _).1
    cases hg : zq w x bb c with
    |true =>
     have : y ≠ (h0 : Int) - 1:=fun z=>q1 (.inr ⟨hg,z⟩)
     obtain ⟨k1,k2,k3⟩:=hY (y + 1) (by omega) (by omega)
     simp only [if_true,jz,Bool.and_eq_true,decide_eq_true_eq]
     rw [e3]
     generalize (y + 1) * (w : Int) = Z at *
     rw [k3]
     by_cases c7 : c.1 = 7
     ·rw [if_pos c7]; omega
     ·rw [if_neg c7]
      by_cases c8 : c.1 = 8
      ·rw [if_pos c8]; omega
      ·rw [if_neg c8]; omega
    |false =>
     obtain ⟨k1,k2,k3⟩:=hY y (by omega) (by omega)
     simp only [Bool.false_eq_true,if_false,jz,Bool.and_eq_true,decide_eq_true_eq]
     rw [e3,k3]
     generalize y * (w : Int) = Z at *
     by_cases c7 : c.1 = 7
     ·rw [if_pos c7]; omega
     ·rw [if_neg c7]
      by_cases c8 : c.1 = 8
      ·rw [if_pos c8]; omega
      ·rw [if_neg c8]; omega
theorem qi {p : Pu} : jg p = true ↔ yv p.1 = true ∧ okL p.2.1.1 p.2.1.2.1 p.2.1.2.2.1 p.2.1.2.2.2.1 = true ∧ p.2.1.1 = 48 ∧ p.2.2.length = p.2.1.2.1.length ∧ p.2.2.all (jz p.1.2.2.1.length) = true:=by
 simp only [jg,Bool.and_eq_true,decide_eq_true_eq,and_assoc]
theorem yn {p q : Pu} {t : Tm} (hp : jg p = true) (hf : q9 p.1 t) (h : xt p t = some q) : jg q = true ∧ q.2.1 = (48,p.2.1.2.1 ++ [(zy p.1 t).1],p.2.1.2.2.1,p.2.1.2.2.2.1,p.2.1.2.2.2.2) ∧ q.1 = (doB p.1 (zy p.1 t).1).1 ∧ q.2.2 = p.2.2 ++ [xv p.1 (zy p.1 t).1] ∧ z9 (zy p.1 t).1 = true ∧ (zy p.1 t).2 = 0:=by
 obtain ⟨q1,_,_,_,_,_,q2⟩:=km hf h
 obtain ⟨h1,h2,h3,h4,h5⟩:=qi.1 hp
 unfold xt at h
 by_cases c : (zy p.1 t).2 = 0 ∧ (qs p.2.1.2.1 : Int) - p.2.1.2.2.1 + xk (zy p.1 t).1 ≤ p.2.1.1
 ·rw [if_pos c] at h
  injection h with h
  subst h
  have hc : z9 (zy p.1 t).1 = true:=by
   rcases zdz hf with ⟨_,_,e⟩ | ⟨_,s2,_⟩
   ·exact absurd c.1 (by rw [e]; decide)
   ·exact s2
  refine ⟨qi.2 ⟨q1.1, ?_,h3, ?_, ?_⟩,by rw [← h3],rfl,rfl,hc,c.1⟩
  ·simp only at q2 ⊢
   obtain ⟨f1,f2,f3,f4⟩:=qv h2
   have e1 : qs (p.2.1.2.1 ++ [(zy p.1 t).1]) = qs p.2.1.2.1 + xk (zy p.1 t).1:=by simp [qs]
   obtain ⟨s,hs⟩:=Int.eq_ofNat_of_zero_le f1.2.2.2.2
   have o:=zej h2
   rw [hs] at o c ⊢
   refine zvl (l:=p.2.1.2.1 ++ [(zy p.1 t).1]) ⟨?_,fun z => ?_,fun d r z => ?_⟩ ⟨by omega,by omega,by omega,by omega⟩ (by rw [e1]; omega)
   ·rw [List.all_append,f2]; simp [hc]
   ·simp at z
   ·cases hl : p.2.1.2.1 with
    |nil =>
     rw [hl] at z o
     have:=o.2.1 rfl
     injection z with z1 z2
     subst z1
     have:=zj_ hc
     simp only [Int.toNat_natCast] at *; omega
    |cons d' r' =>
     rw [hl] at z o
     injection z with z1 z2
     subst z1
     exact o.2.2 d' r' rfl
  ·simp only [List.length_append,List.length_cons,List.length_nil,h4]
  ·simp only [List.all_append,List.all_cons,List.all_nil,Bool.and_true,Bool.and_eq_true]
   refine ⟨by rw [q2]; exact h5, ?_⟩
   rw [q2]; exact zuq h1
 ·rw [if_neg c] at h; cases h
theorem zcl {p : Pu} {g : Int} (ho : ¬ p.2.1.2.2.2.2 = true) : zo p g = ((x4 p.2.1.2.1 p.2.1.2.2.1.toNat p.2.1.2.2.2.1 g).1,(p.1,(p.2.1.1,(x4 p.2.1.2.1 p.2.1.2.2.1.toNat p.2.1.2.2.2.1 g).2.1,((x4 p.2.1.2.1 p.2.1.2.2.1.toNat p.2.1.2.2.2.1 g).2.2.1 : Int),(x4 p.2.1.2.1 p.2.1.2.2.1.toNat p.2.1.2.2.2.1 g).2.2.2,p.2.1.2.2.2.2),p.2.2.drop (p.2.1.2.1.length - (x4 p.2.1.2.1 p.2.1.2.2.1.toNat p.2.1.2.2.2.1 g).2.1.length))):=if_neg ho
theorem wl {p : Pu} {g : Int} (hp : jg p = true) : jg (zo p g).2 = true ∧ (zo p g).2.1 = p.1 ∧ (zo p g).2.2.1.2.2.2.2 = p.2.1.2.2.2.2 ∧ (zo p g).1 ++ (ja (zo p g).2.2.1.2.1).drop (zo p g).2.2.1.2.2.1.toNat = (ja p.2.1.2.1).drop p.2.1.2.2.1.toNat ∧ ((zo p g).1.length : Int) ≤ max g 0 ∧ ((zo p g).1 ≠ [] → p.2.1.2.2.2.1 = 0 ∧ p.2.1.2.2.2.2 = false) ∧ (∃ k,(zo p g).2.2.1.2.1 = p.2.1.2.1.drop k ∧ k ≤ p.2.1.2.1.length ∧ (zo p g).2.2.2 = p.2.2.drop k):=by
 obtain ⟨h1,h2,h3,h4,h5⟩:=qi.1 hp
 by_cases ho : p.2.1.2.2.2.2 = true
 ·have e : zo p g = ([],p):=if_pos ho
  rw [e]
  exact ⟨hp,rfl,rfl,rfl,by simp; omega,fun z=>absurd rfl z,0,rfl,Nat.zero_le _,rfl⟩
 ·rw [zcl ho]
  obtain ⟨f1,f2,f3,f4⟩:=qv h2
  obtain ⟨a1,a2,a3,a4,a5,a6,k,a7,a8⟩:=zjt p.2.1.2.1 p.2.1.2.2.1.toNat p.2.1.2.2.2.1 g (zej h2) f1.2.2.1 f1.2.2.2.1
  generalize x4 p.2.1.2.1 p.2.1.2.2.1.toNat p.2.1.2.2.2.1 g = r at *
  obtain ⟨r1,r2,r3,r4⟩:=r
  simp only at a1 a2 a3 a4 a5 a6 a7 ⊢
  have hk : p.2.1.2.1.length - r2.length = k:=by rw [a7,List.length_drop]; omega
  have hc : qs r2 - r3 + r1.length = qs p.2.1.2.1 - p.2.1.2.2.1.toNat:=by
   have:=congrArg List.length a3
   simp only [List.length_append,List.length_drop,jt] at this
   omega
  refine ⟨qi.2 ⟨h1,zvl a1 ⟨f1.1,f1.2.1,a2.1,a2.2⟩ ?_,h3, ?_, ?_⟩,trivial,trivial,by simpa using a3,a4,fun z=>⟨a5 z,by simpa using ho⟩,k,a7,a8,by rw [hk]⟩
  ·simp only
   have:=zej h2
   omega
  ·simp only [List.length_drop,hk,a7,h4]
   omega
  ·simp only
   rw [List.all_eq_true] at h5 ⊢
   exact fun s hs=>h5 s (List.mem_of_mem_drop hs)
theorem zff {p : Pu} {g : Int} (hp : jg p = true) (h : (zo p g).1 = []) : (zo p g).2 = p:=by
 obtain ⟨b,⟨room,l,s,pad,off⟩,sp⟩:=p
 obtain ⟨h1,h2,h3,h4,h5⟩:=qi.1 hp
 by_cases ho : off = true
 ·exact congrArg Prod.snd (if_pos ho : zo (b,(room,l,s,pad,off),sp) g = ([],(b,(room,l,s,pad,off),sp)))
 ·rw [zcl ho] at h ⊢
  simp only at h h2 h3 h4 ⊢
  obtain ⟨f1,f2,f3,f4⟩:=qv h2
  obtain ⟨n,hn⟩:=Int.eq_ofNat_of_zero_le f1.2.2.2.2
  subst hn
  have o:=zej h2
  simp only [Int.toNat_natCast] at h o ⊢
  have stop : l = [] ∨ pad ≠ 0 ∨ g ≤ 0:=by
   refine Classical.byContradiction fun z => ?_
   have z1 : l ≠ []:=fun e=>z (.inl e)
   have z2 : pad = 0:=Classical.byContradiction fun e=>z (.inr (.inl e))
   have z3 : 0 < g:=by
    rcases Int.lt_or_le 0 g with e | e
    ·exact e
    ·exact absurd (.inr (.inr e)) z
   subst z2
   cases l with
   |nil=>exact z1 rfl
   |cons c l =>
    have hlt:=o.2.2 c l rfl
    have hlen : (xm c).1.length = xk c:=rfl
    by_cases hw : g < ((xk c - n : Nat) : Int)
    ·rw [y7 z3 hw] at h
     have:=congrArg List.length h
     simp only [List.length_take,List.length_drop,List.length_nil] at this
     omega
    ·rw [vy z3 (by omega)] at h
     have:=congrArg List.length h
     simp only [List.length_append,List.length_drop,List.length_nil] at this
     omega
  rw [ve stop]
  simp
theorem up {p : Pu} {t : Tm} (hp : jg p = true) (hf : q9 p.1 t) : jg (q_ p t) = true ∧ q9 (q_ p t).1 t ∧ xt (q_ p t) t = none ∧ zht (q_ p t) t ≤ zht p t:=by
 obtain ⟨a,⟨b',c⟩,d⟩:=zg4 (t:=t) (R:=fun q=>jg q = true ∧ zht q t ≤ zht p t) (fun p' q hf' hR h=>by
  obtain ⟨o1,o2,_⟩:=yn hR.1 hf' h
  refine ⟨o1,Nat.le_trans ?_ hR.2⟩
  obtain ⟨_,_,m,_⟩:=km hf' h
  have f:=(qv (qi.1 hR.1).2.1)
  unfold zht
  have e : q.2.1.2.2.1 = p'.2.1.2.2.1:=by rw [o2]
  have e2 : qs q.2.1.2.1 = qs p'.2.1.2.1 + xk (zy p'.1 t).1:=by rw [o2]; simp [qs]
  have e3:=f.2.2.1
  rw [e]
  generalize p'.2.1.2.2.1 = s at *
  omega) (zt7 p.1 t) p (Nat.le_refl _) hf ⟨hp,Nat.le_refl _⟩
 exact ⟨b',a,d,c⟩
theorem za2 {p : Pu} {t : Tm} {g : Int} (hp : jg p = true) : zht (zo p g).2 t + (zo p g).1.length = zht p t:=by
 obtain ⟨a1,a2,a3,a4,a5,a6,a7⟩:=wl (g:=g) hp
 have:=congrArg List.length a4
 simp only [List.length_append,List.length_drop,jt] at this
 unfold zht
 rw [a2]; omega
theorem zsh {t : Tm} (n : Nat) : ∀ (m : Nat) (p : Pu) (g : Int),jg p = true → q9 p.1 t → zht p t + 1 ≤ n → zht p t + 1 ≤ m → zlp t n p g = zlp t m p g:=by
 induction n with
 |zero=>intro m p g hp hf hn hm; omega
 |succ n ih =>
  intro m p g hp hf hn hm
  obtain ⟨m,rfl⟩ : ∃ k,m = k + 1:=⟨m - 1,by omega⟩
  obtain ⟨f1,f2,f3,f4⟩:=up hp hf
  unfold zlp
  by_cases h : (zo (q_ p t) g).1 = []
  ·rw [if_pos h,if_pos h]
  ·rw [if_neg h,if_neg h]
   obtain ⟨a1,a2,_⟩:=wl (g:=g) f1
   have hb:=za2 (t:=t) (g:=g) f1
   have hl:=List.length_pos_iff.2 h
   rw [ih m (zo (q_ p t) g).2 _ a1 (by rw [a2]; exact f2) (by omega) (by omega)]
theorem wz {p : Pu} {t : Tm} {g : Int} (h : (zo (q_ p t) g).1 = []) : vk p t g = zo (q_ p t) g:=by
 unfold vk
 show (if (zo (q_ p t) g).1 = [] then _ else _) = _
 rw [if_pos h]
theorem zj2 {p : Pu} {t : Tm} {g : Int} (hp : jg p = true) (hf : q9 p.1 t) (h : (zo (q_ p t) g).1 ≠ []) : vk p t g = ((zo (q_ p t) g).1 ++ (vk (zo (q_ p t) g).2 t (g - ((zo (q_ p t) g).1.length : Nat))).1,(vk (zo (q_ p t) g).2 t (g - ((zo (q_ p t) g).1.length : Nat))).2):=by
 obtain ⟨f1,f2,f3,f4⟩:=up hp hf
 obtain ⟨a1,a2,_⟩:=wl (g:=g) f1
 have hb:=za2 (t:=t) (g:=g) f1
 have hl:=List.length_pos_iff.2 h
 unfold vk
 show (if (zo (q_ p t) g).1 = [] then _ else _) = _
 rw [if_neg h,zsh (zht p t) (zht (zo (q_ p t) g).2 t + 1) (zo (q_ p t) g).2 _ a1 (by rw [a2]; exact f2) (by omega) (Nat.le_refl _)]
theorem zve {t : Tm} {R : List UInt8 → Int → Pu → Prop} (off : ∀ out g p q,jg p = true → q9 p.1 t → R out g p → xt p t = some q → R out g q) (snd : ∀ out g p,jg p = true → q9 p.1 t → R out g p → R (out ++ (zo p g).1) (g - ((zo p g).1.length : Nat)) (zo p g).2) :
  ∀ (n : Nat) (out : List UInt8) (g : Int) (p : Pu),zht p t ≤ n → jg p = true → q9 p.1 t → R out g p → ∃ g',R (out ++ (vk p t g).1) g' (vk p t g).2 ∧ g' = g - ((vk p t g).1.length : Nat) ∧ jg (vk p t g).2 = true ∧ q9 (vk p t g).2.1 t ∧ xt (vk p t g).2 t = none ∧ (zo (vk p t g).2 g').1 = []:=by
 intro n
 induction n with
 |zero =>
  intro out g p hn hp hf hR
  obtain ⟨f1,f2,f3,f4⟩:=up hp hf
  have hR1:=(zg4 (t:=t) (R:=fun q=>jg q = true ∧ R out g q) (fun p' q hf' h' h=>⟨(yn h'.1 hf' h).1,off _ _ _ _ h'.1 hf' h'.2 h⟩) _ p (Nat.le_refl _) hf ⟨hp,hR⟩).2.1.2
  have hb:=za2 (t:=t) (g:=g) f1
  have h : (zo (q_ p t) g).1 = []:=List.length_eq_zero_iff.1 (by omega)
  have e:=zff f1 h
  rw [wz h,e,h]
  exact ⟨g,by simpa using hR1,by simp,f1,f2,f3,h⟩
 |succ n ih =>
  intro out g p hn hp hf hR
  obtain ⟨f1,f2,f3,f4⟩:=up hp hf
  have hR1:=(zg4 (t:=t) (R:=fun q=>jg q = true ∧ R out g q) (fun p' q hf' h' h=>⟨(yn h'.1 hf' h).1,off _ _ _ _ h'.1 hf' h'.2 h⟩) _ p (Nat.le_refl _) hf ⟨hp,hR⟩).2.1.2
  have hb:=za2 (t:=t) (g:=g) f1
  by_cases h : (zo (q_ p t) g).1 = []
  ·have e:=zff f1 h
   rw [wz h,e,h]
   exact ⟨g,by simpa using hR1,by simp,f1,f2,f3,h⟩
  ·have hl:=List.length_pos_iff.2 h
   obtain ⟨a1,a2,_⟩:=wl (g:=g) f1
   rw [zj2 hp hf h]
   obtain ⟨g',r1,r2,r3⟩:=ih (out ++ (zo (q_ p t) g).1) (g - ((zo (q_ p t) g).1.length : Nat)) (zo (q_ p t) g).2 (by omega) a1 (by rw [a2]; exact f2) (snd _ _ _ f1 f2 hR1)
   refine ⟨g',by rw [← List.append_assoc]; exact r1, ?_,r3⟩
   rw [r2,List.length_append]; omega
end Go.Proofs.YtgfmjmfphmjdkaaGreatDoor
namespace Go.Proofs.YtgfmjmfphmjdkaaGreatDoor
set_option maxHeartbeats 4000000
open Go Go.RowKit
set_option maxRecDepth 200000
def zj0 (q : Pu) : List UInt8:=(ja q.2.1.2.1).drop q.2.1.2.2.1.toNat
theorem znu {p q : Pu} {t : Tm} (hp : jg p = true) (hf : q9 p.1 t) (h : xt p t = some q) : zj0 q = zj0 p ++ ja [(zy p.1 t).1]:=by
 obtain ⟨_,o2,_⟩:=yn hp hf h
 have f:=qv (qi.1 hp).2.1
 unfold zj0
 rw [o2]
 simp only
 rw [zjd,List.drop_append_of_le_length]
 rw [jt]; omega
theorem znw {p : Pu} {t : Tm} {g : Int} (hp : jg p = true) (hf : q9 p.1 t) : (∃ m : List Cmd,m.all z9 = true ∧ (vk p t g).1 ++ zj0 (vk p t g).2 = zj0 p ++ ja m) ∧ ((vk p t g).1.length : Int) ≤ max g 0 ∧ ((vk p t g).1 ≠ [] → p.2.1.2.2.2.1 = 0 ∧ p.2.1.2.2.2.2 = false) ∧ jg (vk p t g).2 = true:=by
 obtain ⟨g',⟨⟨m,m1,m2⟩,r2,r3,r4,r5⟩,e,ok,_⟩:=zve (t:=t) (R:=fun out g1 q=>(∃ m : List Cmd,m.all z9 = true ∧ out ++ zj0 q = zj0 p ++ ja m) ∧ (out ≠ [] → p.2.1.2.2.2.1 = 0 ∧ p.2.1.2.2.2.2 = false) ∧ (out = [] → q.2.1.2.2.2.1 = p.2.1.2.2.2.1) ∧ q.2.1.2.2.2.2 = p.2.1.2.2.2.2 ∧ (out.length : Int) + max g1 0 ≤ max g 0)
  (fun out g1 q q' hq hf' ⟨⟨m,m1,m2⟩,r2,r3,r4,r5⟩ h=>by
   obtain ⟨_,o2,_,_,o5,_⟩:=yn hq hf' h
   refine ⟨⟨m ++ [(zy q.1 t).1],by rw [List.all_append,m1]; simp [o5], ?_⟩,r2,fun z=>by rw [o2]; exact r3 z,by rw [o2]; exact r4,r5⟩
   rw [znu hq hf' h,← List.append_assoc,m2,zjd,List.append_assoc])
  (fun out g1 q hq hf' ⟨⟨m,m1,m2⟩,r2,r3,r4,r5⟩=>by
   obtain ⟨a1,a2,a3,a4,a5,a6,_⟩:=wl (g:=g1) hq
   refine ⟨⟨m,m1, ?_⟩,fun z => ?_,fun z => ?_,by rw [a3]; exact r4, ?_⟩
   ·rw [List.append_assoc,show (zo q g1).1 ++ zj0 (zo q g1).2 = zj0 q from a4,m2]
   ·by_cases ho : out = []
    ·have:=a6 (by rw [ho] at z; simpa using z)
     rw [← r3 ho,← r4]; exact this
    ·exact r2 ho
   ·have z1 : out = []:=(List.append_eq_nil_iff.1 z).1
    have z2 : (zo q g1).1 = []:=(List.append_eq_nil_iff.1 z).2
    rw [zff hq z2]; exact r3 z1
   ·rw [List.length_append]; omega)
  _ [] g p (Nat.le_refl _) hp hf ⟨⟨[],rfl,by simp [ja]⟩,fun z=>absurd rfl z,fun _=>rfl,rfl,by simp⟩
 rw [List.nil_append] at m2 r2 r3 r5
 exact ⟨⟨m,m1,m2⟩,by omega,r2,ok⟩
end Go.Proofs.YtgfmjmfphmjdkaaGreatDoor
namespace Go.Proofs.YtgfmjmfphmjdkaaGreatDoor
set_option maxHeartbeats 4000000
open Go Go.RowKit
set_option maxRecDepth 200000
def zdt (pad : Int) : Int:=max 0 (pad - 1)
noncomputable def zbh (p : Pu) : Pu:=if jg p = true then (p.1,(p.2.1.1,p.2.1.2.1,p.2.1.2.2.1,zdt p.2.1.2.2.2.1,p.2.1.2.2.2.2),p.2.2) else p
theorem zur {p : Pu} (hp : jg p = true) : jg (zbh p) = true ∧ zbh p = (p.1,(p.2.1.1,p.2.1.2.1,p.2.1.2.2.1,zdt p.2.1.2.2.2.1,p.2.1.2.2.2.2),p.2.2):=by
 have e : zbh p = (p.1,(p.2.1.1,p.2.1.2.1,p.2.1.2.2.1,zdt p.2.1.2.2.2.1,p.2.1.2.2.2.2),p.2.2):=if_pos hp
 refine ⟨?_,e⟩
 rw [e]
 obtain ⟨h1,h2,h3,h4,h5⟩:=qi.1 hp
 obtain ⟨f1,f2,f3,f4⟩:=qv h2
 refine qi.2 ⟨h1, ?_,h3,h4,h5⟩
 have o:=zej h2
 obtain ⟨s,hs⟩:=Int.eq_ofNat_of_zero_le f1.2.2.2.2
 show okL p.2.1.1 p.2.1.2.1 p.2.1.2.2.1 (zdt p.2.1.2.2.2.1) = true
 rw [hs] at o f4 ⊢
 exact zvl o ⟨f1.1,f1.2.1,by unfold zdt; omega,by unfold zdt; omega⟩ (by omega)
theorem za5 {p : Pu} {t : Tm} : xt p t = none ↔ ¬ ((zy p.1 t).2 = 0 ∧ (qs p.2.1.2.1 : Int) - p.2.1.2.2.1 + xk (zy p.1 t).1 ≤ p.2.1.1):=by
 unfold xt
 split <;> simp_all
end Go.Proofs.YtgfmjmfphmjdkaaGreatDoor
namespace Go.Proofs.YtgfmjmfphmjdkaaGreatDoor
set_option maxHeartbeats 4000000
open Go Go.RowKit
set_option maxRecDepth 200000
noncomputable def jr (b : Bel) (sp : List (Int × Int)) : Bel:=sp.foldl (fun b s=>qt b s.1 s.2 true) b
theorem zwl {b : Bel} {s : Int × Int} (hb : yv b = true) (hs : jz b.2.2.1.length s = true) : yv (qt b s.1 s.2 true) = true ∧ (qt b s.1 s.2 true).1 = b.1 ∧ (qt b s.1 s.2 true).2.1 = b.2.1 ∧ (qt b s.1 s.2 true).2.2.1.length = b.2.2.1.length ∧ (qt b s.1 s.2 true).2.2.2.2.2.2 = false ∧ ∀ i : Nat,gAt (qt b s.1 s.2 true).2.2.1 i = if s.1 ≤ (i : Int) ∧ (i : Int) < s.2 then wg else gAt b.2.2.1 i:=by
 simp only [jz,Bool.and_eq_true,decide_eq_true_eq] at hs
 have k:=zwk (f:=s.1) (t:=s.2) (cur:=true) hb
 have e : qt b s.1 s.2 true = (b.1,b.2.1,zd7 b.2.2.1 s.1.toNat s.2.toNat,0,0,false,false):=by
  unfold qt
  rw [if_neg (fun z=>z ⟨hb,by omega,by omega,by omega⟩),if_pos rfl]
 rw [e] at k ⊢
 refine ⟨k,rfl,rfl,zke (by omega) (by omega),rfl,fun i => ?_⟩
 show gAt (zd7 b.2.2.1 s.1.toNat s.2.toNat) i = _
 rw [zwo (by omega) (by omega)]
 by_cases q : s.1.toNat ≤ i ∧ i < s.2.toNat
 ·rw [if_pos q,if_pos (by omega)]
 ·rw [if_neg q,if_neg (by omega)]
theorem zc7 : ∀ (sp : List (Int × Int)) (b : Bel),yv b = true → sp.all (jz b.2.2.1.length) = true → yv (jr b sp) = true ∧ (jr b sp).1 = b.1 ∧ (jr b sp).2.1 = b.2.1 ∧ (jr b sp).2.2.1.length = b.2.2.1.length ∧ (b.2.2.2.2.2.2 = false → (jr b sp).2.2.2.2.2.2 = false) ∧ ∀ i : Nat,(gAt (jr b sp).2.2.1 i).2 = true → gAt (jr b sp).2.2.1 i = gAt b.2.2.1 i
 |[],b,h,_=>⟨h,rfl,rfl,rfl,fun z=>z,fun _ _=>rfl⟩
 |s :: sp,b,h,hs=>by
  simp only [List.all_cons,Bool.and_eq_true] at hs
  obtain ⟨f1,f2,f3,f4,f5,f6⟩:=zwl h hs.1
  obtain ⟨g1,g2,g3,g4,g5,g6⟩:=zc7 sp (qt b s.1 s.2 true) f1 (by rw [f4]; exact hs.2)
  refine ⟨g1,g2.trans f2,g3.trans f3,g4.trans f4,fun _=>g5 f5,fun i hi => ?_⟩
  have e:=g6 i hi
  have e' : gAt (jr b (s :: sp)).2.2.1 i = gAt (qt b s.1 s.2 true).2.2.1 i:=e
  rw [e'] at hi ⊢
  rw [f6] at hi ⊢
  split at hi
  ·cases hi
  ·rename_i q; rw [if_neg q]
end Go.Proofs.YtgfmjmfphmjdkaaGreatDoor
namespace Go.Proofs.YtgfmjmfphmjdkaaGreatDoor
set_option maxHeartbeats 4000000
open Go Go.RowKit
set_option maxRecDepth 200000
def zfa (sent : Int) : Nat:=if 0 < sent then 1 else 0
noncomputable def xx (p : Pu) : Pu:=if jg p = true then (jr p.1 (p.2.2.drop (zfa p.2.1.2.2.1)),(p.2.1.1,p.2.1.2.1.take (zfa p.2.1.2.2.1),p.2.1.2.2.1,p.2.1.2.2.2.1,p.2.1.2.2.2.2),p.2.2.take (zfa p.2.1.2.2.1)) else p
noncomputable def zdc (p : Pu) : Pu:=if jg p = true then ((yg (xx p).1.1 (xx p).1.2.1).1,(xx p).2.1,(xx p).2.2) else p
noncomputable def wa (p : Pu) (w h : Int) : Pu × Int:=if jg p = true then (if (yg w h).2 = 0 then (((yg w h).1,(xx p).2.1,List.replicate (xx p).2.1.2.1.length (0,0)),0) else (zvq,(yg w h).2)) else (zvq,1)
def zwa (p : Pu) (off : Bool) : Pu:=(p.1,(p.2.1.1,p.2.1.2.1,p.2.1.2.2.1,p.2.1.2.2.2.1,off),p.2.2)
end Go.Proofs.YtgfmjmfphmjdkaaGreatDoor
namespace Go.Proofs.YtgfmjmfphmjdkaaGreatDoor
set_option maxHeartbeats 4000000
open Go Go.RowKit
set_option maxRecDepth 100000
def zh9 (p : Pu) : Bool:=ze3 p.1 && okL p.2.1.1 p.2.1.2.1 p.2.1.2.2.1 p.2.1.2.2.2.1 && decide (p.2.1.1 = 48) && decide (p.2.2.length = p.2.1.2.1.length) && p.2.2.all (jz p.1.2.2.1.length)
theorem zcr (p : Pu) : jg p = zh9 p:=by unfold jg zh9 yv ze3; rw [zis]
def zfi (p : Pu) (t : Tm) : Option Pu :=
 if (zgs p.1 t).2 = 0 ∧ (qs p.2.1.2.1 : Int) - p.2.1.2.2.1 + xk (zgs p.1 t).1 ≤ p.2.1.1 then
  some ((qbe p.1 (zgs p.1 t).1).1,(p.2.1.1,p.2.1.2.1 ++ [(zgs p.1 t).1],p.2.1.2.2.1,p.2.1.2.2.2.1,p.2.1.2.2.2.2),p.2.2 ++ [znk p.1 (zgs p.1 t).1])
 else none
theorem zvo (p : Pu) (t : Tm) : xt p t = zfi p t:=by unfold xt zfi; rw [z46,qbd,zzm]
def zqz (t : Tm) : Nat → Pu → Pu
 |0,p=>p
 |n + 1,p=>match zfi p t with
  |none=>p
  |some q=>zqz t n q
theorem zwt (t : Tm) : ∀ (n : Nat) (p : Pu),ze_ t n p = zqz t n p
 |0,_=>rfl
 |n + 1,p=>by
  unfold ze_ zqz
  rw [zvo]
  cases zfi p t with
  |none=>rfl
  |some q=>exact zwt t n q
def qdp (b : Bel) (t : Tm) : Nat:=2 * zh4 b t + (if zbx b (zna b t) (zm_ b t) = true then 0 else 1)
def qbk (p : Pu) (t : Tm) : Nat:=12 * zh4 p.1 t + 8 * (if zbx p.1 (zna p.1 t) (zm_ p.1 t) = true then 0 else 1) + (qs p.2.1.2.1 - p.2.1.2.2.1.toNat)
theorem qbj (p : Pu) (t : Tm) : zht p t = qbk p t:=rfl
def zeq (p : Pu) (t : Tm) : Pu:=zqz t (qdp p.1 t) p
theorem z5p (p : Pu) (t : Tm) : q_ p t = zeq p t:=zwt t _ p
def ziq (t : Tm) : Nat → Pu → Int → List UInt8 × Pu
 |0,p,_=>([],p)
 |n + 1,p,g=>if (zo (zeq p t) g).1 = [] then zo (zeq p t) g
  else ((zo (zeq p t) g).1 ++ (ziq t n (zo (zeq p t) g).2 (g - ((zo (zeq p t) g).1.length : Nat))).1,(ziq t n (zo (zeq p t) g).2 (g - ((zo (zeq p t) g).1.length : Nat))).2)
theorem zvf (t : Tm) : ∀ (n : Nat) (p : Pu) (g : Int),zlp t n p g = ziq t n p g
 |0,_,_=>rfl
 |n + 1,p,g=>by
  unfold zlp ziq
  rw [z5p,zvf t n]
def zdy (p : Pu) (t : Tm) (g : Int) : List UInt8 × Pu × Int:=if zh9 p = true ∧ zqy p.1 t = true then ((ziq t (qbk p t + 1) p g).1,(ziq t (qbk p t + 1) p g).2,0) else ([],zvq,1)
theorem zfh (p : Pu) (t : Tm) (g : Int) : ua p t g = zdy p t g:=by
 unfold ua zdy vk
 rw [zvf,qbj]
 by_cases h : jg p = true ∧ q9 p.1 t
 ·rw [if_pos h,if_pos ⟨by rw [← zcr]; exact h.1,zkf.1 h.2⟩]
 ·rw [if_neg h,if_neg (fun z=>h ⟨by rw [zcr]; exact z.1,zkf.2 z.2⟩)]
def zkd (b : Bel) (sp : List (Int × Int)) : Bel:=sp.foldl (fun b s=>zfn b s.1 s.2 true) b
theorem zl8 : ∀ (sp : List (Int × Int)) (b : Bel),jr b sp = zkd b sp
 |[],_=>rfl
 |s :: sp,b=>by
  show jr (qt b s.1 s.2 true) sp = zkd (zfn b s.1 s.2 true) sp
  rw [zwm,zl8 sp]
def ur (p : Pu) : Pu:=if zh9 p = true then (zkd p.1 (p.2.2.drop (zfa p.2.1.2.2.1)),(p.2.1.1,p.2.1.2.1.take (zfa p.2.1.2.2.1),p.2.1.2.2.1,p.2.1.2.2.2.1,p.2.1.2.2.2.2),p.2.2.take (zfa p.2.1.2.2.1)) else p
theorem zko (p : Pu) : xx p = ur p:=by unfold xx ur; rw [zcr,zl8]
def zo_ (p : Pu) : Pu:=if zh9 p = true then ((yg (ur p).1.1 (ur p).1.2.1).1,(ur p).2.1,(ur p).2.2) else p
theorem z13 (p : Pu) : zdc p = zo_ p:=by unfold zdc zo_; rw [zcr,zko]
def zno (p : Pu) (w h : Int) : Pu × Int:=if zh9 p = true then (if (yg w h).2 = 0 then (((yg w h).1,(ur p).2.1,List.replicate (ur p).2.1.2.1.length (0,0)),0) else (zvq,(yg w h).2)) else (zvq,1)
theorem zzs (p : Pu) (w h : Int) : wa p w h = zno p w h:=by unfold wa zno; rw [zcr,zko]
def zn9 (p : Pu) (g : Int) : List UInt8 × Pu:=if zh9 p = true then zo p g else ([],p)
theorem z0w (p : Pu) (g : Int) : ue p g = zn9 p g:=by unfold ue zn9; rw [zcr]
noncomputable def zc0 (p : Pu) (off : Bool) : Pu:=if jg p = true then zwa p off else p
def zn_ (p : Pu) (off : Bool) : Pu:=if zh9 p = true then zwa p off else p
theorem z0x (p : Pu) (off : Bool) : zc0 p off = zn_ p off:=by unfold zc0 zn_; rw [zcr]
end Go.Proofs.YtgfmjmfphmjdkaaGreatDoor
