/- What a terminal that is fed with commands' bytes becomes. No condition. -/
import Derived.Test.YtgfmjmfphmjdkaaGreatDoorR3KP
import Derived.Test.YtgfmjmfphmjdkaaGreatDoorR3ZM
import Derived.Test.YtgfmjmfphmjdkaaGreatDoorR3ZN
import Derived.Test.YtgfmjmfphmjdkaaGreatDoorR3I1
set_option linter.unusedSimpArgs false
set_option linter.unusedVariables false
set_option linter.unusedSectionVars false
namespace Go.Proofs.YtgfmjmfphmjdkaaGreatDoor
set_option maxHeartbeats 4000000
open Go Go.RowKit
set_option maxRecDepth 200000
theorem znb {s : List UInt8} (h : zof s) : xj s = ((0,0,0,0),[],3):=by
 have h0 : s ≠ []:=by rcases h with ⟨h,_⟩ | ⟨h,_⟩ <;> exact h
 rw [xj,if_neg h0,z0y h]; rfl
theorem zfa : ∀ (l : List Cmd) (t : Tm),yt t = true → l.all z9 = true → yt (zae t l) = true
 |[],_,h,_=>h
 |c :: l,t,h,hc=>by
  simp only [List.all_cons,Bool.and_eq_true] at hc
  exact zfa l (doT t c).1 (by rw [zc5 h hc.1]; exact zhe h hc.1) hc.2
theorem zfb (t : Tm) (a b : List Cmd) : zae t (a ++ b) = zae (zae t a) b:=by simp [zae,List.foldl_append]
theorem zhn : ∀ (l : List Cmd),l.all z9 = true → qo l = l.flatMap q9
 |[],_=>rfl
 |c :: l,h=>by
  simp only [List.all_cons,Bool.and_eq_true] at h
  rw [w9,List.flatMap_cons,zhn l h.2,jt,if_pos h.1]
theorem zbp : v9 [] = ([],[],0):=zdf (by decide) (by decide)
theorem zmn {l : List Cmd} (h : l.all z9 = true) (s : List UInt8) (hs : v9 s = ([],s,0)) : v9 (qo l ++ s) = (l,s,0):=by
 rw [zhn l h,zqf l s (fun c hc=>List.all_eq_true.1 h c hc),hs,zsd]
 simp
theorem zxa {c : Cmd} (hc : z9 c = true) {k : Nat} (hk : k < jb c) : v9 ((jt c).1.take k) = ([],(jt c).1.take k,0):=by
 have e : (jt c).1 = q9 c:=by rw [jt,if_pos hc]
 have hl : (q9 c).length = jb c:=by rw [jb,e]
 rcases Nat.eq_zero_or_pos k with z | z
 ·rw [z,List.take_zero]; exact zbp
 ·rw [e]
  have:=znb (zuc (zjg hc) z (by omega))
  exact zdf (by rw [this]; decide) (by rw [this]; decide)
theorem zc2 {t : Tm} {l : List Cmd} (ht : yt t = true) (h : l.all z9 = true) {s : List UInt8} (hs : v9 s = ([],s,0)) : km t (qo l ++ s) = (zae t l,s,0):=by
 rw [km,if_pos ht,zmn h s hs]; rfl
end Go.Proofs.YtgfmjmfphmjdkaaGreatDoor
namespace Go.Proofs.YtgfmjmfphmjdkaaGreatDoor
set_option maxHeartbeats 4000000
open Go Go.RowKit
set_option maxRecDepth 100000
abbrev Lk:=Int × List Cmd × Int × Int × Bool
abbrev Pu:=Bel × Lk × List (Int × Int)
def noK : Lk:=(0,[],0,0,false)
def zxi : Pu:=(noB,noK,[])
def ze1 (w h : Int) : Pu × Int:=if (ye w h).2 = 0 then (((ye w h).1,(48,[],0,0,false),[]),0) else (zxi,(ye w h).2)
def ju (n : Nat) (s : Int × Int) : Bool:=decide (0 ≤ s.1) && decide (s.1 ≤ s.2) && decide (s.2 ≤ n)
noncomputable def x8 (p : Pu) : Bool:=ub p.1 && okL p.2.1.1 p.2.1.2.1 p.2.1.2.2.1 p.2.1.2.2.2.1 && decide (p.2.1.1 = 48) && decide (p.2.2.length = p.2.1.2.1.length) && p.2.2.all (ju p.1.2.2.1.length)
noncomputable def xe (p : Pu) (t : Tm) : Option Pu :=
 if (zu p.1 t).2 = 0 ∧ (qr p.2.1.2.1 : Int) - p.2.1.2.2.1 + jb (zu p.1 t).1 ≤ p.2.1.1 then
  some ((doB p.1 (zu p.1 t).1).1,(p.2.1.1,p.2.1.2.1 ++ [(zu p.1 t).1],p.2.1.2.2.1,p.2.1.2.2.2.1,p.2.1.2.2.2.2),p.2.2 ++ [jh p.1 (zu p.1 t).1])
 else none
noncomputable def ze4 (t : Tm) : Nat → Pu → Pu
 |0,p=>p
 |n + 1,p=>match xe p t with
  |none=>p
  |some q=>ze4 t n q
noncomputable def zs5 (b : Bel) (t : Tm) : Nat:=2 * zhv b t + atW b t
noncomputable def xz (p : Pu) (t : Tm) : Pu:=ze4 t (zs5 p.1 t) p
theorem je {p q : Pu} {t : Tm} (hf : qz p.1 t) (h : xe p t = some q) : qz q.1 t ∧ zs5 q.1 t + 1 ≤ zs5 p.1 t ∧ (12 * zhv q.1 t + 8 * atW q.1 t + qr q.2.1.2.1 ≤ 12 * zhv p.1 t + 8 * atW p.1 t + qr p.2.1.2.1) ∧ zy3 q.1 t + wv q.2.1.2.1 ≤ zy3 p.1 t + wv p.2.1.2.1 ∧ q.1.1 = p.1.1 ∧ q.1.2.1 = p.1.2.1 ∧ q.1.2.2.1.length = p.1.2.2.1.length:=by
 unfold xe at h
 by_cases c : (zu p.1 t).2 = 0 ∧ (qr p.2.1.2.1 : Int) - p.2.1.2.2.1 + jb (zu p.1 t).1 ≤ p.2.1.1
 ·rw [if_pos c] at h
  injection h with h
  subst h
  obtain ⟨m1,m2,m3⟩:=zqr hf (by rw [c.1]; decide)
  rcases za8 hf with ⟨_,_,e⟩ | ⟨_,_,_,s4,s5,s6,s7,_⟩
  ·exact absurd c.1 (by rw [e]; decide)
  ·have e1 : qr (p.2.1.2.1 ++ [(zu p.1 t).1]) = qr p.2.1.2.1 + jb (zu p.1 t).1:=by simp [qr]
   have e2 : wv (p.2.1.2.1 ++ [(zu p.1 t).1]) = wv p.2.1.2.1 + zcl (zu p.1 t).1:=by simp [wv]
   refine ⟨s4,m1, ?_, ?_,s6,s7,s5⟩
   ·show _ + qr (p.2.1.2.1 ++ [(zu p.1 t).1]) ≤ _
    rw [e1]; simp only; omega
   ·show _ + wv (p.2.1.2.1 ++ [(zu p.1 t).1]) ≤ _
    rw [e2]; simp only; omega
 ·rw [if_neg c] at h; cases h
theorem zrg {t : Tm} (n : Nat) : ∀ (m : Nat) (p : Pu),qz p.1 t → zs5 p.1 t ≤ n → zs5 p.1 t ≤ m → ze4 t n p = ze4 t m p:=by
 induction n with
 |zero =>
  intro m p hf hn hm
  cases e : xe p t with
  |none =>
   cases m with
   |zero=>rfl
   |succ k=>unfold ze4; rw [e]
  |some q=>have:=(je hf e).2.1; omega
 |succ n ih =>
  intro m p hf hn hm
  cases e : xe p t with
  |none =>
   cases m with
   |zero=>unfold ze4; rw [e]
   |succ k=>unfold ze4; rw [e]
  |some q =>
   obtain ⟨q1,q2,_⟩:=je hf e
   obtain ⟨m,rfl⟩ : ∃ k,m = k + 1:=⟨m - 1,by omega⟩
   unfold ze4
   rw [e]
   exact ih m q q1 (by omega) (by omega)
theorem zbb {p : Pu} {t : Tm} (h : xe p t = none) : xz p t = p:=by
 unfold xz
 cases zs5 p.1 t with
 |zero=>rfl
 |succ k=>unfold ze4; rw [h]
theorem zin {p q : Pu} {t : Tm} (hf : qz p.1 t) (h : xe p t = some q) : xz p t = xz q t:=by
 obtain ⟨q1,q2,_⟩:=je hf h
 unfold xz
 obtain ⟨k,hk⟩ : ∃ k,zs5 p.1 t = k + 1:=⟨zs5 p.1 t - 1,by omega⟩
 rw [hk]
 show (match xe p t with | none=>p | some q=>ze4 t k q) = _
 rw [h]
 exact zrg k _ q q1 (by omega) (Nat.le_refl _)
theorem zc1 {t : Tm} {R : Pu → Prop} (step : ∀ p q,qz p.1 t → R p → xe p t = some q → R q) : ∀ (n : Nat) (p : Pu),zs5 p.1 t ≤ n → qz p.1 t → R p → qz (xz p t).1 t ∧ R (xz p t) ∧ xe (xz p t) t = none:=by
 intro n
 induction n with
 |zero =>
  intro p hn hf hR
  cases e : xe p t with
  |none=>rw [zbb e]; exact ⟨hf,hR,e⟩
  |some q=>have:=(je hf e).2.1; omega
 |succ n ih =>
  intro p hn hf hR
  cases e : xe p t with
  |none=>rw [zbb e]; exact ⟨hf,hR,e⟩
  |some q =>
   obtain ⟨q1,q2,_⟩:=je hf e
   rw [zin hf e]
   exact ih q (by omega) q1 (step p q hf hR e)
def zi (p : Pu) (g : Int) : List UInt8 × Pu :=
 if p.2.1.2.2.2.2 = true then ([],p) else
 ((xt p.2.1.2.1 p.2.1.2.2.1.toNat p.2.1.2.2.2.1 g).1,(p.1,(p.2.1.1,(xt p.2.1.2.1 p.2.1.2.2.1.toNat p.2.1.2.2.2.1 g).2.1,((xt p.2.1.2.1 p.2.1.2.2.1.toNat p.2.1.2.2.2.1 g).2.2.1 : Int),(xt p.2.1.2.1 p.2.1.2.2.1.toNat p.2.1.2.2.2.1 g).2.2.2,p.2.1.2.2.2.2),p.2.2.drop (p.2.1.2.1.length - (xt p.2.1.2.1 p.2.1.2.2.1.toNat p.2.1.2.2.2.1 g).2.1.length)))
noncomputable def zbv (p : Pu) (g : Int) : List UInt8 × Pu:=if x8 p = true then zi p g else ([],p)
noncomputable def zlg (t : Tm) : Nat → Pu → Int → List UInt8 × Pu
 |0,p,_=>([],p)
 |n + 1,p,g=>if (zi (xz p t) g).1 = [] then zi (xz p t) g
  else ((zi (xz p t) g).1 ++ (zlg t n (zi (xz p t) g).2 (g - ((zi (xz p t) g).1.length : Nat))).1,(zlg t n (zi (xz p t) g).2 (g - ((zi (xz p t) g).1.length : Nat))).2)
noncomputable def zah (p : Pu) (t : Tm) : Nat:=12 * zhv p.1 t + 8 * atW p.1 t + (qr p.2.1.2.1 - p.2.1.2.2.1.toNat)
noncomputable def xo (p : Pu) (t : Tm) (g : Int) : List UInt8 × Pu:=zlg t (zah p t + 1) p g
noncomputable def vj (p : Pu) (t : Tm) (g : Int) : List UInt8 × Pu × Int:=if x8 p = true ∧ qz p.1 t then ((xo p t g).1,(xo p t g).2,0) else ([],zxi,1)
end Go.Proofs.YtgfmjmfphmjdkaaGreatDoor
namespace Go.Proofs.YtgfmjmfphmjdkaaGreatDoor
set_option maxHeartbeats 4000000
open Go Go.RowKit
set_option maxRecDepth 100000
theorem zsy {b : Bel} {c : Cmd} (h : ub b = true) : ju b.2.2.1.length (jh b c) = true:=by
 obtain ⟨bw,bh,l,x,y,bb,s⟩:=b
 have h' : yx bw bh l x y bb s = true:=h
 obtain ⟨w,h0,e1,e2,w2,w3,w4,w5,hl,hk,p1,p2⟩:=qn.1 h'
 subst e1 e2
 have e3 : ((w : Int) * h0) = (l.length : Int):=by rw [hl]; exact (Int.natCast_mul w h0).symm
 have zero : ju l.length (0,0) = true:=by simp [ju]
 show ju l.length _ = true
 unfold jh
 dsimp only
 by_cases q0 : ¬ (ub ((w : Int),(h0 : Int),l,x,y,bb,s) = true ∧ z9 c = true ∧ chg c.1 = true)
 ·rw [if_pos q0]; exact zero
 ·rw [if_neg q0]
  by_cases q1 : s = false ∨ (qc w x bb c = true ∧ y = (h0 : Int) - 1)
  ·simp only [if_pos q1]
   simp only [e3,ju,Bool.and_eq_true,decide_eq_true_eq]; omega
  ·simp only [if_neg q1]
   by_cases q2 : c.1 = 10
   ·rw [if_pos q2]; exact zero
   ·rw [if_neg q2]
    have hs : s = true:=by
     cases s with
     |true=>rfl
     |false=>exact absurd (.inl rfl) q1
    subst hs
    obtain ⟨x1,x2,y1,y2,_⟩:=p1 rfl
    have hY : ∀ Y : Int,0 ≤ Y → Y < h0 → 0 ≤ Y * w ∧ Y * w + w ≤ l.length ∧ (Y + 1) * w = Y * w + w:=fun Y a b'=>by
     have k1:=Int.mul_nonneg a (show (0 : Int) ≤ w by omega)
     have k2 : (Y + 1) * w ≤ h0 * w:=Int.mul_le_mul_of_nonneg_right (by omega) (by omega)
     have k3 : (Y + 1) * w = Y * w + w:=by rw [Int.add_mul,Int.one_mul]
     have k4 : (h0 : Int) * w = w * h0:=Int.mul_comm _ _
     exact ⟨k1,by omega,k3⟩
    have hlen : 1 ≤ (zh c.2.2.2).length:=(wq _).1
    cases hg : qc w x bb c with
    |true =>
     have : y ≠ (h0 : Int) - 1:=fun z=>q1 (.inr ⟨hg,z⟩)
     obtain ⟨k1,k2,k3⟩:=hY (y + 1) (by omega) (by omega)
     simp only [if_true,ju,Bool.and_eq_true,decide_eq_true_eq]
     rw [e3]
     generalize (y + 1) * (w : Int) = Z at *
     rw [k3]
     by_cases c7 : c.1 = 7
     ·rw [if_pos c7]; omega
     ·rw [if_neg c7]
      by_cases c8 : c.1 = 8
      ·rw [if_pos c8]; omega
      ·rw [if_neg c8]; omega
    |false =>
     obtain ⟨k1,k2,k3⟩:=hY y (by omega) (by omega)
     simp only [Bool.false_eq_true,if_false,ju,Bool.and_eq_true,decide_eq_true_eq]
     rw [e3,k3]
     generalize y * (w : Int) = Z at *
     by_cases c7 : c.1 = 7
     ·rw [if_pos c7]; omega
     ·rw [if_neg c7]
      by_cases c8 : c.1 = 8
      ·rw [if_pos c8]; omega
      ·rw [if_neg c8]; omega
theorem zm {p : Pu} : x8 p = true ↔ ub p.1 = true ∧ okL p.2.1.1 p.2.1.2.1 p.2.1.2.2.1 p.2.1.2.2.2.1 = true ∧ p.2.1.1 = 48 ∧ p.2.2.length = p.2.1.2.1.length ∧ p.2.2.all (ju p.1.2.2.1.length) = true:=by
 simp only [x8,Bool.and_eq_true,decide_eq_true_eq,and_assoc]
theorem j8 {p q : Pu} {t : Tm} (hp : x8 p = true) (hf : qz p.1 t) (h : xe p t = some q) : x8 q = true ∧ q.2.1 = (48,p.2.1.2.1 ++ [(zu p.1 t).1],p.2.1.2.2.1,p.2.1.2.2.2.1,p.2.1.2.2.2.2) ∧ q.1 = (doB p.1 (zu p.1 t).1).1 ∧ q.2.2 = p.2.2 ++ [jh p.1 (zu p.1 t).1] ∧ z9 (zu p.1 t).1 = true ∧ (zu p.1 t).2 = 0:=by
 obtain ⟨q1,_,_,_,_,_,q2⟩:=je hf h
 obtain ⟨h1,h2,h3,h4,h5⟩:=zm.1 hp
 unfold xe at h
 by_cases c : (zu p.1 t).2 = 0 ∧ (qr p.2.1.2.1 : Int) - p.2.1.2.2.1 + jb (zu p.1 t).1 ≤ p.2.1.1
 ·rw [if_pos c] at h
  injection h with h
  subst h
  have hc : z9 (zu p.1 t).1 = true:=by
   rcases za8 hf with ⟨_,_,e⟩ | ⟨_,s2,_⟩
   ·exact absurd c.1 (by rw [e]; decide)
   ·exact s2
  refine ⟨zm.2 ⟨q1.1, ?_,h3, ?_, ?_⟩,by rw [← h3],rfl,rfl,hc,c.1⟩
  ·simp only at q2 ⊢
   obtain ⟨f1,f2,f3,f4⟩:=zv h2
   have e1 : qr (p.2.1.2.1 ++ [(zu p.1 t).1]) = qr p.2.1.2.1 + jb (zu p.1 t).1:=by simp [qr]
   obtain ⟨s,hs⟩:=Int.eq_ofNat_of_zero_le f1.2.2.2.2
   have o:=zab h2
   rw [hs] at o c ⊢
   refine ztv (l:=p.2.1.2.1 ++ [(zu p.1 t).1]) ⟨?_,fun z => ?_,fun d r z => ?_⟩ ⟨by omega,by omega,by omega,by omega⟩ (by rw [e1]; omega)
   ·rw [List.all_append,f2]; simp [hc]
   ·simp at z
   ·cases hl : p.2.1.2.1 with
    |nil =>
     rw [hl] at z o
     have:=o.2.1 rfl
     injection z with z1 z2
     subst z1
     have:=zfi hc
     simp only [Int.toNat_natCast] at *; omega
    |cons d' r' =>
     rw [hl] at z o
     injection z with z1 z2
     subst z1
     exact o.2.2 d' r' rfl
  ·simp only [List.length_append,List.length_cons,List.length_nil,h4]
  ·simp only [List.all_append,List.all_cons,List.all_nil,Bool.and_true,Bool.and_eq_true]
   refine ⟨by rw [q2]; exact h5, ?_⟩
   rw [q2]; exact zsy h1
 ·rw [if_neg c] at h; cases h
theorem vu {p : Pu} {g : Int} (ho : ¬ p.2.1.2.2.2.2 = true) : zi p g = ((xt p.2.1.2.1 p.2.1.2.2.1.toNat p.2.1.2.2.2.1 g).1,(p.1,(p.2.1.1,(xt p.2.1.2.1 p.2.1.2.2.1.toNat p.2.1.2.2.2.1 g).2.1,((xt p.2.1.2.1 p.2.1.2.2.1.toNat p.2.1.2.2.2.1 g).2.2.1 : Int),(xt p.2.1.2.1 p.2.1.2.2.1.toNat p.2.1.2.2.2.1 g).2.2.2,p.2.1.2.2.2.2),p.2.2.drop (p.2.1.2.1.length - (xt p.2.1.2.1 p.2.1.2.2.1.toNat p.2.1.2.2.2.1 g).2.1.length))):=if_neg ho
theorem k_ {p : Pu} {g : Int} (hp : x8 p = true) : x8 (zi p g).2 = true ∧ (zi p g).2.1 = p.1 ∧ (zi p g).2.2.1.2.2.2.2 = p.2.1.2.2.2.2 ∧ (zi p g).1 ++ (qo (zi p g).2.2.1.2.1).drop (zi p g).2.2.1.2.2.1.toNat = (qo p.2.1.2.1).drop p.2.1.2.2.1.toNat ∧ ((zi p g).1.length : Int) ≤ max g 0 ∧ ((zi p g).1 ≠ [] → p.2.1.2.2.2.1 = 0 ∧ p.2.1.2.2.2.2 = false) ∧ (∃ k,(zi p g).2.2.1.2.1 = p.2.1.2.1.drop k ∧ k ≤ p.2.1.2.1.length ∧ (zi p g).2.2.2 = p.2.2.drop k):=by
 obtain ⟨h1,h2,h3,h4,h5⟩:=zm.1 hp
 by_cases ho : p.2.1.2.2.2.2 = true
 ·have e : zi p g = ([],p):=if_pos ho
  rw [e]
  exact ⟨hp,rfl,rfl,rfl,by simp; omega,fun z=>absurd rfl z,0,rfl,Nat.zero_le _,rfl⟩
 ·rw [vu ho]
  obtain ⟨f1,f2,f3,f4⟩:=zv h2
  obtain ⟨a1,a2,a3,a4,a5,a6,k,a7,a8⟩:=zji p.2.1.2.1 p.2.1.2.2.1.toNat p.2.1.2.2.2.1 g (zab h2) f1.2.2.1 f1.2.2.2.1
  generalize xt p.2.1.2.1 p.2.1.2.2.1.toNat p.2.1.2.2.2.1 g = r at *
  obtain ⟨r1,r2,r3,r4⟩:=r
  simp only at a1 a2 a3 a4 a5 a6 a7 ⊢
  have hk : p.2.1.2.1.length - r2.length = k:=by rw [a7,List.length_drop]; omega
  have hc : qr r2 - r3 + r1.length = qr p.2.1.2.1 - p.2.1.2.2.1.toNat:=by
   have:=congrArg List.length a3
   simp only [List.length_append,List.length_drop,jf] at this
   omega
  refine ⟨zm.2 ⟨h1,ztv a1 ⟨f1.1,f1.2.1,a2.1,a2.2⟩ ?_,h3, ?_, ?_⟩,trivial,trivial,by simpa using a3,a4,fun z=>⟨a5 z,by simpa using ho⟩,k,a7,a8,by rw [hk]⟩
  ·simp only
   have:=zab h2
   omega
  ·simp only [List.length_drop,hk,a7,h4]
   omega
  ·simp only
   rw [List.all_eq_true] at h5 ⊢
   exact fun s hs=>h5 s (List.mem_of_mem_drop hs)
theorem ze_ {p : Pu} {g : Int} (hp : x8 p = true) (h : (zi p g).1 = []) : (zi p g).2 = p:=by
 obtain ⟨b,⟨room,l,s,pad,off⟩,sp⟩:=p
 obtain ⟨h1,h2,h3,h4,h5⟩:=zm.1 hp
 by_cases ho : off = true
 ·exact congrArg Prod.snd (if_pos ho : zi (b,(room,l,s,pad,off),sp) g = ([],(b,(room,l,s,pad,off),sp)))
 ·rw [vu ho] at h ⊢
  simp only at h h2 h3 h4 ⊢
  obtain ⟨f1,f2,f3,f4⟩:=zv h2
  obtain ⟨n,hn⟩:=Int.eq_ofNat_of_zero_le f1.2.2.2.2
  subst hn
  have o:=zab h2
  simp only [Int.toNat_natCast] at h o ⊢
  have stop : l = [] ∨ pad ≠ 0 ∨ g ≤ 0:=by
   refine Classical.byContradiction fun z => ?_
   have z1 : l ≠ []:=fun e=>z (.inl e)
   have z2 : pad = 0:=Classical.byContradiction fun e=>z (.inr (.inl e))
   have z3 : 0 < g:=by
    rcases Int.lt_or_le 0 g with e | e
    ·exact e
    ·exact absurd (.inr (.inr e)) z
   subst z2
   cases l with
   |nil=>exact z1 rfl
   |cons c l =>
    have hlt:=o.2.2 c l rfl
    have hlen : (jt c).1.length = jb c:=rfl
    by_cases hw : g < ((jb c - n : Nat) : Int)
    ·rw [za7 z3 hw] at h
     have:=congrArg List.length h
     simp only [List.length_take,List.length_drop,List.length_nil] at this
     omega
    ·rw [uq z3 (by omega)] at h
     have:=congrArg List.length h
     simp only [List.length_append,List.length_drop,List.length_nil] at this
     omega
  rw [jz stop]
  simp
theorem zba {p : Pu} {t : Tm} (hp : x8 p = true) (hf : qz p.1 t) : x8 (xz p t) = true ∧ qz (xz p t).1 t ∧ xe (xz p t) t = none ∧ zah (xz p t) t ≤ zah p t:=by
 obtain ⟨a,⟨b',c⟩,d⟩:=zc1 (t:=t) (R:=fun q=>x8 q = true ∧ zah q t ≤ zah p t) (fun p' q hf' hR h=>by
  obtain ⟨o1,o2,_⟩:=j8 hR.1 hf' h
  refine ⟨o1,Nat.le_trans ?_ hR.2⟩
  obtain ⟨_,_,m,_⟩:=je hf' h
  have f:=(zv (zm.1 hR.1).2.1)
  unfold zah
  have e : q.2.1.2.2.1 = p'.2.1.2.2.1:=by rw [o2]
  have e2 : qr q.2.1.2.1 = qr p'.2.1.2.1 + jb (zu p'.1 t).1:=by rw [o2]; simp [qr]
  have e3:=f.2.2.1
  rw [e]
  generalize p'.2.1.2.2.1 = s at *
  omega) (zs5 p.1 t) p (Nat.le_refl _) hf ⟨hp,Nat.le_refl _⟩
 exact ⟨b',a,d,c⟩
theorem uo {p : Pu} {t : Tm} {g : Int} (hp : x8 p = true) : zah (zi p g).2 t + (zi p g).1.length = zah p t:=by
 obtain ⟨a1,a2,a3,a4,a5,a6,a7⟩:=k_ (g:=g) hp
 have:=congrArg List.length a4
 simp only [List.length_append,List.length_drop,jf] at this
 unfold zah
 rw [a2]; omega
theorem zqq {t : Tm} (n : Nat) : ∀ (m : Nat) (p : Pu) (g : Int),x8 p = true → qz p.1 t → zah p t + 1 ≤ n → zah p t + 1 ≤ m → zlg t n p g = zlg t m p g:=by
 induction n with
 |zero=>intro m p g hp hf hn hm; omega
 |succ n ih =>
  intro m p g hp hf hn hm
  obtain ⟨m,rfl⟩ : ∃ k,m = k + 1:=⟨m - 1,by omega⟩
  obtain ⟨f1,f2,f3,f4⟩:=zba hp hf
  unfold zlg
  by_cases h : (zi (xz p t) g).1 = []
  ·rw [if_pos h,if_pos h]
  ·rw [if_neg h,if_neg h]
   obtain ⟨a1,a2,_⟩:=k_ (g:=g) f1
   have hb:=uo (t:=t) (g:=g) f1
   have hl:=List.length_pos_iff.2 h
   rw [ih m (zi (xz p t) g).2 _ a1 (by rw [a2]; exact f2) (by omega) (by omega)]
theorem vn {p : Pu} {t : Tm} {g : Int} (h : (zi (xz p t) g).1 = []) : xo p t g = zi (xz p t) g:=by
 unfold xo
 show (if (zi (xz p t) g).1 = [] then _ else _) = _
 rw [if_pos h]
theorem zjm {p : Pu} {t : Tm} {g : Int} (hp : x8 p = true) (hf : qz p.1 t) (h : (zi (xz p t) g).1 ≠ []) : xo p t g = ((zi (xz p t) g).1 ++ (xo (zi (xz p t) g).2 t (g - ((zi (xz p t) g).1.length : Nat))).1,(xo (zi (xz p t) g).2 t (g - ((zi (xz p t) g).1.length : Nat))).2):=by
 obtain ⟨f1,f2,f3,f4⟩:=zba hp hf
 obtain ⟨a1,a2,_⟩:=k_ (g:=g) f1
 have hb:=uo (t:=t) (g:=g) f1
 have hl:=List.length_pos_iff.2 h
 unfold xo
 show (if (zi (xz p t) g).1 = [] then _ else _) = _
 rw [if_neg h,zqq (zah p t) (zah (zi (xz p t) g).2 t + 1) (zi (xz p t) g).2 _ a1 (by rw [a2]; exact f2) (by omega) (Nat.le_refl _)]
theorem y9 {t : Tm} {R : List UInt8 → Int → Pu → Prop} (off : ∀ out g p q,x8 p = true → qz p.1 t → R out g p → xe p t = some q → R out g q) (snd : ∀ out g p,x8 p = true → qz p.1 t → R out g p → R (out ++ (zi p g).1) (g - ((zi p g).1.length : Nat)) (zi p g).2) :
  ∀ (n : Nat) (out : List UInt8) (g : Int) (p : Pu),zah p t ≤ n → x8 p = true → qz p.1 t → R out g p → ∃ g',R (out ++ (xo p t g).1) g' (xo p t g).2 ∧ g' = g - ((xo p t g).1.length : Nat) ∧ x8 (xo p t g).2 = true ∧ qz (xo p t g).2.1 t ∧ xe (xo p t g).2 t = none ∧ (zi (xo p t g).2 g').1 = []:=by
 intro n
 induction n with
 |zero =>
  intro out g p hn hp hf hR
  obtain ⟨f1,f2,f3,f4⟩:=zba hp hf
  have hR1:=(zc1 (t:=t) (R:=fun q=>x8 q = true ∧ R out g q) (fun p' q hf' h' h=>⟨(j8 h'.1 hf' h).1,off _ _ _ _ h'.1 hf' h'.2 h⟩) _ p (Nat.le_refl _) hf ⟨hp,hR⟩).2.1.2
  have hb:=uo (t:=t) (g:=g) f1
  have h : (zi (xz p t) g).1 = []:=List.length_eq_zero_iff.1 (by omega)
  have e:=ze_ f1 h
  rw [vn h,e,h]
  exact ⟨g,by simpa using hR1,by simp,f1,f2,f3,h⟩
 |succ n ih =>
  intro out g p hn hp hf hR
  obtain ⟨f1,f2,f3,f4⟩:=zba hp hf
  have hR1:=(zc1 (t:=t) (R:=fun q=>x8 q = true ∧ R out g q) (fun p' q hf' h' h=>⟨(j8 h'.1 hf' h).1,off _ _ _ _ h'.1 hf' h'.2 h⟩) _ p (Nat.le_refl _) hf ⟨hp,hR⟩).2.1.2
  have hb:=uo (t:=t) (g:=g) f1
  by_cases h : (zi (xz p t) g).1 = []
  ·have e:=ze_ f1 h
   rw [vn h,e,h]
   exact ⟨g,by simpa using hR1,by simp,f1,f2,f3,h⟩
  ·have hl:=List.length_pos_iff.2 h
   obtain ⟨a1,a2,_⟩:=k_ (g:=g) f1
   rw [zjm hp hf h]
   obtain ⟨g',r1,r2,r3⟩:=ih (out ++ (zi (xz p t) g).1) (g - ((zi (xz p t) g).1.length : Nat)) (zi (xz p t) g).2 (by omega) a1 (by rw [a2]; exact f2) (snd _ _ _ f1 f2 hR1)
   refine ⟨g',by rw [← List.append_assoc]; exact r1, ?_,r3⟩
   rw [r2,List.length_append]; omega
end Go.Proofs.YtgfmjmfphmjdkaaGreatDoor
namespace Go.Proofs.YtgfmjmfphmjdkaaGreatDoor
set_option maxHeartbeats 4000000
open Go Go.RowKit
set_option maxRecDepth 200000
def qx (q : Pu) : List UInt8:=(qo q.2.1.2.1).drop q.2.1.2.2.1.toNat
theorem zgb {p q : Pu} {t : Tm} (hp : x8 p = true) (hf : qz p.1 t) (h : xe p t = some q) : qx q = qx p ++ qo [(zu p.1 t).1]:=by
 obtain ⟨_,o2,_⟩:=j8 hp hf h
 have f:=zv (zm.1 hp).2.1
 unfold qx
 rw [o2]
 simp only
 rw [wr,List.drop_append_of_le_length]
 rw [jf]; omega
theorem zgd {p : Pu} {t : Tm} {g : Int} (hp : x8 p = true) (hf : qz p.1 t) : (∃ m : List Cmd,m.all z9 = true ∧ (xo p t g).1 ++ qx (xo p t g).2 = qx p ++ qo m) ∧ ((xo p t g).1.length : Int) ≤ max g 0 ∧ ((xo p t g).1 ≠ [] → p.2.1.2.2.2.1 = 0 ∧ p.2.1.2.2.2.2 = false) ∧ x8 (xo p t g).2 = true:=by
 obtain ⟨g',⟨⟨m,m1,m2⟩,r2,r3,r4,r5⟩,e,ok,_⟩:=y9 (t:=t) (R:=fun out g1 q=>(∃ m : List Cmd,m.all z9 = true ∧ out ++ qx q = qx p ++ qo m) ∧ (out ≠ [] → p.2.1.2.2.2.1 = 0 ∧ p.2.1.2.2.2.2 = false) ∧ (out = [] → q.2.1.2.2.2.1 = p.2.1.2.2.2.1) ∧ q.2.1.2.2.2.2 = p.2.1.2.2.2.2 ∧ (out.length : Int) + max g1 0 ≤ max g 0)
  (fun out g1 q q' hq hf' ⟨⟨m,m1,m2⟩,r2,r3,r4,r5⟩ h=>by
   obtain ⟨_,o2,_,_,o5,_⟩:=j8 hq hf' h
   refine ⟨⟨m ++ [(zu q.1 t).1],by rw [List.all_append,m1]; simp [o5], ?_⟩,r2,fun z=>by rw [o2]; exact r3 z,by rw [o2]; exact r4,r5⟩
   rw [zgb hq hf' h,← List.append_assoc,m2,wr,List.append_assoc])
  (fun out g1 q hq hf' ⟨⟨m,m1,m2⟩,r2,r3,r4,r5⟩=>by
   obtain ⟨a1,a2,a3,a4,a5,a6,_⟩:=k_ (g:=g1) hq
   refine ⟨⟨m,m1, ?_⟩,fun z => ?_,fun z => ?_,by rw [a3]; exact r4, ?_⟩
   ·rw [List.append_assoc,show (zi q g1).1 ++ qx (zi q g1).2 = qx q from a4,m2]
   ·by_cases ho : out = []
    ·have:=a6 (by rw [ho] at z; simpa using z)
     rw [← r3 ho,← r4]; exact this
    ·exact r2 ho
   ·have z1 : out = []:=(List.append_eq_nil_iff.1 z).1
    have z2 : (zi q g1).1 = []:=(List.append_eq_nil_iff.1 z).2
    rw [ze_ hq z2]; exact r3 z1
   ·rw [List.length_append]; omega)
  _ [] g p (Nat.le_refl _) hp hf ⟨⟨[],rfl,by simp [qo]⟩,fun z=>absurd rfl z,fun _=>rfl,rfl,by simp⟩
 rw [List.nil_append] at m2 r2 r3 r5
 exact ⟨⟨m,m1,m2⟩,by omega,r2,ok⟩
theorem zoq : ∀ (l m : List Cmd) (s : Nat) (p g : Int),(xt l s p g).1 <+: (xt (l ++ m) s p g).1
 |[],m,s,p,g=>by rw [jz (.inl rfl)]; exact List.nil_prefix
 |c :: l,m,s,p,g=>by
  rw [List.cons_append]
  unfold xt
  by_cases h : p ≠ 0 ∨ g ≤ 0
  ·rw [if_pos h]; exact List.nil_prefix
  ·rw [if_neg h,if_neg h]
   by_cases h2 : g < ((jb c - s : Nat) : Int)
   ·rw [if_pos h2,if_pos h2]; exact List.prefix_rfl
   ·rw [if_neg h2,if_neg h2]
    exact (List.prefix_append_right_inj _).2 (zoq l m 0 (zcl c) (g - ((jb c - s : Nat) : Int)))
theorem zzn {p : Pu} {t : Tm} {g : Int} (hp : x8 p = true) (hf : qz p.1 t) : (zi p g).1 <+: (xo p t g).1:=by
 obtain ⟨_,⟨_,m,hm⟩,_⟩:=zc1 (t:=t) (R:=fun q=>x8 q = true ∧ ∃ m,q.2.1 = (48,p.2.1.2.1 ++ m,p.2.1.2.2.1,p.2.1.2.2.2.1,p.2.1.2.2.2.2)) (fun p' q hf' ⟨h1,m,hm⟩ h=>by
  obtain ⟨o1,o2,_⟩:=j8 h1 hf' h
  exact ⟨o1,m ++ [(zu p'.1 t).1],by rw [o2,hm]; simp⟩) _ p (Nat.le_refl _) hf ⟨hp,[],by
   rw [List.append_nil,← (zm.1 hp).2.2.1]⟩
 have k : (zi p g).1 <+: (zi (xz p t) g).1:=by
  by_cases ho : p.2.1.2.2.2.2 = true
  ·rw [show zi p g = ([],p) from if_pos ho]; exact List.nil_prefix
  ·rw [vu ho,vu (by rw [hm]; exact ho),hm]
   exact zoq _ _ _ _ _
 by_cases h : (zi (xz p t) g).1 = []
 ·rw [vn h]; exact k
 ·rw [zjm hp hf h]
  exact k.trans (List.prefix_append _ _)
def Fed (u : Tm) (out : List UInt8) (q : Pu) : Prop := ∃ cs : List Cmd,cs.all z9 = true ∧ out ++ qx q = qo cs ∧ zkw q.1 (zae u cs)
theorem zvc {u : Tm} {out : List UInt8} {p q : Pu} {t : Tm} (hp : x8 p = true) (hf : qz p.1 t) (hF : Fed u out p) (h : xe p t = some q) : Fed u out q:=by
 obtain ⟨cs,h1,h2,h3⟩:=hF
 obtain ⟨_,_,o3,_,o5,_⟩:=j8 hp hf h
 refine ⟨cs ++ [(zu p.1 t).1],by rw [List.all_append,h1]; simp [o5], ?_, ?_⟩
 ·rw [zgb hp hf h,← List.append_assoc,h2,wr]
 ·rw [o3,zfb]
  exact zxe h3 o5
theorem zz7 {u : Tm} {out : List UInt8} {p : Pu} {g : Int} (hp : x8 p = true) (hF : Fed u out p) : Fed u (out ++ (zi p g).1) (zi p g).2:=by
 obtain ⟨cs,h1,h2,h3⟩:=hF
 obtain ⟨a1,a2,a3,a4,_⟩:=k_ (g:=g) hp
 refine ⟨cs,h1, ?_,by rw [a2]; exact h3⟩
 rw [List.append_assoc,show (zi p g).1 ++ qx (zi p g).2 = qx p from a4,h2]
noncomputable def zlh (q : Pu) (t : Tm) : Nat:=q.2.1.2.2.2.1.toNat + wv q.2.1.2.1 + zy3 q.1 t
theorem zlb : ∀ (l : List Cmd) (s : Nat) (p g : Int),0 ≤ p → (xt l s p g).2.2.2.toNat + wv (xt l s p g).2.1 ≤ p.toNat + wv l
 |[],s,p,g,_=>by rw [jz (.inl rfl)]; exact Nat.le_refl _
 |c :: l,s,p,g,hp=>by
  have e : wv (c :: l) = zcl c + wv l:=by simp [wv]
  unfold xt
  by_cases h : p ≠ 0 ∨ g ≤ 0
  ·rw [if_pos h]; exact Nat.le_refl _
  ·rw [if_neg h]
   by_cases h2 : g < ((jb c - s : Nat) : Int)
   ·rw [if_pos h2]; exact Nat.le_refl _
   ·rw [if_neg h2]
    have:=zlb l 0 (zcl c) (g - ((jb c - s : Nat) : Int)) (by omega)
    simp only at this ⊢
    omega
theorem ztm {p : Pu} {t : Tm} {g : Int} (hp : x8 p = true) (hf : qz p.1 t) : zlh (xo p t g).2 t ≤ zlh p t:=by
 obtain ⟨g',r,_⟩:=y9 (t:=t) (R:=fun _ _ q=>zlh q t ≤ zlh p t) (fun out g1 q q' hq hf' hR h=>by
   obtain ⟨_,o2,_⟩:=j8 hq hf' h
   obtain ⟨_,_,_,m,_⟩:=je hf' h
   unfold zlh at hR ⊢
   have e : q'.2.1.2.2.2.1 = q.2.1.2.2.2.1:=by rw [o2]
   rw [e]; omega) (fun out g1 q hq hf' hR=>by
   have f:=zv (zm.1 hq).2.1
   by_cases ho : q.2.1.2.2.2.2 = true
   ·rw [show zi q g1 = ([],q) from if_pos ho]; exact hR
   ·have:=zlb q.2.1.2.1 q.2.1.2.2.1.toNat q.2.1.2.2.2.1 g1 f.1.2.2.1
    rw [vu ho]
    unfold zlh at hR ⊢
    simp only
    omega) _ [] g p (Nat.le_refl _) hp hf (Nat.le_refl _)
 exact r
theorem zy2 {p : Pu} {t : Tm} {g : Int} (hp : x8 p = true) (hf : qz p.1 t) : (xo p t g).1.length ≤ zah p t:=by
 obtain ⟨g',r,_⟩:=y9 (t:=t) (R:=fun out _ q=>out.length + zah q t ≤ zah p t) (fun out g1 q q' hq hf' hR h=>by
   obtain ⟨_,o2,_⟩:=j8 hq hf' h
   obtain ⟨_,_,m,_⟩:=je hf' h
   have f:=zv (zm.1 hq).2.1
   have e : q'.2.1.2.2.1 = q.2.1.2.2.1:=by rw [o2]
   have e2 : qr q'.2.1.2.1 = qr q.2.1.2.1 + jb (zu q.1 t).1:=by rw [o2]; simp [qr]
   have e3:=f.2.2.1
   unfold zah at hR ⊢
   rw [e]
   generalize q.2.1.2.2.1 = s at *
   omega) (fun out g1 q hq hf' hR=>by
   have:=uo (t:=t) (g:=g1) hq
   rw [List.length_append]; omega) _ [] g p (Nat.le_refl _) hp hf (by simp)
 rw [List.nil_append] at r
 omega
theorem zym {p : Pu} {g : Int} (hp : x8 p = true) (h : (zi p g).1 = []) : p.2.1.2.2.2.2 = true ∨ p.2.1.2.1 = [] ∨ p.2.1.2.2.2.1 ≠ 0 ∨ g ≤ 0:=by
 obtain ⟨b,⟨room,l,s,pad,off⟩,sp⟩:=p
 obtain ⟨h1,h2,h3,h4,h5⟩:=zm.1 hp
 refine Classical.byContradiction fun z => ?_
 simp only [not_or] at z
 obtain ⟨z1,z2,z3,z4⟩:=z
 rw [vu z1] at h
 simp only at h h2 h3 h4 z2 z3 z4
 have z3 : pad = 0:=Classical.not_not.1 z3
 subst z3
 have o:=zab h2
 cases l with
 |nil=>exact z2 rfl
 |cons c l =>
  have hlt:=o.2.2 c l rfl
  have hlen : (jt c).1.length = jb c:=rfl
  by_cases hw : g < ((jb c - s.toNat : Nat) : Int)
  ·rw [za7 (by omega) hw] at h
   have:=congrArg List.length h
   simp only [List.length_take,List.length_drop,List.length_nil] at this
   omega
  ·rw [uq (by omega) (by omega)] at h
   have:=congrArg List.length h
   simp only [List.length_append,List.length_drop,List.length_nil] at this
   omega
end Go.Proofs.YtgfmjmfphmjdkaaGreatDoor
namespace Go.Proofs.YtgfmjmfphmjdkaaGreatDoor
set_option maxHeartbeats 4000000
open Go Go.RowKit
set_option maxRecDepth 200000
def um (pad : Int) : Int:=max 0 (pad - 1)
noncomputable def ky (p : Pu) : Pu:=if x8 p = true then (p.1,(p.2.1.1,p.2.1.2.1,p.2.1.2.2.1,um p.2.1.2.2.2.1,p.2.1.2.2.2.2),p.2.2) else p
theorem zdr {p : Pu} (hp : x8 p = true) : x8 (ky p) = true ∧ ky p = (p.1,(p.2.1.1,p.2.1.2.1,p.2.1.2.2.1,um p.2.1.2.2.2.1,p.2.1.2.2.2.2),p.2.2):=by
 have e : ky p = (p.1,(p.2.1.1,p.2.1.2.1,p.2.1.2.2.1,um p.2.1.2.2.2.1,p.2.1.2.2.2.2),p.2.2):=if_pos hp
 refine ⟨?_,e⟩
 rw [e]
 obtain ⟨h1,h2,h3,h4,h5⟩:=zm.1 hp
 obtain ⟨f1,f2,f3,f4⟩:=zv h2
 refine zm.2 ⟨h1, ?_,h3,h4,h5⟩
 have o:=zab h2
 obtain ⟨s,hs⟩:=Int.eq_ofNat_of_zero_le f1.2.2.2.2
 show okL p.2.1.1 p.2.1.2.1 p.2.1.2.2.1 (um p.2.1.2.2.2.1) = true
 rw [hs] at o f4 ⊢
 exact ztv o ⟨f1.1,f1.2.1,by unfold um; omega,by unfold um; omega⟩ (by omega)
def z2q (p : Pu) (t : Tm) : Prop:=p.2.1.2.2.2.1 = 0 ∧ p.2.1.2.1 = [] ∧ xe p t = none
noncomputable instance (p : Pu) (t : Tm) : Decidable (z2q p t):=Classical.propDecidable _
noncomputable def zsi (p : Pu) (t : Tm) : Nat:=zlh p t + (if z2q p t then 0 else 1)
theorem uc {p : Pu} {t : Tm} : xe p t = none ↔ ¬ ((zu p.1 t).2 = 0 ∧ (qr p.2.1.2.1 : Int) - p.2.1.2.2.1 + jb (zu p.1 t).1 ≤ p.2.1.1):=by
 unfold xe
 split <;> simp_all
theorem zl4 {p : Pu} {t : Tm} {g : Int} (hp : x8 p = true) (hd : z2q p t) : xo p t g = ([],p):=by
 have hf:=zbb hd.2.2
 have e : (zi p g).1 = []:=by
  unfold zi
  split
  ·rfl
  ·rw [hd.2.1,jz (.inl rfl)]
 rw [vn (by rw [hf]; exact e),hf]
 exact Prod.ext e (ze_ hp e)
theorem z4u {p : Pu} {t u : Tm} {out : List UInt8} (hu : yt u = true) (hp : x8 p = true) (hf : qz p.1 t) (hF : Fed u out p) (hl : p.2.1.2.1 = []) (hn : xe p t = none) : km u out = (t,[],0):=by
 obtain ⟨cs,h1,h2,h3⟩:=hF
 have e : qx p = []:=by unfold qx; rw [hl]; simp [qo]
 rw [e,List.append_nil] at h2
 obtain ⟨k1,k2,k3,k4,k5⟩:=zm.1 hp
 obtain ⟨f1,_⟩:=zv k2
 have h0 : (zu p.1 t).2 ≠ 0:=fun z=>by
  refine uc.1 hn ⟨z, ?_⟩
  rw [hl,k3]
  have:=zau (zu p.1 t).1
  simp only [qr,List.map_nil,List.sum_nil]
  omega
 rcases za8 hf with ⟨a1,a2,_⟩ | ⟨z,_⟩
 ·have:=zqs hf a2 a1 h3
  have k:=zc2 (s:=[]) hu h1 zbp
  rw [List.append_nil] at k
  rw [h2,k,this]
 ·exact absurd z h0
theorem zrs {p : Pu} {t u : Tm} {out : List UInt8} (hu : yt u = true) (hp : x8 p = true) (hf : qz p.1 t) (ho : p.2.1.2.2.2.2 = false) (hF : Fed u out p) (hn : p.1.2.2.1.length ≤ 2000) :
  x8 (xo p t 1000000).2 = true ∧ qz (xo p t 1000000).2.1 t ∧ (xo p t 1000000).2.2.1.2.2.2.2 = false ∧ Fed u (out ++ (xo p t 1000000).1) (xo p t 1000000).2 ∧ (xo p t 1000000).2.1.2.2.1.length = p.1.2.2.1.length ∧
  ((xo p t 1000000).1 = [] → (xo p t 1000000).2.2.1.2.2.2.1 = 0 → km u (out ++ (xo p t 1000000).1) = (t,[],0) ∧ z2q (xo p t 1000000).2 t) ∧
  (((xo p t 1000000).1 ≠ [] ∨ (xo p t 1000000).2.2.1.2.2.2.1 ≠ 0) → zsi (ky (xo p t 1000000).2) t + 1 ≤ zsi p t):=by
 obtain ⟨g',⟨r1,r2,r3⟩,e,ok,hf',hno,hsn⟩:=y9 (t:=t) (R:=fun out' _ q=>Fed u (out ++ out') q ∧ q.2.1.2.2.2.2 = false ∧ q.1.2.2.1.length = p.1.2.2.1.length)
  (fun out' g1 q q' hq hf' ⟨a,b,c⟩ h=>by
   obtain ⟨_,o2,_⟩:=j8 hq hf' h
   obtain ⟨_,_,_,_,_,_,m⟩:=je hf' h
   exact ⟨zvc hq hf' a h,by rw [o2]; exact b,by rw [m]; exact c⟩)
  (fun out' g1 q hq hf' ⟨a,b,c⟩=>by
   obtain ⟨_,a2,a3,_⟩:=k_ (g:=g1) hq
   exact ⟨by rw [← List.append_assoc]; exact zz7 hq a,by rw [a3]; exact b,by rw [a2]; exact c⟩)
  _ [] 1000000 p (Nat.le_refl _) hp hf ⟨by rw [List.append_nil]; exact hF,ho,rfl⟩
 have hby:=zy2 (g:=1000000) hp hf
 have hpd:=ztm (g:=1000000) hp hf
 have hdone : z2q p t → xo p t 1000000 = ([],p):=fun h=>zl4 hp h
 rw [List.nil_append] at r1
 obtain ⟨k1,k2,k3,k4,k5⟩:=zm.1 hp
 have hc : zah p t ≤ 12 * 2000 + 8 + 100:=by
  have m:=zgp p.1 t
  obtain ⟨f1,f2,f3,f4⟩:=zv k2
  unfold zah
  omega
 have hg : 0 < g':=by omega
 have why:=zym ok hsn
 generalize xo p t 1000000 = r at *
 obtain ⟨s,q⟩:=r
 simp only at *
 refine ⟨ok,hf',r2,r1,r3,fun z1 z2 => ?_,fun z => ?_⟩
 ·have hl : q.2.1.2.1 = []:=by
   rcases why with w | w | w | w
   ·rw [r2] at w; cases w
   ·exact w
   ·exact absurd z2 w
   ·omega
  exact ⟨z4u hu ok hf' r1 hl hno,z2,hl,hno⟩
 ·obtain ⟨t1,t2⟩:=zdr ok
  have nd : ¬ z2q p t:=fun h=>by
   have e:=hdone h
   have e1:=congrArg Prod.fst e
   have e2:=congrArg Prod.snd e
   simp only at e1 e2
   rcases z with z | z
   ·exact z e1
   ·rw [e2] at z; exact z h.1
  have e1 : zsi p t = zlh p t + 1:=by unfold zsi; rw [if_neg nd]
  rw [e1]
  by_cases hq : q.2.1.2.2.2.1 = 0
  ·have hl : q.2.1.2.1 = []:=by
    rcases why with w | w | w | w
    ·rw [r2] at w; cases w
    ·exact w
    ·exact absurd hq w
    ·omega
   have d : z2q (ky q) t:=by
    have w:=uc.1 hno
    rw [t2]
    exact ⟨by show um q.2.1.2.2.2.1 = 0; rw [hq]; rfl,hl,uc.2 w⟩
   have e2 : zsi (ky q) t = zlh (ky q) t:=by unfold zsi; rw [if_pos d]; rfl
   have e3 : zlh (ky q) t = zlh q t:=by
    rw [t2]; unfold zlh um
    simp only [hq]; rfl
   omega
  ·have f:=(zv (zm.1 ok).2.1).1
   have e2 : zsi (ky q) t ≤ zlh (ky q) t + 1:=by unfold zsi; split <;> omega
   have e3 : zlh (ky q) t + 1 = zlh q t:=by
    rw [t2]; unfold zlh um
    simp only
    omega
   omega
theorem zto {p : Pu} {t : Tm} (hp : x8 p = true) (hs : p.2.1.2.2.1 = 0) (h0 : p.2.1.2.2.2.1 = 0) : zsi p t ≤ p.1.2.1.toNat + 99:=by
 obtain ⟨k1,k2,k3,k4,k5⟩:=zm.1 hp
 obtain ⟨f1,f2,f3,f4⟩:=zv k2
 have m:=zgp p.1 t
 have hl : ∀ l : List Cmd,l.all z9 = true → l.length ≤ qr l:=fun l=>by
  induction l with
  |nil=>intro _; simp [qr]
  |cons c l ih =>
   intro h
   simp only [List.all_cons,Bool.and_eq_true] at h
   have:=zfi h.1
   have:=ih h.2
   have e:=uh c l
   simp only [List.length_cons]; omega
 have h1:=hl _ f2
 have h2:=zow p.2.1.2.1
 have : (if z2q p t then 0 else 1) ≤ 1:=by split <;> omega
 unfold zsi zlh
 rw [h0]
 simp only [Int.toNat_zero]
 omega
end Go.Proofs.YtgfmjmfphmjdkaaGreatDoor
namespace Go.Proofs.YtgfmjmfphmjdkaaGreatDoor
set_option maxHeartbeats 4000000
open Go Go.RowKit
set_option maxRecDepth 200000
def Cov : Tm → List Cmd → List (Int × Int) → Prop
 |_,[],[]=>True
 |t,c :: l,s :: sp=>vp t.2.2.1 s (doT t c).1.2.2.1 ∧ Cov (doT t c).1 l sp
 |_,[],_ :: _=>False
 |_,_ :: _,[]=>False
theorem zke {c : Cmd} {s : Int × Int} : ∀ (t : Tm) (l : List Cmd) (sp : List (Int × Int)),Cov t l sp → vp (zae t l).2.2.1 s (doT (zae t l) c).1.2.2.1 → Cov t (l ++ [c]) (sp ++ [s])
 |_,[],[],_,h=>⟨h,trivial⟩
 |t,d :: l,r :: sp,h,k=>⟨h.1,zke (doT t d).1 l sp h.2 k⟩
 |_,[],_ :: _,h,_=>h.elim
 |_,_ :: _,[],h,_=>h.elim
theorem zp1 : ∀ (k : Nat) (t : Tm) (l : List Cmd) (sp : List (Int × Int)),Cov t l sp → Cov (zae t (l.take k)) (l.drop k) (sp.drop k)
 |0,_,_,_,h=>h
 |_ + 1,_,[],[],_=>trivial
 |k + 1,t,d :: l,r :: sp,h=>zp1 k (doT t d).1 l sp h.2
 |_ + 1,_,[],_ :: _,h=>h.elim
 |_ + 1,_,_ :: _,[],h=>h.elim
noncomputable def xq (b : Bel) (sp : List (Int × Int)) : Bel:=sp.foldl (fun b s=>xb b s.1 s.2 true) b
theorem zly {b : Bel} {s : Int × Int} (hb : ub b = true) (hs : ju b.2.2.1.length s = true) : ub (xb b s.1 s.2 true) = true ∧ (xb b s.1 s.2 true).1 = b.1 ∧ (xb b s.1 s.2 true).2.1 = b.2.1 ∧ (xb b s.1 s.2 true).2.2.1.length = b.2.2.1.length ∧ (xb b s.1 s.2 true).2.2.2.2.2.2 = false ∧ ∀ i : Nat,gAt (xb b s.1 s.2 true).2.2.1 i = if s.1 ≤ (i : Int) ∧ (i : Int) < s.2 then zcx else gAt b.2.2.1 i:=by
 simp only [ju,Bool.and_eq_true,decide_eq_true_eq] at hs
 have k:=zlx (f:=s.1) (t:=s.2) (cur:=true) hb
 have e : xb b s.1 s.2 true = (b.1,b.2.1,zj0 b.2.2.1 s.1.toNat s.2.toNat,0,0,false,false):=by
  unfold xb
  rw [if_neg (fun z=>z ⟨hb,by omega,by omega,by omega⟩),if_pos rfl]
 rw [e] at k ⊢
 refine ⟨k,rfl,rfl,zjz (by omega) (by omega),rfl,fun i => ?_⟩
 show gAt (zj0 b.2.2.1 s.1.toNat s.2.toNat) i = _
 rw [zno (by omega) (by omega)]
 by_cases q : s.1.toNat ≤ i ∧ i < s.2.toNat
 ·rw [if_pos q,if_pos (by omega)]
 ·rw [if_neg q,if_neg (by omega)]
theorem wl : ∀ (sp : List (Int × Int)) (b : Bel),ub b = true → sp.all (ju b.2.2.1.length) = true → ub (xq b sp) = true ∧ (xq b sp).1 = b.1 ∧ (xq b sp).2.1 = b.2.1 ∧ (xq b sp).2.2.1.length = b.2.2.1.length ∧ (b.2.2.2.2.2.2 = false → (xq b sp).2.2.2.2.2.2 = false) ∧ ∀ i : Nat,(gAt (xq b sp).2.2.1 i).2 = true → gAt (xq b sp).2.2.1 i = gAt b.2.2.1 i
 |[],b,h,_=>⟨h,rfl,rfl,rfl,fun z=>z,fun _ _=>rfl⟩
 |s :: sp,b,h,hs=>by
  simp only [List.all_cons,Bool.and_eq_true] at hs
  obtain ⟨f1,f2,f3,f4,f5,f6⟩:=zly h hs.1
  obtain ⟨g1,g2,g3,g4,g5,g6⟩:=wl sp (xb b s.1 s.2 true) f1 (by rw [f4]; exact hs.2)
  refine ⟨g1,g2.trans f2,g3.trans f3,g4.trans f4,fun _=>g5 f5,fun i hi => ?_⟩
  have e:=g6 i hi
  have e' : gAt (xq b (s :: sp)).2.2.1 i = gAt (xb b s.1 s.2 true).2.2.1 i:=e
  rw [e'] at hi ⊢
  rw [f6] at hi ⊢
  split at hi
  ·cases hi
  ·rename_i q; rw [if_neg q]
theorem zkt : ∀ (l : List Cmd) (sp : List (Int × Int)) (b : Bel) (t : Tm),yt t = true → l.all z9 = true → sp.all (ju b.2.2.1.length) = true → Cov t l sp → zkw b (zae t l) → zkw (xq b sp) t
 |[],[],b,t,_,_,_,_,ha=>ha
 |c :: l,s :: sp,b,t,ht,hc,hs,hv,ha=>by
  have hs':=hs
  simp only [List.all_cons,Bool.and_eq_true] at hc hs
  have ht' : yt (doT t c).1 = true:=by rw [zc5 ht hc.1]; exact zhe ht hc.1
  obtain ⟨f1,f2,f3,f4,f5,f6⟩:=zly ha.1 hs.1
  have h1 : zkw (xb b s.1 s.2 true) (zae (doT t c).1 l):=zre ha
  have h2:=zkt l sp (xb b s.1 s.2 true) (doT t c).1 ht' hc.2 (by rw [f4]; exact hs.2) hv.2 h1
  have h2' : zkw (xq b (s :: sp)) (doT t c).1:=h2
  obtain ⟨g1,g2,g3,g4,g5,g6⟩:=wl sp (xb b s.1 s.2 true) f1 (by rw [f4]; exact hs.2)
  have g5' : (xq b (s :: sp)).2.2.2.2.2.2 = false:=g5 f5
  have g6' : ∀ i : Nat,(gAt (xq b (s :: sp)).2.2.1 i).2 = true → gAt (xq b (s :: sp)).2.2.1 i = gAt (xb b s.1 s.2 true).2.2.1 i:=g6
  obtain ⟨k1,k2,k3,k4,k5,k6⟩:=h2'
  obtain ⟨v1,v2,v3,v4,v5⟩:=hv.1
  have sd : (doT t c).1.1 = t.1 ∧ (doT t c).1.2.1 = t.2.1:=by rw [zc5 ht hc.1]; exact zay _ _ _ _ _ _ _
  refine ⟨k1,ht,k3.trans sd.1,k4.trans sd.2,fun i hi h => ?_,fun z=>by rw [g5'] at z; cases z⟩
  rw [k5 i hi h]
  have e:=g6' i h
  rw [e] at h
  rw [f6] at h
  split at h
  ·cases h
  ·rename_i q
   rcases Nat.lt_or_ge i t.2.2.1.length with hl | hl
   ·exact v5 i hl (by omega)
   ·have o1 : cAt t.2.2.1 i = (0,0):=by unfold cAt; rw [List.getElem?_eq_none hl]; rfl
    have o2 : cAt (doT t c).1.2.2.1 i = (0,0):=by unfold cAt; rw [List.getElem?_eq_none (by omega)]; rfl
    rw [o1,o2]
 |[],_ :: _,_,_,_,_,_,hv,_=>hv.elim
 |_ :: _,[],_,_,_,_,_,hv,_=>hv.elim
theorem zic : ∀ (l : List Cmd) (t : Tm),yt t = true → l.all z9 = true → (zae t l).1 = t.1 ∧ (zae t l).2.1 = t.2.1
 |[],_,_,_=>⟨rfl,rfl⟩
 |c :: l,t,h,hc=>by
  simp only [List.all_cons,Bool.and_eq_true] at hc
  have sd : (doT t c).1.1 = t.1 ∧ (doT t c).1.2.1 = t.2.1:=by rw [zc5 h hc.1]; exact zay _ _ _ _ _ _ _
  have:=zic l (doT t c).1 (by rw [zc5 h hc.1]; exact zhe h hc.1) hc.2
  exact ⟨this.1.trans sd.1,this.2.trans sd.2⟩
structure Snd (p : Pu) (t : Tm) : Prop where
 ok : x8 p = true
 tok : yt t = true
 agr : zkw p.1 (zae t p.2.1.2.1)
 cov : p.2.1.2.2.1 = 0 → Cov t p.2.1.2.1 p.2.2
 cov1 : ∀ c l s sp,p.2.1.2.1 = c :: l → p.2.2 = s :: sp → Cov (doT t c).1 l sp
def ku (p : Pu) : List UInt8:=(qo p.2.1.2.1).take p.2.1.2.2.1.toNat
theorem zfs (p : Pu) : ku p ++ qx p = qo p.2.1.2.1:=List.take_append_drop _ _
theorem z07 {p : Pu} (hp : x8 p = true) : v9 (ku p) = ([],ku p,0):=by
 obtain ⟨h1,h2,h3,h4,h5⟩:=zm.1 hp
 have o:=zab h2
 obtain ⟨f1,f2,_⟩:=zv h2
 unfold ku
 cases e : p.2.1.2.1 with
 |nil=>simp [qo]; exact zbp
 |cons c l =>
  rw [e] at o f2
  simp only [List.all_cons,Bool.and_eq_true] at f2
  have hlt:=o.2.2 c l rfl
  rw [w9,List.take_append_of_le_length (by show _ ≤ jb c; omega)]
  exact zxa f2.1 hlt
end Go.Proofs.YtgfmjmfphmjdkaaGreatDoor
namespace Go.Proofs.YtgfmjmfphmjdkaaGreatDoor
set_option maxHeartbeats 4000000
open Go Go.RowKit
set_option maxRecDepth 200000
theorem zm2 {p : Pu} (hp : x8 p = true) : p.2.2.length = p.2.1.2.1.length:=(zm.1 hp).2.2.2.1
theorem zs8 {p q : Pu} {t want : Tm} (hS : Snd p t) (hf : qz p.1 want) (h : xe p want = some q) : Snd q t ∧ ku q = ku p:=by
 obtain ⟨o1,o2,o3,o4,o5,o6⟩:=j8 hS.ok hf h
 have hl:=zm2 hS.ok
 have hT : vp (zae t p.2.1.2.1).2.2.1 (jh p.1 (zu p.1 want).1) (doT (zae t p.2.1.2.1) (zu p.1 want).1).1.2.2.1:=zx2 hS.agr o5
 have hsent:=(zv (zm.1 hS.ok).2.1).2.2.1
 refine ⟨⟨o1,hS.tok, ?_,fun z => ?_,fun c l s sp e1 e2 => ?_⟩, ?_⟩
 ·rw [o3,o2]
  show zkw _ (zae t (p.2.1.2.1 ++ [(zu p.1 want).1]))
  rw [zfb]
  exact zxe hS.agr o5
 ·rw [o2] at z ⊢
  rw [o4]
  exact zke t _ _ (hS.cov z) hT
 ·rw [o2] at e1
  rw [o4] at e2
  replace e1 : p.2.1.2.1 ++ [(zu p.1 want).1] = c :: l:=e1
  cases hL : p.2.1.2.1 with
  |nil =>
   rw [hL] at e1 hl
   have hsp : p.2.2 = []:=List.length_eq_zero_iff.1 (by simpa using hl)
   rw [hsp] at e2
   injection e1 with _ e1
   injection e2 with _ e2
   subst e1 e2
   exact trivial
  |cons d r =>
   cases hP : p.2.2 with
   |nil=>rw [hL,hP] at hl; simp at hl
   |cons s0 sp0 =>
    rw [hL] at e1
    rw [hP] at e2
    injection e1 with e1 e3
    injection e2 with e2 e4
    subst e1 e3 e2 e4
    rw [hL] at hT
    exact zke _ _ _ (hS.cov1 _ _ _ _ hL hP) hT
 ·unfold ku
  rw [o2]
  show (qo (p.2.1.2.1 ++ [(zu p.1 want).1])).take p.2.1.2.2.1.toNat = _
  rw [wr,List.take_append_of_le_length (by rw [jf]; omega)]
theorem zop {p : Pu} {t : Tm} {g : Int} (hS : Snd p t) : ∃ cs : List Cmd,cs.all z9 = true ∧ ku p ++ (zi p g).1 = qo cs ++ ku (zi p g).2 ∧ Snd (zi p g).2 (zae t cs):=by
 obtain ⟨a1,a2,a3,a4,a5,a6,k,a7,a8,a9⟩:=k_ (g:=g) hS.ok
 have hl:=zm2 hS.ok
 obtain ⟨h1,h2,h3,h4,h5⟩:=zm.1 hS.ok
 obtain ⟨f1,f2,f3,f4⟩:=zv h2
 have o:=zab h2
 have f5:=(zv (zm.1 a1).2.1).2.2.1
 have f6:=(zv (zm.1 a1).2.1).1.2.2.2.2
 have hcs : (p.2.1.2.1.take k).all z9 = true:=by
  rw [List.all_eq_true] at f2 ⊢
  exact fun c hc=>f2 c (List.mem_of_mem_take hc)
 have full : ∀ m : Nat,k = m + 1 → Cov (zae t (p.2.1.2.1.take k)) (p.2.1.2.1.drop k) (p.2.2.drop k):=fun m hm=>by
  cases hL : p.2.1.2.1 with
  |nil=>rw [hL] at a8; simp at a8; omega
  |cons c l =>
   cases hP : p.2.2 with
   |nil=>rw [hL,hP] at hl; simp at hl
   |cons s sp =>
    rw [hm]
    exact zp1 m _ _ _ (hS.cov1 _ _ _ _ hL hP)
 refine ⟨p.2.1.2.1.take k,hcs, ?_,a1,zfa _ _ hS.tok hcs, ?_,fun z => ?_,fun c l s sp e1 e2 => ?_⟩
 ·have e1 : (ku p ++ (zi p g).1) ++ qx (zi p g).2 = (qo (p.2.1.2.1.take k) ++ ku (zi p g).2) ++ qx (zi p g).2:=by
   rw [List.append_assoc,show (zi p g).1 ++ qx (zi p g).2 = qx p from a4,zfs,List.append_assoc,zfs,a7,← wr,List.take_append_drop]
  exact List.append_cancel_right e1
 ·rw [a2,a7,← zfb,List.take_append_drop]
  exact hS.agr
 ·rw [a7,a9]
  rcases Nat.eq_zero_or_pos k with hk | hk
  ·have hs0 : p.2.1.2.2.1 = 0:=by
    have:=congrArg List.length a4
    simp only [List.length_append,List.length_drop,jf] at this
    rw [a7,hk,List.drop_zero] at this f5
    rw [z] at this
    omega
   rw [hk]
   exact hS.cov hs0
  ·exact full (k - 1) (by omega)
 ·rw [a7] at e1
  rw [a9] at e2
  rcases Nat.eq_zero_or_pos k with hk | hk
  ·rw [hk] at e1 e2 ⊢
   exact hS.cov1 c l s sp e1 e2
  ·have:=full (k - 1) (by omega)
   rw [e1,e2] at this
   exact this.2
theorem zyd {p : Pu} {t want : Tm} {g : Int} (hS : Snd p t) (hf : qz p.1 want) : ∃ cs : List Cmd,cs.all z9 = true ∧ ku p ++ (xo p want g).1 = qo cs ++ ku (xo p want g).2 ∧ Snd (xo p want g).2 (zae t cs):=by
 obtain ⟨g',r,_⟩:=y9 (t:=want) (R:=fun out _ q => ∃ cs : List Cmd,cs.all z9 = true ∧ ku p ++ out = qo cs ++ ku q ∧ Snd q (zae t cs))
  (fun out g1 q q' hq hf' ⟨cs,c1,c2,c3⟩ h=>by
   obtain ⟨s1,s2⟩:=zs8 c3 hf' h
   exact ⟨cs,c1,by rw [s2]; exact c2,s1⟩)
  (fun out g1 q hq hf' ⟨cs,c1,c2,c3⟩=>by
   obtain ⟨ds,d1,d2,d3⟩:=zop (g:=g1) c3
   refine ⟨cs ++ ds,by rw [List.all_append,c1,d1]; rfl, ?_,by rw [zfb]; exact d3⟩
   rw [← List.append_assoc,c2,List.append_assoc,d2,wr,List.append_assoc])
  _ [] g p (Nat.le_refl _) hS.ok hf ⟨[],rfl,by simp [qo],hS⟩
 rw [List.nil_append] at r
 exact r
def ze5 (sent : Int) : Nat:=if 0 < sent then 1 else 0
noncomputable def xm (p : Pu) : Pu:=if x8 p = true then (xq p.1 (p.2.2.drop (ze5 p.2.1.2.2.1)),(p.2.1.1,p.2.1.2.1.take (ze5 p.2.1.2.2.1),p.2.1.2.2.1,p.2.1.2.2.2.1,p.2.1.2.2.2.2),p.2.2.take (ze5 p.2.1.2.2.1)) else p
theorem zjf {p : Pu} {t : Tm} (hS : Snd p t) : Snd (xm p) t ∧ ku (xm p) = ku p:=by
 have hl:=zm2 hS.ok
 have e : xm p = (xq p.1 (p.2.2.drop (ze5 p.2.1.2.2.1)),(p.2.1.1,p.2.1.2.1.take (ze5 p.2.1.2.2.1),p.2.1.2.2.1,p.2.1.2.2.2.1,p.2.1.2.2.2.2),p.2.2.take (ze5 p.2.1.2.2.1)):=if_pos hS.ok
 rw [e]
 obtain ⟨h1,h2,h3,h4,h5⟩:=zm.1 hS.ok
 obtain ⟨f1,f2,f3,f4⟩:=zv h2
 have o:=zab h2
 by_cases hs : 0 < p.2.1.2.2.1
 ·rw [show ze5 p.2.1.2.2.1 = 1 from if_pos hs]
  cases hL : p.2.1.2.1 with
  |nil=>rw [hL] at o; have:=o.2.1 rfl; omega
  |cons c l =>
   cases hP : p.2.2 with
   |nil=>rw [hL,hP] at hl; simp at hl
   |cons s sp =>
    have hC:=hS.cov1 _ _ _ _ hL hP
    have hA:=hS.agr
    rw [hL] at hA h2 f2 f4
    rw [hP] at h5
    simp only [List.all_cons,Bool.and_eq_true] at f2 h5
    obtain ⟨g1,g2,g3,g4,g5,g6⟩:=wl sp p.1 h1 h5.2
    have k:=za9.1 h2
    have ht' : yt (doT t c).1 = true:=by rw [zc5 hS.tok f2.1]; exact zhe hS.tok f2.1
    refine ⟨⟨zm.2 ⟨g1,za9.2 ⟨k.1,by simp [f2.1],k.2.2.1, ?_⟩,h3,rfl, ?_⟩,hS.tok,zkt l sp p.1 (doT t c).1 ht' f2.2 h5.2 hC hA,fun z => ?_,fun c' l' s' sp' e1 e2 => ?_⟩, ?_⟩
    ·have:=uh c l
     have k4:=k.2.2.2
     show ((qr (c :: List.take 0 l) : Nat) : Int) - _ ≤ _
     rw [List.take_zero,uh]
     simp only [qr,List.map_nil,List.sum_nil] at *
     omega
    ·show (s :: List.take 0 sp).all (ju (xq p.1 sp).2.2.1.length) = true
     rw [g4]; simp [h5.1]
    ·exact absurd (show p.2.1.2.2.1 = 0 from z) (by omega)
    ·replace e1 : c :: List.take 0 l = c' :: l':=e1
     replace e2 : s :: List.take 0 sp = s' :: sp':=e2
     injection e1 with _ e1
     injection e2 with _ e2
     rw [List.take_zero] at e1 e2
     subst e1 e2
     exact trivial
    ·have hlt:=k.2.2.1
     unfold ku
     rw [hL]
     show (qo (c :: List.take 0 l)).take _ = _
     rw [List.take_zero,w9,w9,List.take_append_of_le_length (by show p.2.1.2.2.1.toNat ≤ jb c; omega),List.take_append_of_le_length (by show p.2.1.2.2.1.toNat ≤ jb c; omega)]
 ·have hs0 : p.2.1.2.2.1 = 0:=by omega
  rw [show ze5 p.2.1.2.2.1 = 0 from if_neg hs]
  simp only [List.drop_zero,List.take_zero]
  obtain ⟨g1,g2,g3,g4,g5,g6⟩:=wl p.2.2 p.1 h1 h5
  refine ⟨⟨zm.2 ⟨g1,zb1.2 ⟨f1,hs0⟩,h3,rfl,rfl⟩,hS.tok,zkt _ _ p.1 t hS.tok f2 h5 (hS.cov hs0) hS.agr,fun _=>trivial,fun c l s sp e1 e2=>by cases e1⟩, ?_⟩
  unfold ku
  simp only [hs0,Int.toNat_zero,List.take_zero]
noncomputable def zep (p : Pu) : Pu:=if x8 p = true then ((ye (xm p).1.1 (xm p).1.2.1).1,(xm p).2.1,(xm p).2.2) else p
noncomputable def vi (p : Pu) (w h : Int) : Pu × Int:=if x8 p = true then (if (ye w h).2 = 0 then (((ye w h).1,(xm p).2.1,List.replicate (xm p).2.1.2.1.length (0,0)),0) else (zxi,(ye w h).2)) else (zxi,1)
def zim (p : Pu) (off : Bool) : Pu:=(p.1,(p.2.1.1,p.2.1.2.1,p.2.1.2.2.1,p.2.1.2.2.2.1,off),p.2.2)
theorem ziu {p : Pu} (hp : x8 p = true) : (xm p).2.1.2.1.length ≤ 1 ∧ ((xm p).2.1.2.2.1 = 0 → (xm p).2.1.2.1 = []):=by
 have e : xm p = (xq p.1 (p.2.2.drop (ze5 p.2.1.2.2.1)),(p.2.1.1,p.2.1.2.1.take (ze5 p.2.1.2.2.1),p.2.1.2.2.1,p.2.1.2.2.2.1,p.2.1.2.2.2.2),p.2.2.take (ze5 p.2.1.2.2.1)):=if_pos hp
 rw [e]
 refine ⟨?_,fun z => ?_⟩
 ·show (p.2.1.2.1.take (ze5 p.2.1.2.2.1)).length ≤ 1
  rw [List.length_take]; unfold ze5; split <;> omega
 ·show p.2.1.2.1.take (ze5 p.2.1.2.2.1) = []
  rw [show p.2.1.2.2.1 = 0 from z]; rfl
theorem zs7 {p : Pu} {t : Tm} {b : Bel} {sp : List (Int × Int)} (hp : x8 p = true) (ht : yt t = true) (h1 : p.2.1.2.1.length ≤ 1) (h2 : p.2.1.2.2.1 = 0 → p.2.1.2.1 = []) (ha : zkw b (zae t p.2.1.2.1)) (hl : sp.length = p.2.1.2.1.length) (hs : sp.all (ju b.2.2.1.length) = true) : Snd (b,p.2.1,sp) t:=by
 obtain ⟨k1,k2,k3,k4,k5⟩:=zm.1 hp
 refine ⟨zm.2 ⟨ha.1,k2,k3,hl,hs⟩,ht,ha,fun z => ?_,fun c l s sp' e1 e2 => ?_⟩
 ·have e:=h2 z
  rw [e] at hl
  have e2 : sp = []:=List.length_eq_zero_iff.1 hl
  show Cov t p.2.1.2.1 sp
  rw [e,e2]; exact trivial
 ·replace e1 : p.2.1.2.1 = c :: l:=e1
  replace e2 : sp = s :: sp':=e2
  rw [e1] at h1 hl
  rw [e2] at hl
  simp only [List.length_cons] at h1 hl
  have e3 : l = []:=List.length_eq_zero_iff.1 (by omega)
  have e4 : sp' = []:=List.length_eq_zero_iff.1 (by omega)
  subst e3 e4
  exact trivial
theorem zyg {p : Pu} {t : Tm} (hS : Snd p t) : Snd (zep p) t ∧ ku (zep p) = ku p:=by
 obtain ⟨d1,d2⟩:=zjf hS
 obtain ⟨e1,e2⟩:=ziu hS.ok
 have e : zep p = ((ye (xm p).1.1 (xm p).1.2.1).1,(xm p).2.1,(xm p).2.2):=if_pos hS.ok
 rw [e]
 generalize xm p = q at *
 obtain ⟨h1,h2,h3,h4,h5⟩:=zm.1 d1.ok
 obtain ⟨f1,f2,_⟩:=zv h2
 have hr:=zfa _ _ d1.tok f2
 obtain ⟨_,_,a3,a4,_⟩:=d1.agr
 have n:=(znc hr).1
 rw [← a3,← a4] at n
 have len : (ye q.1.1 q.1.2.1).1.2.2.1.length = q.1.2.2.1.length:=by
  obtain ⟨w,h,x1,x2,x3,x4,x5,x6,x7,_⟩:=qn.1 h1
  obtain ⟨w',h',y1,y2,_,_,_,_,y7,_⟩:=qn.1 n.1
  have s1:=n.2.2.1
  have s2:=n.2.2.2.1
  have z1 : w = w':=by omega
  have z2 : h = h':=by omega
  rw [x7,y7,z1,z2]
 refine ⟨zs7 d1.ok d1.tok e1 e2 n h4 (by rw [len]; exact h5),d2⟩
theorem zk9 (t : Tm) (W H : Int) (hok : yt t = true) : (wb t W H).2 = (ye W H).2 ∧ ((wb t W H).2 = 0 → yt (wb t W H).1 = true ∧ (wb t W H).1.1 = W ∧ (wb t W H).1.2.1 = H):=by
 obtain ⟨w,h,l,x,y,b⟩:=t
 obtain ⟨h1,⟨h2,h3,h4,h5⟩,h6⟩:=qp.1 hok
 obtain ⟨f1,f2,f3,f4,f5⟩:=zrf w h l W H h1
 by_cases hs : xl W H = true
 ·have e : wb (w,h,l,x,y,b) W H = ((W,H,zfm w.toNat h.toNat l W.toNat H.toNat (min H.toNat h.toNat),inM x (W - 1),inM y (H - 1),false),0):=by rw [wb,if_pos hok,if_pos hs]
  have e2 : zmt w h l W H = ((W,H,zfm w.toNat h.toNat l W.toNat H.toNat (min H.toNat h.toNat)),0):=by rw [zmt,if_pos h1,if_pos hs]
  rw [e2] at f2
  have g1:=f2 rfl
  have hr : 2 ≤ W ∧ W ≤ 80 ∧ 1 ≤ H ∧ H ≤ 24:=by simpa [xl,and_assoc] using hs
  have r1:=zgt (n:=x) (most:=W - 1) (by omega)
  have r2:=zgt (n:=y) (most:=H - 1) (by omega)
  have k1 : okT W H (zfm w.toNat h.toNat l W.toNat H.toNat (min H.toNat h.toNat)) (inM x (W - 1)) (inM y (H - 1)) false = true:=qp.2 ⟨g1,⟨r1.1,by omega,r2.1,by omega⟩,fun h=>by cases h⟩
  rw [e,ye,if_pos hs]
  exact ⟨rfl,fun _=>⟨k1,rfl,rfl⟩⟩
 ·have e : wb (w,h,l,x,y,b) W H = (noT,4):=by rw [wb,if_pos hok,if_neg hs]
  rw [e,ye,if_neg hs]
  exact ⟨rfl,fun h=>(by cases h)⟩
theorem zyc {p : Pu} {t : Tm} {W H : Int} (hS : Snd p t) (h0 : (vi p W H).2 = 0) : (wb t W H).2 = 0 ∧ Snd (vi p W H).1 (wb t W H).1 ∧ ku (vi p W H).1 = ku p:=by
 obtain ⟨d1,d2⟩:=zjf hS
 obtain ⟨e1,e2⟩:=ziu hS.ok
 obtain ⟨s1,s2⟩:=zk9 t W H hS.tok
 have hn : (ye W H).2 = 0:=by
  unfold vi at h0
  rw [if_pos hS.ok] at h0
  by_cases z : (ye W H).2 = 0
  ·exact z
  ·rw [if_neg z] at h0; exact absurd h0 z
 have e : vi p W H = (((ye W H).1,(xm p).2.1,List.replicate (xm p).2.1.2.1.length (0,0)),0):=by unfold vi; rw [if_pos hS.ok,if_pos hn]
 rw [e]
 have z0 : (wb t W H).2 = 0:=by rw [s1,hn]
 obtain ⟨t1,t2,t3⟩:=s2 z0
 refine ⟨z0, ?_,d2⟩
 generalize xm p = q at *
 obtain ⟨h1,h2,h3,h4,h5⟩:=zm.1 d1.ok
 obtain ⟨f1,f2,_⟩:=zv h2
 have hr:=zfa _ _ t1 f2
 have sd:=zic _ _ t1 f2
 have n:=(znc hr).1
 rw [sd.1,sd.2,t2,t3] at n
 refine zs7 d1.ok t1 e1 e2 n (by simp) ?_
 rw [List.all_eq_true]
 intro s hs
 rw [List.eq_of_mem_replicate hs]
 simp [ju]
theorem zyb {p : Pu} {t : Tm} (hS : Snd p t) : Snd (ky p) t ∧ ku (ky p) = ku p:=by
 obtain ⟨t1,t2⟩:=zdr hS.ok
 rw [t2] at t1 ⊢
 exact ⟨⟨t1,hS.tok,hS.agr,hS.cov,hS.cov1⟩,rfl⟩
theorem zye {p : Pu} {t : Tm} {off : Bool} (hS : Snd p t) : Snd (zim p off) t ∧ ku (zim p off) = ku p:=by
 obtain ⟨h1,h2,h3,h4,h5⟩:=zm.1 hS.ok
 exact ⟨⟨zm.2 ⟨h1,h2,h3,h4,h5⟩,hS.tok,hS.agr,hS.cov,hS.cov1⟩,rfl⟩
theorem zyf {p p' : Pu} {t : Tm} {s : List UInt8} (ht : yt t = true) (h : ∃ cs : List Cmd,cs.all z9 = true ∧ ku p ++ s = qo cs ++ ku p' ∧ Snd p' (zae t cs)) : ∃ t',km t (ku p ++ s) = (t',ku p',0) ∧ Snd p' t' ∧ ∃ v,km t' (ku p' ++ qx p') = (v,[],0) ∧ zkw p'.1 v:=by
 obtain ⟨cs,c1,c2,c3⟩:=h
 refine ⟨zae t cs,by rw [c2]; exact zc2 ht c1 (z07 c3.ok),c3,zae (zae t cs) p'.2.1.2.1, ?_,c3.agr⟩
 have f2:=(zv (zm.1 c3.ok).2.1).2.1
 have:=zc2 (s:=[]) c3.tok f2 zbp
 rw [List.append_nil] at this
 rw [zfs]; exact this
end Go.Proofs.YtgfmjmfphmjdkaaGreatDoor
namespace Go.Proofs.YtgfmjmfphmjdkaaGreatDoor
set_option maxHeartbeats 4000000
open Go Go.RowKit
set_option maxRecDepth 100000
def zhz (p : Pu) : Bool:=zey p.1 && okL p.2.1.1 p.2.1.2.1 p.2.1.2.2.1 p.2.1.2.2.2.1 && decide (p.2.1.1 = 48) && decide (p.2.2.length = p.2.1.2.1.length) && p.2.2.all (ju p.1.2.2.1.length)
theorem zcp (p : Pu) : x8 p = zhz p:=by unfold x8 zhz ub zey; rw [zii]
def zff (p : Pu) (t : Tm) : Option Pu :=
 if (zgk p.1 t).2 = 0 ∧ (qr p.2.1.2.1 : Int) - p.2.1.2.2.1 + jb (zgk p.1 t).1 ≤ p.2.1.1 then
  some ((qal p.1 (zgk p.1 t).1).1,(p.2.1.1,p.2.1.2.1 ++ [(zgk p.1 t).1],p.2.1.2.2.1,p.2.1.2.2.2.1,p.2.1.2.2.2.2),p.2.2 ++ [zmy p.1 (zgk p.1 t).1])
 else none
theorem ztx (p : Pu) (t : Tm) : xe p t = zff p t:=by unfold xe zff; rw [z3u,qak,zx3]
def zpj (t : Tm) : Nat → Pu → Pu
 |0,p=>p
 |n + 1,p=>match zff p t with
  |none=>p
  |some q=>zpj t n q
theorem zva (t : Tm) : ∀ (n : Nat) (p : Pu),ze4 t n p = zpj t n p
 |0,_=>rfl
 |n + 1,p=>by
  unfold ze4 zpj
  rw [ztx]
  cases zff p t with
  |none=>rfl
  |some q=>exact zva t n q
def qct (b : Bel) (t : Tm) : Nat:=2 * zhv b t + (if zfj b (zms b t) (zmr b t) = true then 0 else 1)
def qar (p : Pu) (t : Tm) : Nat:=12 * zhv p.1 t + 8 * (if zfj p.1 (zms p.1 t) (zmr p.1 t) = true then 0 else 1) + (qr p.2.1.2.1 - p.2.1.2.2.1.toNat)
theorem qaq (p : Pu) (t : Tm) : zah p t = qar p t:=rfl
def zek (p : Pu) (t : Tm) : Pu:=zpj t (qct p.1 t) p
theorem z39 (p : Pu) (t : Tm) : xz p t = zek p t:=zva t _ p
def zig (t : Tm) : Nat → Pu → Int → List UInt8 × Pu
 |0,p,_=>([],p)
 |n + 1,p,g=>if (zi (zek p t) g).1 = [] then zi (zek p t) g
  else ((zi (zek p t) g).1 ++ (zig t n (zi (zek p t) g).2 (g - ((zi (zek p t) g).1.length : Nat))).1,(zig t n (zi (zek p t) g).2 (g - ((zi (zek p t) g).1.length : Nat))).2)
theorem ztn (t : Tm) : ∀ (n : Nat) (p : Pu) (g : Int),zlg t n p g = zig t n p g
 |0,_,_=>rfl
 |n + 1,p,g=>by
  unfold zlg zig
  rw [z39,ztn t n]
def zdv (p : Pu) (t : Tm) (g : Int) : List UInt8 × Pu × Int:=if zhz p = true ∧ zpi p.1 t = true then ((zig t (qar p t + 1) p g).1,(zig t (qar p t + 1) p g).2,0) else ([],zxi,1)
theorem zfd (p : Pu) (t : Tm) (g : Int) : vj p t g = zdv p t g:=by
 unfold vj zdv xo
 rw [ztn,qaq]
 by_cases h : x8 p = true ∧ qz p.1 t
 ·rw [if_pos h,if_pos ⟨by rw [← zcp]; exact h.1,zj1.1 h.2⟩]
 ·rw [if_neg h,if_neg (fun z=>h ⟨by rw [zcp]; exact z.1,zj1.2 z.2⟩)]
def zjy (b : Bel) (sp : List (Int × Int)) : Bel:=sp.foldl (fun b s=>zfl b s.1 s.2 true) b
theorem zlw : ∀ (sp : List (Int × Int)) (b : Bel),xq b sp = zjy b sp
 |[],_=>rfl
 |s :: sp,b=>by
  show xq (xb b s.1 s.2 true) sp = zjy (zfl b s.1 s.2 true) sp
  rw [zu3,zlw sp]
def u4 (p : Pu) : Pu:=if zhz p = true then (zjy p.1 (p.2.2.drop (ze5 p.2.1.2.2.1)),(p.2.1.1,p.2.1.2.1.take (ze5 p.2.1.2.2.1),p.2.1.2.2.1,p.2.1.2.2.2.1,p.2.1.2.2.2.2),p.2.2.take (ze5 p.2.1.2.2.1)) else p
theorem zkb (p : Pu) : xm p = u4 p:=by unfold xm u4; rw [zcp,zlw]
def zn3 (p : Pu) : Pu:=if zhz p = true then ((ye (u4 p).1.1 (u4 p).1.2.1).1,(u4 p).2.1,(u4 p).2.2) else p
theorem z03 (p : Pu) : zep p = zn3 p:=by unfold zep zn3; rw [zcp,zkb]
def zm3 (p : Pu) (w h : Int) : Pu × Int:=if zhz p = true then (if (ye w h).2 = 0 then (((ye w h).1,(u4 p).2.1,List.replicate (u4 p).2.1.2.1.length (0,0)),0) else (zxi,(ye w h).2)) else (zxi,1)
theorem zyj (p : Pu) (w h : Int) : vi p w h = zm3 p w h:=by unfold vi zm3; rw [zcp,zkb]
def znl (p : Pu) (g : Int) : List UInt8 × Pu:=if zhz p = true then zi p g else ([],p)
theorem zzo (p : Pu) (g : Int) : zbv p g = znl p g:=by unfold zbv znl; rw [zcp]
noncomputable def zlp (p : Pu) (off : Bool) : Pu:=if x8 p = true then zim p off else p
def znm (p : Pu) (off : Bool) : Pu:=if zhz p = true then zim p off else p
theorem zzq (p : Pu) (off : Bool) : zlp p off = znm p off:=by unfold zlp znm; rw [zcp]
theorem zut {p : Pu} {off : Bool} (h : x8 p = true) : zlp p off = zim p off:=if_pos h
end Go.Proofs.YtgfmjmfphmjdkaaGreatDoor
