/- Layer 29 (paint), plainly: what is wrong, what is told next, and what comes of it. No condition. -/
import Derived.Test.YtgfmjmfphmjdkaaGreatDoorR3H1
import Derived.Test.YtgfmjmfphmjdkaaGreatDoorR3B1
set_option linter.unusedSimpArgs false
set_option linter.unusedVariables false
set_option linter.unusedSectionVars false
namespace Go.Proofs.YtgfmjmfphmjdkaaGreatDoor
set_option maxHeartbeats 4000000
open Go Go.RowKit
set_option maxRecDepth 100000
def yl (p : Nat → Bool) (a : Nat) : Nat → Nat
 |0=>0
 |n + 1=>yl p a n + (if p (a + n) then 1 else 0)
def zsn (p : Nat → Bool) : Nat → Nat → Nat
 |0,i=>i
 |k + 1,i=>if p i then i else zsn p k (i + 1)
theorem zgx (p : Nat → Bool) : ∀ k i,i ≤ zsn p k i ∧ zsn p k i ≤ i + k ∧ (∀ j,i ≤ j → j < zsn p k i → p j = false) ∧ (zsn p k i < i + k → p (zsn p k i) = true)
 |0,i=>⟨Nat.le_refl _,Nat.le_refl _,fun j a b=>absurd b (by unfold zsn; omega),fun a=>absurd a (by unfold zsn; omega)⟩
 |k + 1,i=>by
  unfold zsn
  cases hp : p i with
  |true=>exact ⟨by simp,by simp,fun j a b=>absurd b (by simp; omega),fun _=>by simpa using hp⟩
  |false =>
   obtain ⟨a,b,c,d⟩:=zgx p k (i + 1)
   simp only [Bool.false_eq_true,if_false]
   refine ⟨by omega,by omega,fun j h1 h2 => ?_,fun h=>d (by omega)⟩
   rcases Nat.lt_or_ge i j with h | h
   ·exact c j h h2
   ·rw [show j = i by omega]; exact hp
theorem zlt {p : Nat → Bool} {k F : Nat} (h1 : F ≤ k) (h2 : ∀ j,j < F → p j = false) (h3 : F < k → p F = true) : zsn p k 0 = F:=by
 obtain ⟨a,b,c,d⟩:=zgx p k 0
 rcases Nat.lt_trichotomy (zsn p k 0) F with h | h | h
 ·have:=d (by omega); rw [h2 _ h] at this; cases this
 ·exact h
 ·have:=c F (Nat.zero_le _) h; rw [h3 (by omega)] at this; cases this
theorem zc6 (p : Nat → Bool) (a m : Nat) : ∀ n,yl p a (m + n) = yl p a m + yl p (a + m) n
 |0=>rfl
 |n + 1=>by
  show yl p a (m + n) + (if p (a + (m + n)) then 1 else 0) = yl p a m + (yl p (a + m) n + (if p (a + m + n) then 1 else 0))
  rw [zc6 p a m n,show a + (m + n) = a + m + n by omega]; omega
theorem zhk (p : Nat → Bool) (a : Nat) : ∀ n,yl p a n ≤ n
 |0=>Nat.le_refl _
 |n + 1=>by
  have:=zhk p a n
  unfold yl; split <;> omega
theorem zl8 {p : Nat → Bool} {a : Nat} : ∀ {n : Nat},(∀ i,a ≤ i → i < a + n → p i = false) → yl p a n = 0
 |0,_=>rfl
 |n + 1,h=>by
  unfold yl
  rw [zl8 fun i h1 h2=>h i h1 (by omega),h (a + n) (by omega) (by omega)]; rfl
theorem zhj {p q : Nat → Bool} {a : Nat} : ∀ {n : Nat},(∀ i,a ≤ i → i < a + n → q i = true → p i = true) → yl q a n ≤ yl p a n
 |0,_=>Nat.le_refl _
 |n + 1,h=>by
  have h1:=zhj (n:=n) fun i a b=>h i a (by omega)
  have h2:=h (a + n) (by omega) (by omega)
  unfold yl
  cases e : q (a + n) with
  |false=>simp; omega
  |true=>rw [h2 e]; simp; omega
theorem z42 {p q : Nat → Bool} {a n j : Nat} (h : ∀ i,a ≤ i → i < a + n → q i = true → p i = true) (h1 : a ≤ j) (h2 : j < a + n) (h3 : p j = true) (h4 : q j = false) : yl q a n < yl p a n:=by
 have e : n = (j - a) + (1 + (n - (j - a) - 1)):=by omega
 rw [e,zc6,zc6,zc6,zc6]
 have m1:=zhj (p:=p) (q:=q) (a:=a) (n:=j - a) fun i x y=>h i x (by omega)
 have m2:=zhj (p:=p) (q:=q) (a:=a + (j - a) + 1) (n:=n - (j - a) - 1) fun i x y=>h i (by omega) (by omega)
 have o1 : yl q (a + (j - a)) 1 = 0:=by unfold yl yl; rw [show a + (j - a) + 0 = j by omega,h4]; rfl
 have o2 : yl p (a + (j - a)) 1 = 1:=by unfold yl yl; rw [show a + (j - a) + 0 = j by omega,h3]; rfl
 omega
def wrP (l : List zj) (cs : List zp) (i : Nat) : Bool:=decide (gAt l i ≠ (cAt cs i,true))
def zp4 (cs : List zp) (a n : Nat) : Bool:=(List.range n).all fun i=>decide (cAt cs (a + i) = (32,0))
theorem zbk {cs : List zp} {a n : Nat} : zp4 cs a n = true ↔ ∀ i,a ≤ i → i < a + n → cAt cs i = (32,0):=by
 simp only [zp4,List.all_eq_true,List.mem_range,decide_eq_true_eq]
 exact ⟨fun h i h1 h2=>by have:=h (i - a) (by omega); rwa [show a + (i - a) = i by omega] at this,fun h i hi=>h _ (by omega) (by omega)⟩
def qz (b : Bel) (t : Tm) : Prop:=ub b = true ∧ yt t = true ∧ t.2.2.2.2.2 = false ∧ b.1 = t.1 ∧ b.2.1 = t.2.1
noncomputable instance (b : Bel) (t : Tm) : Decidable (qz b t):=Classical.propDecidable _
noncomputable def zd9 (b : Bel) (t : Tm) : Int × Int:=if qz b t then ((yl (wrP b.2.2.1 t.2.2.1) 0 b.2.2.1.length : Nat),0) else (0,1)
def v7 (b : Bel) (t : Tm) : Nat:=zsn (wrP b.2.2.1 t.2.2.1) b.2.2.1.length 0
def zbu (b : Bel) (t : Tm) : Nat:=if (cAt t.2.2.1 (v7 b t)).2 = 2 then v7 b t - 1 else v7 b t
def vr (w : Nat) (l : List zj) (cs : List zp) (p : Nat) : Cmd :=
 if zp4 cs p (l.length - p) = true ∧ 8 ≤ yl (wrP l cs) p (l.length - p) then (8,0,0,0)
 else if zp4 cs p (w - p % w) = true ∧ 4 ≤ yl (wrP l cs) p (w - p % w) then (7,0,0,0)
 else (1,0,0,(cAt cs p).1)
noncomputable def zu (b : Bel) (t : Tm) : Cmd × Int :=
 if qz b t then
  if v7 b t = b.2.2.1.length then xc b t.2.2.2.1 t.2.2.2.2.1
  else if zfj b (zbu b t % b.1.toNat : Nat) (zbu b t / b.1.toNat : Nat) = false then xc b (zbu b t % b.1.toNat : Nat) (zbu b t / b.1.toNat : Nat)
  else (vr b.1.toNat b.2.2.1 t.2.2.1 (zbu b t),0)
 else ((0,0,0,0),1)
theorem z6w {w h : Nat} {cs : List zp} {X Y : Int} {b : Bool} (h1 : okT w h cs X Y b = true) : GOk w (ofL cs) ∧ cs.length = w * h:=by
 have h2 : yt ((w : Int),(h : Int),cs,X,Y,b) = true:=h1
 have h3:=z6v h2
 rw [ofB,if_pos h2] at h3
 obtain ⟨w',h',e1,e2,_,_,_,_,hl,hk,_⟩:=qn.1 h3
 simp only at e1 e2
 obtain rfl : w = w':=by omega
 obtain rfl : h = h':=by omega
 rw [zdx] at hl
 exact ⟨hk,hl⟩
theorem zza {w h p : Nat} (h1 : p < w * h) (h2 : p % w < w - 1) : p + 1 < w * h:=by
 have hw : 0 < w:=by omega
 have e:=Nat.div_add_mod p w
 have hq : p / w < h:=(Nat.div_lt_iff_lt_mul hw).2 (by rw [Nat.mul_comm]; exact h1)
 have : w * (p / w + 1) ≤ w * h:=Nat.mul_le_mul_left w hq
 rw [Nat.mul_add] at this
 omega
theorem ztf {w h p : Nat} (hw : 0 < w) (h1 : p < w * h) : p + (w - p % w) ≤ w * h ∧ (p + (w - p % w)) % w = 0 ∧ p + (w - p % w) = w * (p / w + 1):=by
 have e:=Nat.div_add_mod p w
 have hm:=Nat.mod_lt p hw
 have hq : p / w < h:=(Nat.div_lt_iff_lt_mul hw).2 (by rw [Nat.mul_comm]; exact h1)
 have k : w * (p / w + 1) ≤ w * h:=Nat.mul_le_mul_left w hq
 have k2 : p + (w - p % w) = w * (p / w + 1):=by rw [Nat.mul_add]; omega
 exact ⟨by omega,by rw [k2,Nat.mul_mod_right],k2⟩
theorem zd5 {w : Nat} {cs : List zp} (hk : GOk w (ofL cs)) {i : Nat} (hi : i < cs.length) : xv (cAt cs i) = true ∧ ((cAt cs i).2 = 1 → i % w < w - 1 ∧ (i + 1 < cs.length → cAt cs (i + 1) = ((cAt cs i).1,2))) ∧ ((cAt cs i).2 = 2 → 0 < i % w ∧ cAt cs (i - 1) = ((cAt cs i).1,1)):=by
 have e:=zar hi
 refine ⟨?_,fun h => ?_,fun h => ?_⟩
 ·have:=hk.cell (i:=i) (by rw [e]); rwa [e] at this
 ·have:=hk.left (i:=i) (by rw [e]; exact h)
  refine ⟨this.1,fun h2 => ?_⟩
  have k:=this.2 (by rw [zar h2])
  rw [zar h2,e] at k
  exact congrArg Prod.fst k
 ·have:=hk.right (i:=i) (by rw [e]; exact h)
  refine ⟨this.1, ?_⟩
  have k:=this.2 (by rw [zar (by omega)])
  rw [zar (by omega),e] at k
  exact congrArg Prod.fst k
theorem zgr {w : Nat} {l : List zj} {cs ds : List zp} {p : Nat} (hk : GOk w (ofL cs)) (hl : cs.length = l.length) (hp : p + ds.length ≤ l.length) (h2 : 0 < (p + ds.length) % w → p + ds.length < l.length) (hd : 1 ≤ ds.length) (hc : ∀ j,j < ds.length → cAt cs (p + j) = cAt ds j) (hf : (cAt cs p).2 ≠ 2) (hlast : (cAt cs (p + ds.length - 1)).2 ≠ 1) :
  (∀ i,wrP l cs i = false → wrP (yi w l p ds) cs i = false) ∧ (∀ i,p ≤ i → i < p + ds.length → wrP (yi w l p ds) cs i = false):=by
 have mid : ∀ i,p ≤ i → i < p + ds.length → wrP (yi w l p ds) cs i = false:=fun i a b=>by
  unfold wrP
  rw [zgs hp h2,if_neg (by omega),if_pos b,← hc (i - p) (by omega),show p + (i - p) = i by omega]
  simp
 refine ⟨fun i h => ?_,mid⟩
 have hi : gAt l i = (cAt cs i,true):=by simpa [wrP] using h
 have keep : ∀ g,gAt (yi w l p ds) i = g → g = gAt l i → wrP (yi w l p ds) cs i = false:=fun g e1 e2=>by
  unfold wrP; rw [e1,e2,hi]; simp
 rcases Nat.lt_or_ge i p with a | a
 ·refine keep _ (zgs hp h2 i) ?_
  rw [if_pos a,if_neg]
  rintro ⟨q1,q2,q3⟩
  rw [hi] at q3
  have:=((zd5 hk (i:=i) (by omega)).2.1 q3).2 (by omega)
  rw [q1] at this
  rw [this] at hf
  exact hf rfl
 ·rcases Nat.lt_or_ge i (p + ds.length) with b | b
  ·exact mid i a b
  ·refine keep _ (zgs hp h2 i) ?_
   rw [if_neg (by omega),if_neg (by omega),if_neg]
   rintro ⟨q1,q2,q3⟩
   rw [hi] at q3
   have:=((zd5 hk (i:=i) (by have:=h2 q2; omega)).2.2 q3).2
   rw [q1] at this
   rw [this] at hlast
   exact hlast rfl
end Go.Proofs.YtgfmjmfphmjdkaaGreatDoor
namespace Go.Proofs.YtgfmjmfphmjdkaaGreatDoor
set_option maxHeartbeats 4000000
open Go Go.RowKit
set_option maxRecDepth 100000
theorem zug {r : Int} (h : ja r = true) : jb (1,0,0,r) ≤ 4:=by
 have hc : z9 (1,0,0,r) = true:=by simp [z9,h]
 have hg : isG r = true:=by simp only [ja,Bool.and_eq_true] at h; exact h.1.1
 unfold jb jt
 rw [if_pos hc]
 show (z1_ r).length ≤ 4
 rw [zka hg]
 unfold yu
 (repeat' split) <;> simp
theorem zgl {b : Bel} {X Y : Int} (h1 : ub b = true) (hX : 0 ≤ X ∧ X < b.1) (hY : 0 ≤ Y ∧ Y < b.2.1) (hn : zfj b X Y = false) : (xc b X Y).2 = 0:=by
 obtain ⟨w,h,l,x,y,bb,s⟩:=b
 unfold xc
 rw [if_neg (fun z=>z ⟨h1,hX.1,hX.2,hY.1,hY.2⟩)]
 cases s with
 |false=>rw [if_pos rfl]
 |true =>
  rw [if_neg (fun z=>absurd (show true = false from z) (by decide)),if_neg]
  rintro ⟨rfl,rfl,rfl⟩
  simp [zfj] at hn
theorem zt4 {b : Bel} {X Y : Int} (h : (xc b X Y).2 = 0) : (xc b X Y).1.1 ≠ 1 ∧ (xc b X Y).1.1 ≠ 7 ∧ (xc b X Y).1.1 ≠ 8:=by
 obtain ⟨h1,hX,hY,hh⟩:=zlk h
 obtain ⟨w',h',e1,e2,w2,w3,w4,w5,_⟩:=qn.1 h1
 have hX' : 0 ≤ X ∧ X ≤ 79:=by omega
 have hY' : 0 ≤ Y ∧ Y ≤ 23:=by omega
 rcases hh with ⟨_,e⟩ | ⟨_,H,e⟩
 ·rw [e]
  obtain ⟨_,_,_,_,a,b',c⟩:=zct (h:=b.2.1) (y:=0) hX' hY' (.inl rfl)
  exact ⟨a,b',c⟩
 ·rw [e]
  obtain ⟨_,_,_,_,a,b',c⟩:=zct hX' hY' H.best.2.1
  exact ⟨a,b',c⟩
theorem uw {b : Bel} {t : Tm} (hf : qz b t) : ∃ (w h : Nat) (l : List zj) (x y : Int) (bb s : Bool) (cs : List zp) (X Y : Int),b = ((w : Int),(h : Int),l,x,y,bb,s) ∧ t = ((w : Int),(h : Int),cs,X,Y,false) ∧ 2 ≤ w ∧ w ≤ 80 ∧ 1 ≤ h ∧ h ≤ 24 ∧ l.length = w * h ∧ cs.length = w * h ∧ GOk w (ofL cs) ∧ (0 ≤ X ∧ X < w) ∧ (0 ≤ Y ∧ Y < h):=by
 obtain ⟨bw,bh,l,x,y,bb,s⟩:=b
 obtain ⟨tw,th,cs,X,Y,tb⟩:=t
 obtain ⟨h1,h2,h3,h4,h5⟩:=hf
 simp only at h3 h4 h5
 subst h3 h4 h5
 obtain ⟨w,h,e1,e2,w2,w3,w4,w5,hl,hk,_⟩:=qn.1 h1
 simp only at e1 e2
 subst e1 e2
 obtain ⟨g1,g2⟩:=z6w h2
 obtain ⟨_,q,_⟩:=qp.1 h2
 exact ⟨w,h,l,x,y,bb,s,cs,X,Y,rfl,rfl,w2,w3,w4,w5,hl,g2,g1,⟨q.1,q.2.1⟩,q.2.2⟩
theorem zs0 {w h : Nat} {l : List zj} {cs : List zp} {F p : Nat} (hw : 2 ≤ w) (hl : l.length = w * h) (hcl : cs.length = w * h) (hk : GOk w (ofL cs)) (hF : F < l.length) (hw1 : wrP l cs F = true) (hp : p = if (cAt cs F).2 = 2 then F - 1 else F) :
  ((vr w l cs p).1 = 1 ∨ (vr w l cs p).1 = 7 ∨ (vr w l cs p).1 = 8) ∧ z9 (vr w l cs p) = true ∧ jb (vr w l cs p) ≤ 4 ∧ (∀ i,wrP l cs i = false → wrP (j_ w h l (p % w) (p / w) false (vr w l cs p)) cs i = false) ∧ wrP (j_ w h l (p % w) (p / w) false (vr w l cs p)) cs F = false ∧
  ((vr w l cs p).1 = 7 → ∀ i,p ≤ i → i < w * (p / w + 1) → wrP (j_ w h l (p % w) (p / w) false (vr w l cs p)) cs i = false) ∧ ((vr w l cs p).1 = 8 → ∀ i,p ≤ i → i < l.length → wrP (j_ w h l (p % w) (p / w) false (vr w l cs p)) cs i = false):=by
 have hp2 : (cAt cs p).2 ≠ 2 ∧ p ≤ F ∧ (F = p ∨ (F = p + 1 ∧ (cAt cs p).2 = 1)):=by
  by_cases q : (cAt cs F).2 = 2
  ·rw [if_pos q] at hp
   have:=(zd5 hk (i:=F) (by omega)).2.2 q
   have hF0 : 0 < F:=by
    rcases Nat.eq_zero_or_pos F with z | z
    ·rw [z] at this; simp at this
    ·exact z
   rw [hp,this.2]
   exact ⟨by simp,by omega,.inr ⟨by omega,rfl⟩⟩
  ·rw [if_neg q] at hp
   rw [hp]; exact ⟨q,Nat.le_refl _,.inl rfl⟩
 obtain ⟨k2,pF,kF⟩:=hp2
 have hpn : p < w * h:=by omega
 have hdm : p / w * w + p % w = p:=by rw [Nat.mul_comm]; exact Nat.div_add_mod p w
 obtain ⟨r1,r2,r3⟩:=ztf (show 0 < w by omega) hpn
 obtain ⟨c1,c2,c3⟩:=zd5 hk (i:=p) (by omega)
 have hm:=Nat.mod_lt p (show 0 < w by omega)
 by_cases q8 : zp4 cs p (l.length - p) = true ∧ 8 ≤ yl (wrP l cs) p (l.length - p)
 ·have et : vr w l cs p = (8,0,0,0):=if_pos q8
  have hb:=zbk.1 q8.1
  have ek : j_ w h l (p % w) (p / w) false (8,0,0,0) = yi w l p (List.replicate (l.length - p) (32,0)):=by
   unfold j_
   rw [if_neg (by decide),if_neg (by decide),if_pos rfl,hdm]
  obtain ⟨a1,a2⟩:=zgr (l:=l) (ds:=List.replicate (l.length - p) ((32,0) : zp)) hk (by omega) (by simp; omega) (fun z=>by
   exfalso
   simp only [List.length_replicate] at z
   rw [show p + (l.length - p) = w * h by omega,Nat.mul_mod_right] at z
   omega) (by simp; omega) (fun j hj=>by
    simp only [List.length_replicate] at hj
    rw [hb _ (by omega) (by omega)]
    simp [cAt,hj]) k2 (by simp only [List.length_replicate]; rw [hb _ (by omega) (by omega)]; simp)
  simp only [List.length_replicate] at a2
  rw [et,ek]
  exact ⟨.inr (.inr rfl),by decide,by decide,a1,a2 F pF (by omega),fun z=>absurd z (by decide),fun _ i x y=>a2 i x (by omega)⟩
 ·by_cases q7 : zp4 cs p (w - p % w) = true ∧ 4 ≤ yl (wrP l cs) p (w - p % w)
  ·have et : vr w l cs p = (7,0,0,0):=by unfold vr; rw [if_neg q8,if_pos q7]
   have hb:=zbk.1 q7.1
   have ek : j_ w h l (p % w) (p / w) false (7,0,0,0) = yi w l p (List.replicate (w - p % w) (32,0)):=by
    unfold j_
    rw [if_neg (by decide),if_pos rfl,hdm]
   obtain ⟨a1,a2⟩:=zgr (l:=l) (ds:=List.replicate (w - p % w) ((32,0) : zp)) hk (by omega) (by simp; omega) (fun z=>by
    exfalso
    simp only [List.length_replicate] at z
    omega) (by simp; omega) (fun j hj=>by
     simp only [List.length_replicate] at hj
     rw [hb _ (by omega) (by omega)]
     simp [cAt,hj]) k2 (by simp only [List.length_replicate]; rw [hb _ (by omega) (by omega)]; simp)
   simp only [List.length_replicate] at a2
   rw [et,ek]
   refine ⟨.inr (.inl rfl),by decide,by decide,a1,a2 F pF ?_,fun _ i x y=>a2 i x (by omega),fun z=>absurd z (by decide)⟩
   rcases kF with z | ⟨z,z2⟩
   ·omega
   ·have:=(c2 z2).1; omega
  ·have et : vr w l cs p = (1,0,0,(cAt cs p).1):=by unfold vr; rw [if_neg q8,if_neg q7]
   have hs : ja (cAt cs p).1 = true:=by simp only [xv,Bool.and_eq_true] at c1; exact c1.1
   have hlen:=j5 hs
   have hcs : (∀ j,j < (zh (cAt cs p).1).length → cAt cs (p + j) = cAt (zh (cAt cs p).1) j) ∧ (cAt cs (p + (zh (cAt cs p).1).length - 1)).2 ≠ 1 ∧ p + (zh (cAt cs p).1).length ≤ l.length ∧ p % w + (zh (cAt cs p).1).length ≤ w ∧ F < p + (zh (cAt cs p).1).length:=by
    simp only [xv,Bool.and_eq_true] at c1
    rw [ym hs]
    cases hW : isW (cAt cs p).1 with
    |true =>
     rw [hW] at c1
     have e1 : (cAt cs p).2 = 1:=by simpa [k2] using c1.2
     obtain ⟨m1,m2⟩:=c2 e1
     have n1:=zza hpn m1
     have m3:=m2 (by omega)
     simp only [if_true,List.length_cons,List.length_nil]
     refine ⟨fun j hj => ?_, ?_,by omega,by omega,by rcases kF with z | z <;> omega⟩
     ·rcases (show j = 0 ∨ j = 1 by omega) with rfl | rfl
      ·exact Prod.ext rfl e1
      ·rw [m3]; rfl
     ·rw [show p + (0 + 1 + 1) - 1 = p + 1 by omega,m3]; simp
    |false =>
     rw [hW] at c1
     have e1 : (cAt cs p).2 = 0:=by simpa using c1.2
     simp only [Bool.false_eq_true,if_false,List.length_cons,List.length_nil]
     refine ⟨fun j hj => ?_, ?_,by omega,by omega,by
      rcases kF with z | ⟨z,z2⟩
      ·omega
      ·rw [e1] at z2; cases z2⟩
     ·obtain rfl : j = 0:=by omega
      exact Prod.ext rfl e1
     ·rw [show p + (0 + 1) - 1 = p by omega,e1]; decide
   obtain ⟨s1,s2,s3,s4,s5⟩:=hcs
   have ek : j_ w h l (p % w) (p / w) false (1,0,0,(cAt cs p).1) = yi w l p (zh (cAt cs p).1):=by
    unfold j_ zf8
    rw [if_pos rfl,if_neg (by rintro (z | z); cases z; simp only at z; omega),hdm]
   obtain ⟨a1,a2⟩:=zgr (l:=l) hk (by omega) s3 (fun z=>by
    rcases Nat.lt_or_ge (p % w + (zh (cAt cs p).1).length) w with y | y
    ·omega
    ·exfalso
     rw [show p + (zh (cAt cs p).1).length = p + (w - p % w) by omega,r2] at z
     omega) hlen.1 s1 k2 s2
   rw [et,ek]
   exact ⟨.inl rfl,by simp [z9,hs],zug hs,a1,a2 F pF s5,fun z=>absurd z (show ¬ ((1 : Int) = 7) by decide),fun z=>absurd z (show ¬ ((1 : Int) = 8) by decide)⟩
end Go.Proofs.YtgfmjmfphmjdkaaGreatDoor
namespace Go.Proofs.YtgfmjmfphmjdkaaGreatDoor
set_option maxHeartbeats 4000000
open Go Go.RowKit
set_option maxRecDepth 100000
def zms (b : Bel) (t : Tm) : Int:=if v7 b t = b.2.2.1.length then t.2.2.2.1 else (zbu b t % b.1.toNat : Nat)
def zmr (b : Bel) (t : Tm) : Int:=if v7 b t = b.2.2.1.length then t.2.2.2.2.1 else (zbu b t / b.1.toNat : Nat)
def zhv (b : Bel) (t : Tm) : Nat:=yl (wrP b.2.2.1 t.2.2.1) 0 b.2.2.1.length
theorem w7 (b : Bel) (t : Tm) : v7 b t ≤ b.2.2.1.length ∧ (∀ j,j < v7 b t → wrP b.2.2.1 t.2.2.1 j = false) ∧ (v7 b t < b.2.2.1.length → wrP b.2.2.1 t.2.2.1 (v7 b t) = true):=by
 obtain ⟨_,a,b',c⟩:=zgx (wrP b.2.2.1 t.2.2.1) b.2.2.1.length 0
 rw [Nat.zero_add] at a c
 exact ⟨a,fun j h=>b' j (Nat.zero_le _) h,c⟩
theorem zzd {b : Bel} {t : Tm} (hf : qz b t) : zu b t = if zfj b (zms b t) (zmr b t) = false then xc b (zms b t) (zmr b t) else if v7 b t = b.2.2.1.length then ((0,0,0,0),7) else (vr b.1.toNat b.2.2.1 t.2.2.1 (zbu b t),0):=by
 unfold zu zms zmr
 rw [if_pos hf]
 by_cases h : v7 b t = b.2.2.1.length
 ·simp only [if_pos h]
  by_cases q : zfj b t.2.2.2.1 t.2.2.2.2.1 = false
  ·rw [if_pos q]
  ·rw [if_neg q]
   obtain ⟨w,h',l,x,y,bb,s,cs,X,Y,rfl,rfl,_,_,_,_,_,_,_,hX,hY⟩:=uw hf
   exact zgm hf.1 hX hY (by simpa using q)
 ·simp only [if_neg h]
theorem z6b {b : Bel} {t : Tm} (hf : qz b t) : (0 ≤ zms b t ∧ zms b t < b.1) ∧ (0 ≤ zmr b t ∧ zmr b t < b.2.1) ∧ (v7 b t < b.2.2.1.length → zbu b t / b.1.toNat = v7 b t / b.1.toNat ∧ zbu b t ≤ v7 b t):=by
 obtain ⟨h1,h2,h3⟩:=w7 b t
 obtain ⟨w,h',l,x,y,bb,s,cs,X,Y,rfl,rfl,w2,_,_,_,hl,hcl,hk,hX,hY⟩:=uw hf
 simp only at h1 h2 h3 ⊢
 unfold zms zmr
 by_cases h : v7 ((w : Int),(h' : Int),l,x,y,bb,s) ((w : Int),(h' : Int),cs,X,Y,false) = l.length
 ·rw [if_pos h,if_pos h]
  exact ⟨hX,hY,fun z=>by omega⟩
 ·rw [if_neg h,if_neg h]
  simp only [Int.toNat_natCast]
  have hlt : zbu ((w : Int),(h' : Int),l,x,y,bb,s) ((w : Int),(h' : Int),cs,X,Y,false) ≤ v7 ((w : Int),(h' : Int),l,x,y,bb,s) ((w : Int),(h' : Int),cs,X,Y,false):=by unfold zbu; split <;> omega
  have hdv : zbu ((w : Int),(h' : Int),l,x,y,bb,s) ((w : Int),(h' : Int),cs,X,Y,false) / w = v7 ((w : Int),(h' : Int),l,x,y,bb,s) ((w : Int),(h' : Int),cs,X,Y,false) / w:=by
   unfold zbu
   split
   ·rename_i q
    have q1:=((zd5 hk (i:=v7 ((w : Int),(h' : Int),l,x,y,bb,s) ((w : Int),(h' : Int),cs,X,Y,false)) (by omega)).2.2 q).1
    generalize v7 ((w : Int),(h' : Int),l,x,y,bb,s) ((w : Int),(h' : Int),cs,X,Y,false) = F at *
    have e:=Nat.div_add_mod F w
    have hm:=Nat.mod_lt F (show 0 < w by omega)
    refine Nat.div_eq_of_lt_le ?_ ?_
    ·rw [Nat.mul_comm]; omega
    ·rw [Nat.mul_comm,Nat.mul_add]; omega
   ·rfl
  generalize zbu ((w : Int),(h' : Int),l,x,y,bb,s) ((w : Int),(h' : Int),cs,X,Y,false) = p at *
  generalize v7 ((w : Int),(h' : Int),l,x,y,bb,s) ((w : Int),(h' : Int),cs,X,Y,false) = F at *
  have hm:=Nat.mod_lt p (show 0 < w by omega)
  have hq : p / w < h':=(Nat.div_lt_iff_lt_mul (by omega)).2 (by rw [Nat.mul_comm]; omega)
  exact ⟨⟨Int.natCast_nonneg _,Int.ofNat_lt.2 hm⟩,⟨Int.natCast_nonneg _,Int.ofNat_lt.2 hq⟩,fun _=>⟨hdv,hlt⟩⟩
theorem za8 {b : Bel} {t : Tm} (hf : qz b t) : (zfj b t.2.2.2.1 t.2.2.2.2.1 = true ∧ v7 b t = b.2.2.1.length ∧ zu b t = ((0,0,0,0),7)) ∨
  ((zu b t).2 = 0 ∧ z9 (zu b t).1 = true ∧ (doB b (zu b t).1).2 = 0 ∧ qz (doB b (zu b t).1).1 t ∧ (doB b (zu b t).1).1.2.2.1.length = b.2.2.1.length ∧ (doB b (zu b t).1).1.1 = b.1 ∧ (doB b (zu b t).1).1.2.1 = b.2.1 ∧ (∀ i,wrP b.2.2.1 t.2.2.1 i = false → wrP (doB b (zu b t).1).1.2.2.1 t.2.2.1 i = false) ∧
    ((zfj b (zms b t) (zmr b t) = false ∧ (doB b (zu b t).1).1 = (b.1,b.2.1,b.2.2.1,zms b t,zmr b t,false,true) ∧ jb (zu b t).1 ≤ 8 ∧ zcl (zu b t).1 = 0 ∧ (zu b t).1.1 ≠ 1 ∧ (zu b t).1.1 ≠ 7 ∧ (zu b t).1.1 ≠ 8)
    ∨ (zfj b (zms b t) (zmr b t) = true ∧ v7 b t < b.2.2.1.length ∧ ((zu b t).1.1 = 1 ∨ (zu b t).1.1 = 7 ∨ (zu b t).1.1 = 8) ∧ jb (zu b t).1 ≤ 4 ∧ wrP (doB b (zu b t).1).1.2.2.1 t.2.2.1 (v7 b t) = false ∧
      ((zu b t).1.1 = 7 → ∀ i,i < b.1.toNat * (v7 b t / b.1.toNat + 1) → wrP (doB b (zu b t).1).1.2.2.1 t.2.2.1 i = false) ∧ ((zu b t).1.1 = 8 → ∀ i,i < b.2.2.1.length → wrP (doB b (zu b t).1).1.2.2.1 t.2.2.1 i = false)))):=by
 obtain ⟨g1,g2,g3⟩:=z6b hf
 obtain ⟨h1,h2,h3⟩:=w7 b t
 have e:=zzd hf
 by_cases ha : zfj b (zms b t) (zmr b t) = false
 ·rw [if_pos ha] at e
  rw [e]
  have z:=zgl hf.1 g1 g2 ha
  obtain ⟨n1,n2,n3,n4,n5,n6⟩:=zqy z
  have k:=zv_ hf.1 n1
  refine .inr ⟨z,n1,by rw [n2], ?_,by rw [n2],by rw [n2],by rw [n2],by rw [n2]; exact fun _ q=>q,.inl ⟨ha,by rw [n2],Nat.le_trans n5 (zau _),n4,zt4 z⟩⟩
  rw [n2] at k ⊢
  exact ⟨k,hf.2.1,hf.2.2.1,hf.2.2.2.1,hf.2.2.2.2⟩
 ·rw [if_neg ha] at e
  have ha' : zfj b (zms b t) (zmr b t) = true:=by simpa using ha
  by_cases hn : v7 b t = b.2.2.1.length
  ·rw [if_pos hn] at e
   unfold zms zmr at ha'
   rw [if_pos hn,if_pos hn] at ha'
   exact .inl ⟨ha',hn,e⟩
  ·rw [if_neg hn] at e
   have hlt : v7 b t < b.2.2.1.length:=by omega
   obtain ⟨g4,g5⟩:=g3 hlt
   have k3:=h3 hlt
   rw [e]
   simp only
   obtain ⟨w,h',l,x,y,bb,s,cs,X,Y,rfl,rfl,w2,_,_,_,hl,hcl,hk,hX,hY⟩:=uw hf
   have hpd : zbu ((w : Int),(h' : Int),l,x,y,bb,s) ((w : Int),(h' : Int),cs,X,Y,false) = if (cAt cs (v7 ((w : Int),(h' : Int),l,x,y,bb,s) ((w : Int),(h' : Int),cs,X,Y,false))).2 = 2 then v7 ((w : Int),(h' : Int),l,x,y,bb,s) ((w : Int),(h' : Int),cs,X,Y,false) - 1 else v7 ((w : Int),(h' : Int),l,x,y,bb,s) ((w : Int),(h' : Int),cs,X,Y,false):=rfl
   have hat:=zjw.1 ha'
   unfold zms zmr at hat
   rw [if_neg hn,if_neg hn] at hat
   simp only [Int.toNat_natCast] at hat g4 g5 h1 h2 h3 hlt k3 ⊢
   generalize zbu ((w : Int),(h' : Int),l,x,y,bb,s) ((w : Int),(h' : Int),cs,X,Y,false) = p at *
   generalize v7 ((w : Int),(h' : Int),l,x,y,bb,s) ((w : Int),(h' : Int),cs,X,Y,false) = F at *
   obtain ⟨t1,t2,t3,t4,t5,t6,t7⟩:=zs0 w2 hl hcl hk hlt k3 hpd
   obtain ⟨rfl,a1,a2,rfl⟩:=hat
   have d0:=zpz (c:=vr w l cs p) hf.1 t2 (by rcases t1 with z | z | z <;> rw [z] <;> decide)
   have dl : (zry w h' l x y false (vr w l cs p)).2.2.1 = j_ w h' l (p % w) (p / w) false (vr w l cs p):=by
    unfold zry
    rw [a1,a2]; simp only [Int.toNat_natCast]
   have k:=zv_ hf.1 t2
   have k2:=z4v hf.1 t2
   obtain ⟨w'',h'',e1,e2,_,_,_,_,hl2,_⟩:=qn.1 k
   rw [d0] at k e1 e2 hl2 ⊢
   simp only at e1 e2 hl2 ⊢
   have e1' : (zry w h' l x y false (vr w l cs p)).1 = w:=rfl
   have e2' : (zry w h' l x y false (vr w l cs p)).2.1 = h':=rfl
   obtain rfl : w = w'':=by omega
   obtain rfl : h' = h'':=by omega
   rw [dl] at hl2 ⊢
   refine .inr ⟨trivial,t2,trivial,⟨k,hf.2.1,hf.2.2.1,rfl,rfl⟩,by omega,rfl,rfl,t4,.inr ⟨ha',hlt,t1,t3,t5,fun z i hi => ?_,fun z i hi => ?_⟩⟩
   ·rcases Nat.lt_or_ge i p with q | q
    ·exact t4 i (h2 i (by omega))
    ·exact t6 z i q (by rw [g4]; exact hi)
   ·rcases Nat.lt_or_ge i p with q | q
    ·exact t4 i (h2 i (by omega))
    ·exact t7 z i q hi
noncomputable def atW (b : Bel) (t : Tm) : Nat:=if zfj b (zms b t) (zmr b t) = true then 0 else 1
noncomputable def zy3 (b : Bel) (t : Tm) : Nat:=(b.2.1.toNat - v7 b t / b.1.toNat) + (if zhv b t = 0 then 0 else 2)
theorem zqr {b : Bel} {t : Tm} (hf : qz b t) (h0 : (zu b t).2 ≠ 7) :
  2 * zhv (doB b (zu b t).1).1 t + atW (doB b (zu b t).1).1 t + 1 ≤ 2 * zhv b t + atW b t ∧ 12 * zhv (doB b (zu b t).1).1 t + 8 * atW (doB b (zu b t).1).1 t + jb (zu b t).1 ≤ 12 * zhv b t + 8 * atW b t ∧ zy3 (doB b (zu b t).1).1 t + zcl (zu b t).1 ≤ zy3 b t:=by
 rcases za8 hf with ⟨_,_,e⟩ | ⟨s1,s2,s3,s4,s5,s6,s7,s8,⟨q1,q2,q3,q4,q5,q6,q7⟩ | ⟨q1,q2,q3,q4,q5,q6,q7⟩⟩
 ·exact absurd (by rw [e]) h0
 ·have c : zhv (doB b (zu b t).1).1 t = zhv b t:=by rw [q2]; rfl
  have f : v7 (doB b (zu b t).1).1 t = v7 b t:=by rw [q2]; rfl
  have a : atW (doB b (zu b t).1).1 t = 0:=by
   unfold atW
   rw [if_pos]
   rw [q2]
   exact zjw.2 ⟨rfl,rfl,rfl,rfl⟩
  have a2 : atW b t = 1:=by unfold atW; rw [if_neg (by rw [q1]; decide)]
  unfold zy3
  rw [c,f,a,a2,s6,s7]
  omega
 ·generalize hd : (doB b (zu b t).1).1 = d at *
  have a2 : atW b t = 0:=by unfold atW; rw [if_pos q1]
  have a1 : atW d t ≤ 1:=by unfold atW; split <;> omega
  have c : zhv d t < zhv b t:=by
   unfold zhv
   rw [s5]
   refine z42 (j:=v7 b t) (fun i _ _ h => ?_) (Nat.zero_le _) (by omega) ((w7 b t).2.2 q2) q5
   cases e : wrP b.2.2.1 t.2.2.1 i with
   |true=>rfl
   |false=>rw [s8 i e] at h; cases h
  obtain ⟨f1,f2,f3⟩:=w7 d t
  obtain ⟨w,h',l,x,y,bb,s,cs,X,Y,rfl,rfl,w2,_,_,_,hl,hcl,hk,hX,hY⟩:=uw hf
  obtain ⟨b1,b2,b3⟩:=w7 ((w : Int),(h' : Int),l,x,y,bb,s) ((w : Int),(h' : Int),cs,X,Y,false)
  have low : ∀ n,n ≤ l.length → (∀ j,j < n → wrP d.2.2.1 cs j = false) → n ≤ v7 d ((w : Int),(h' : Int),cs,X,Y,false):=fun n hn h=>by
   rcases Nat.lt_or_ge (v7 d ((w : Int),(h' : Int),cs,X,Y,false)) n with z | z
   ·have:=f3 (by rw [s5]; simp only; omega)
    rw [show wrP d.2.2.1 ((w : Int),(h' : Int),cs,X,Y,false).2.2.1 _ = false from h _ z] at this; cases this
   ·exact z
  have mono:=low (v7 ((w : Int),(h' : Int),l,x,y,bb,s) ((w : Int),(h' : Int),cs,X,Y,false)) b1 fun j hj=>s8 j (b2 j hj)
  refine ⟨by omega,by omega, ?_⟩
  unfold zy3
  rw [s6,s7,if_neg (show ¬ zhv ((w : Int),(h' : Int),l,x,y,bb,s) ((w : Int),(h' : Int),cs,X,Y,false) = 0 by omega)]
  simp only [Int.toNat_natCast] at q6 q7 ⊢
  have dv:=Nat.div_le_div_right (c:=w) mono
  have hq : v7 ((w : Int),(h' : Int),l,x,y,bb,s) ((w : Int),(h' : Int),cs,X,Y,false) / w < h':=(Nat.div_lt_iff_lt_mul (by omega)).2 (by rw [Nat.mul_comm]; simp only at q2; omega)
  have e2 : (if zhv d ((w : Int),(h' : Int),cs,X,Y,false) = 0 then 0 else 2) ≤ 2:=by split <;> omega
  have pd : ∀ c : Cmd,zcl c ≤ (if c.1 = 7 then 1 else if c.1 = 8 then 2 else 0):=fun c=>by unfold zcl; split <;> omega
  have pd':=pd (zu ((w : Int),(h' : Int),l,x,y,bb,s) ((w : Int),(h' : Int),cs,X,Y,false)).1
  rcases q3 with z | z | z
  ·rw [z,if_neg (by decide),if_neg (by decide)] at pd'
   omega
  ·rw [z,if_pos rfl] at pd'
   have k : w * (v7 ((w : Int),(h' : Int),l,x,y,bb,s) ((w : Int),(h' : Int),cs,X,Y,false) / w + 1) ≤ w * h':=Nat.mul_le_mul_left w hq
   have g:=low _ (by omega) (q6 z)
   have g2:=(Nat.le_div_iff_mul_le (show 0 < w by omega)).2 (by rw [Nat.mul_comm]; exact g)
   omega
  ·rw [z,if_neg (by decide),if_pos rfl] at pd'
   have g : zhv d ((w : Int),(h' : Int),cs,X,Y,false) = 0:=zl8 fun i _ hi=>q7 z i (by rw [s5] at hi; simp only at hi ⊢; omega)
   rw [if_pos g]
   omega
theorem zgp (b : Bel) (t : Tm) : zhv b t ≤ b.2.2.1.length ∧ atW b t ≤ 1 ∧ zy3 b t ≤ b.2.1.toNat + 2:=by
 refine ⟨zhk _ _ _,by unfold atW; split <;> omega, ?_⟩
 unfold zy3
 have : (if zhv b t = 0 then 0 else 2) ≤ 2:=by split <;> omega
 generalize v7 b t / b.1.toNat = q
 omega
theorem z_y {l m : List zj} (h : l.length = m.length) (h2 : ∀ i,i < l.length → gAt l i = gAt m i) : l = m:=by
 refine List.ext_getElem h fun i h3 h4 => ?_
 have:=h2 i h3
 unfold gAt at this
 rw [List.getElem?_eq_getElem h3,List.getElem?_eq_getElem h4] at this
 exact this
theorem ztr {b : Bel} {t : Tm} (hf : qz b t) (h1 : v7 b t = b.2.2.1.length) (h2 : zfj b t.2.2.2.1 t.2.2.2.2.1 = true) : b = (ofB t).1:=by
 obtain ⟨_,f2,_⟩:=w7 b t
 have ho : (ofB t).1 = (t.1,t.2.1,ofL t.2.2.1,t.2.2.2.1,t.2.2.2.2.1,t.2.2.2.2.2,true):=by rw [ofB,if_pos hf.2.1]
 obtain ⟨w,h',l,x,y,bb,s,cs,X,Y,rfl,rfl,w2,_,_,_,hl,hcl,hk,hX,hY⟩:=uw hf
 rw [h1] at f2
 obtain ⟨rfl,rfl,rfl,rfl⟩:=zjw.1 h2
 have e : l = ofL cs:=z_y (by rw [zdx]; omega) fun i hi=>by
  rw [zar (by omega)]
  have:=f2 i hi
  simpa [wrP] using this
 rw [ho,e]
theorem zqs {b : Bel} {u t : Tm} (hf : qz b t) (h1 : v7 b t = b.2.2.1.length) (h2 : zfj b t.2.2.2.1 t.2.2.2.2.1 = true) (ha : zkw b u) : u = t:=by
 rw [ztr hf h1 h2] at ha
 exact ((z6x hf.2.1).1 ha).symm
end Go.Proofs.YtgfmjmfphmjdkaaGreatDoor
namespace Go.Proofs.YtgfmjmfphmjdkaaGreatDoor
set_option maxHeartbeats 4000000
open Go Go.RowKit
set_option maxRecDepth 100000
theorem ziw {p q : Nat → Bool} {a b : Nat} : ∀ {n : Nat},(∀ i,i < n → p (a + i) = q (b + i)) → yl p a n = yl q b n
 |0,_=>rfl
 |n + 1,h=>by
  have h1:=ziw (n:=n) fun i hi=>h i (by omega)
  unfold yl
  rw [h1,h n (by omega)]
theorem z3y {l : List zj} {a n i : Nat} (hi : i < n) : gAt ((l.drop a).take n) i = gAt l (a + i):=by
 unfold gAt; rw [List.getElem?_take_of_lt hi,List.getElem?_drop]
theorem zn1 {l : List zp} {a n i : Nat} (hi : i < n) : cAt ((l.drop a).take n) i = cAt l (a + i):=by
 unfold cAt; rw [List.getElem?_take_of_lt hi,List.getElem?_drop]
theorem zwh {l : List zj} {cs : List zp} {a n m : Nat} (h : n ≤ m) : yl (wrP ((l.drop a).take n) ((cs.drop a).take m)) 0 n = yl (wrP l cs) a n :=
 ziw fun i hi=>by unfold wrP; rw [Nat.zero_add,z3y hi,zn1 (by omega)]
theorem z44 {cs : List zp} {a n : Nat} : zp4 ((cs.drop a).take n) 0 n = zp4 cs a n:=by
 rw [Bool.eq_iff_iff,zbk,zbk]
 constructor
 ·intro h i h1 h2
  have:=h (i - a) (Nat.zero_le _) (by omega)
  rwa [zn1 (by omega),show a + (i - a) = i by omega] at this
 ·intro h i _ h2
  rw [zn1 (by omega)]; exact h _ (by omega) (by omega)
theorem z41 {l : List zj} {cs : List zp} {a : Nat} : yl (wrP l cs) a 1 = 0 ↔ wrP l cs a = false:=by
 show 0 + (if wrP l cs (a + 0) then 1 else 0) = 0 ↔ _
 rw [Nat.add_zero]
 cases wrP l cs a <;> simp
theorem z0x {p : Nat → Bool} {a n : Nat} : yl p a (n + 1) = yl p a n + (if p (a + n) then 1 else 0):=rfl
theorem zu1 {b : Bel} {t : Tm} {k : Nat} (h1 : k < b.2.2.1.length) (h2 : ∀ j,j < k → wrP b.2.2.1 t.2.2.1 j = false) (h3 : wrP b.2.2.1 t.2.2.1 k = true) : v7 b t = k:=zlt (by omega) h2 fun _=>h3
theorem zz2 {b : Bel} {t : Tm} (h2 : ∀ j,j < b.2.2.1.length → wrP b.2.2.1 t.2.2.1 j = false) : v7 b t = b.2.2.1.length:=zlt (Nat.le_refl _) h2 fun h=>absurd h (by omega)
theorem zqz {b : Bel} {X Y : Int} (h1 : ub b = true) (hX : 0 ≤ X ∧ X < b.1) (hY : 0 ≤ Y ∧ Y < b.2.1) : (zfj b X Y = true ∧ xc b X Y = ((0,0,0,0),7)) ∨ (zfj b X Y = false ∧ (xc b X Y).2 = 0):=by
 cases h : zfj b X Y with
 |true=>exact .inl ⟨rfl,zgm h1 hX hY h⟩
 |false=>exact .inr ⟨rfl,zgl h1 hX hY h⟩
theorem zz3 {w h : Int} {l : List zj} {x y : Int} {b s : Bool} {tw th : Int} {tl : List zp} {tx ty : Int} {tb : Bool} : decide (qz (w,h,l,x,y,b,s) (tw,th,tl,tx,ty,tb)) = (yx w h l x y b s && okT tw th tl tx ty tb && !tb && decide (w = tw) && decide (h = th)):=by
 rw [Bool.eq_iff_iff,decide_eq_true_eq]
 simp only [Bool.and_eq_true,decide_eq_true_eq,Bool.not_eq_true',and_assoc]
 exact Iff.rfl
end Go.Proofs.YtgfmjmfphmjdkaaGreatDoor
namespace Go.Proofs.YtgfmjmfphmjdkaaGreatDoor
set_option maxHeartbeats 4000000
open Go Go.RowKit
set_option maxRecDepth 100000
def zz6 (b : Bel) (t : Tm) : Int × Bool:=if v7 b t = b.2.2.1.length then (0,false) else ((zbu b t : Nat),true)
def zpi (b : Bel) (t : Tm) : Bool:=zey b && z6u t.1 t.2.1 t.2.2.1 t.2.2.2.1 t.2.2.2.2.1 t.2.2.2.2.2 && !t.2.2.2.2.2 && decide (b.1 = t.1) && decide (b.2.1 = t.2.1)
theorem zj1 {b : Bel} {t : Tm} : qz b t ↔ zpi b t = true:=by
 unfold qz zpi ub zey yt
 rw [zii,z3m]
 simp only [Bool.and_eq_true,decide_eq_true_eq,Bool.not_eq_true',and_assoc]
def zjq (b : Bel) (X Y : Int) : Cmd × Int :=
 if ¬ (zey b = true ∧ 0 ≤ X ∧ X < b.1 ∧ 0 ≤ Y ∧ Y < b.2.1) then ((0,0,0,0),1)
 else if b.2.2.2.2.2.2 = false then (goC X Y,0)
 else if b.2.2.2.1 = X ∧ b.2.2.2.2.1 = Y ∧ b.2.2.2.2.2.1 = false then ((0,0,0,0),7)
 else (ya (vx b.2.1 b.2.2.2.1 b.2.2.2.2.1 X Y) (goC X Y),0)
theorem zo5 (b : Bel) (X Y : Int) : xc b X Y = zjq b X Y:=by unfold xc zjq ub zey; rw [zii]
def zgk (b : Bel) (t : Tm) : Cmd × Int :=
 if zpi b t = true then
  if v7 b t = b.2.2.1.length then zjq b t.2.2.2.1 t.2.2.2.2.1
  else if zfj b (zbu b t % b.1.toNat : Nat) (zbu b t / b.1.toNat : Nat) = false then zjq b (zbu b t % b.1.toNat : Nat) (zbu b t / b.1.toNat : Nat)
  else (vr b.1.toNat b.2.2.1 t.2.2.1 (zbu b t),0)
 else ((0,0,0,0),1)
theorem z3u (b : Bel) (t : Tm) : zu b t = zgk b t:=by
 unfold zu zgk
 by_cases h : qz b t
 ·rw [if_pos h,if_pos (zj1.1 h),zo5,zo5]
 ·rw [if_neg h,if_neg (fun z=>h (zj1.2 z))]
theorem zzc {b : Bel} {t : Tm} (h : ¬ qz b t) : zu b t = ((0,0,0,0),1):=by unfold zu; rw [if_neg h]
theorem zt7 {b : Bel} {t : Tm} (hf : qz b t) (h : v7 b t = b.2.2.1.length) : zu b t = xc b t.2.2.2.1 t.2.2.2.2.1:=by unfold zu; rw [if_pos hf,if_pos h]
theorem zt6 {b : Bel} {t : Tm} (hf : qz b t) (h : v7 b t ≠ b.2.2.1.length) : zu b t = if zfj b (zbu b t % b.1.toNat : Nat) (zbu b t / b.1.toNat : Nat) = false then xc b (zbu b t % b.1.toNat : Nat) (zbu b t / b.1.toNat : Nat) else (vr b.1.toNat b.2.2.1 t.2.2.1 (zbu b t),0):=by unfold zu; rw [if_pos hf,if_neg h]
theorem zkz {b : Bel} {t : Tm} (hf : qz b t) : zd9 b t = (((zhv b t : Nat) : Int),0):=by unfold zd9; rw [if_pos hf]; rfl
theorem zk0 {b : Bel} {t : Tm} (hf : ¬ qz b t) : zd9 b t = (0,1):=by unfold zd9; rw [if_neg hf]
theorem zc0 {b : Bel} {t : Tm} (hf : qz b t) : b.2.2.1.length = t.2.2.1.length ∧ b.2.2.1.length ≤ 1920:=by
 obtain ⟨w,h',l,x,y,bb,s,cs,X,Y,rfl,rfl,w2,w3,w4,w5,hl,hcl,hk,hX,hY⟩:=uw hf
 have:=yg w3 w5
 simp only
 omega
theorem z6q {b : Bel} {t : Tm} : zbu b t ≤ v7 b t:=by unfold zbu; split <;> omega
end Go.Proofs.YtgfmjmfphmjdkaaGreatDoor
