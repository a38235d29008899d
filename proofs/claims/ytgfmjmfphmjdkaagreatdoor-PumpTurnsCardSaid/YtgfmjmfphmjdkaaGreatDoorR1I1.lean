/- Layer 29 (paint), plainly: what is wrong, what is told next, and what comes of it. No condition. -/
import Derived.Test.YtgfmjmfphmjdkaaGreatDoorR1H1
import Derived.Test.YtgfmjmfphmjdkaaGreatDoorR1B1
set_option linter.unusedSimpArgs false
set_option linter.unusedVariables false
set_option linter.unusedSectionVars false
namespace Go.Proofs.YtgfmjmfphmjdkaaGreatDoor
set_option maxHeartbeats 4000000
open Go Go.RowKit
set_option maxRecDepth 100000
def ww (p : Nat → Bool) (a : Nat) : Nat → Nat
 |0=>0
 |n + 1=>ww p a n + (if p (a + n) then 1 else 0)
def zud (p : Nat → Bool) : Nat → Nat → Nat
 |0,i=>i
 |k + 1,i=>if p i then i else zud p k (i + 1)
theorem zg2 (p : Nat → Bool) : ∀ k i,i ≤ zud p k i ∧ zud p k i ≤ i + k ∧ (∀ j,i ≤ j → j < zud p k i → p j = false) ∧ (zud p k i < i + k → p (zud p k i) = true)
 |0,i=>⟨Nat.le_refl _,Nat.le_refl _,fun j a b=>absurd b (by unfold zud; omega),fun a=>absurd a (by unfold zud; omega)⟩
 |k + 1,i=>by
  unfold zud
  cases hp : p i with
  |true=>exact ⟨by simp,by simp,fun j a b=>absurd b (by simp; omega),fun _=>by simpa using hp⟩
  |false =>
   obtain ⟨a,b,c,d⟩:=zg2 p k (i + 1)
   simp only [Bool.false_eq_true,if_false]
   refine ⟨by omega,by omega,fun j h1 h2 => ?_,fun h=>d (by omega)⟩
   rcases Nat.lt_or_ge i j with h | h
   ·exact c j h h2
   ·rw [show j = i by omega]; exact hp
theorem zl6 {p : Nat → Bool} {k F : Nat} (h1 : F ≤ k) (h2 : ∀ j,j < F → p j = false) (h3 : F < k → p F = true) : zud p k 0 = F:=by
 obtain ⟨a,b,c,d⟩:=zg2 p k 0
 rcases Nat.lt_trichotomy (zud p k 0) F with h | h | h
 ·have:=d (by omega); rw [h2 _ h] at this; cases this
 ·exact h
 ·have:=c F (Nat.zero_le _) h; rw [h3 (by omega)] at this; cases this
theorem zdb (p : Nat → Bool) (a m : Nat) : ∀ n,ww p a (m + n) = ww p a m + ww p (a + m) n
 |0=>rfl
 |n + 1=>by
  show ww p a (m + n) + (if p (a + (m + n)) then 1 else 0) = ww p a m + (ww p (a + m) n + (if p (a + m + n) then 1 else 0))
  rw [zdb p a m n,show a + (m + n) = a + m + n by omega]; omega
theorem zar (p : Nat → Bool) (a : Nat) : ∀ n,ww p a n ≤ n
 |0=>Nat.le_refl _
 |n + 1=>by
  have:=zar p a n
  unfold ww; split <;> omega
theorem zmq {p : Nat → Bool} {a : Nat} : ∀ {n : Nat},(∀ i,a ≤ i → i < a + n → p i = false) → ww p a n = 0
 |0,_=>rfl
 |n + 1,h=>by
  unfold ww
  rw [zmq fun i h1 h2=>h i h1 (by omega),h (a + n) (by omega) (by omega)]; rfl
theorem zhp {p q : Nat → Bool} {a : Nat} : ∀ {n : Nat},(∀ i,a ≤ i → i < a + n → q i = true → p i = true) → ww q a n ≤ ww p a n
 |0,_=>Nat.le_refl _
 |n + 1,h=>by
  have h1:=zhp (n:=n) fun i a b=>h i a (by omega)
  have h2:=h (a + n) (by omega) (by omega)
  unfold ww
  cases e : q (a + n) with
  |false=>simp; omega
  |true=>rw [h2 e]; simp; omega
theorem z6e {p q : Nat → Bool} {a n j : Nat} (h : ∀ i,a ≤ i → i < a + n → q i = true → p i = true) (h1 : a ≤ j) (h2 : j < a + n) (h3 : p j = true) (h4 : q j = false) : ww q a n < ww p a n:=by
 have e : n = (j - a) + (1 + (n - (j - a) - 1)):=by omega
 rw [e,zdb,zdb,zdb,zdb]
 have m1:=zhp (p:=p) (q:=q) (a:=a) (n:=j - a) fun i x y=>h i x (by omega)
 have m2:=zhp (p:=p) (q:=q) (a:=a + (j - a) + 1) (n:=n - (j - a) - 1) fun i x y=>h i (by omega) (by omega)
 have o1 : ww q (a + (j - a)) 1 = 0:=by unfold ww ww; rw [show a + (j - a) + 0 = j by omega,h4]; rfl
 have o2 : ww p (a + (j - a)) 1 = 1:=by unfold ww ww; rw [show a + (j - a) + 0 = j by omega,h3]; rfl
 omega
def wrP (l : List zi) (cs : List zp) (i : Nat) : Bool:=decide (gAt l i ≠ (cAt cs i,true))
def zkv (cs : List zp) (a n : Nat) : Bool:=(List.range n).all fun i=>decide (cAt cs (a + i) = (32,0))
theorem yr {cs : List zp} {a n : Nat} : zkv cs a n = true ↔ ∀ i,a ≤ i → i < a + n → cAt cs i = (32,0):=by
 simp only [zkv,List.all_eq_true,List.mem_range,decide_eq_true_eq]
 exact ⟨fun h i h1 h2=>by have:=h (i - a) (by omega); rwa [show a + (i - a) = i by omega] at this,fun h i hi=>h _ (by omega) (by omega)⟩
def q9 (b : Bel) (t : Tm) : Prop:=yv b = true ∧ znb t = true ∧ t.2.2.2.2.2 = false ∧ b.1 = t.1 ∧ b.2.1 = t.2.1
noncomputable instance (b : Bel) (t : Tm) : Decidable (q9 b t):=Classical.propDecidable _
noncomputable def uy (b : Bel) (t : Tm) : Int × Int:=if q9 b t then ((ww (wrP b.2.2.1 t.2.2.1) 0 b.2.2.1.length : Nat),0) else (0,1)
def vm (b : Bel) (t : Tm) : Nat:=zud (wrP b.2.2.1 t.2.2.1) b.2.2.1.length 0
def za3 (b : Bel) (t : Tm) : Nat:=if (cAt t.2.2.1 (vm b t)).2 = 2 then vm b t - 1 else vm b t
def vw (w : Nat) (l : List zi) (cs : List zp) (p : Nat) : Cmd :=
 if zkv cs p (l.length - p) = true ∧ 8 ≤ ww (wrP l cs) p (l.length - p) then (8,0,0,0)
 else if zkv cs p (w - p % w) = true ∧ 4 ≤ ww (wrP l cs) p (w - p % w) then (7,0,0,0)
 else (1,0,0,(cAt cs p).1)
noncomputable def zy (b : Bel) (t : Tm) : Cmd × Int :=
 if q9 b t then
  if vm b t = b.2.2.1.length then qq b t.2.2.2.1 t.2.2.2.2.1
  else if zbx b (za3 b t % b.1.toNat : Nat) (za3 b t / b.1.toNat : Nat) = false then qq b (za3 b t % b.1.toNat : Nat) (za3 b t / b.1.toNat : Nat)
  else (vw b.1.toNat b.2.2.1 t.2.2.1 (za3 b t),0)
 else ((0,0,0,0),1)
theorem z72 {w h : Nat} {cs : List zp} {X Y : Int} {b : Bool} (h1 : okT w h cs X Y b = true) : GOk w (ofL cs) ∧ cs.length = w * h:=by
 have h2 : znb ((w : Int),(h : Int),cs,X,Y,b) = true:=h1
 have h3:=z_8 h2
 rw [ofB,if_pos h2] at h3
 obtain ⟨w',h',e1,e2,_,_,_,_,hl,hk,_⟩:=qn.1 h3
 simp only at e1 e2
 obtain rfl : w = w':=by omega
 obtain rfl : h = h':=by omega
 rw [zn0] at hl
 exact ⟨hk,hl⟩
theorem z0j {w h p : Nat} (h1 : p < w * h) (h2 : p % w < w - 1) : p + 1 < w * h:=by
 have hw : 0 < w:=by omega
 have e:=Nat.div_add_mod p w
 have hq : p / w < h:=(Nat.div_lt_iff_lt_mul hw).2 (by rw [Nat.mul_comm]; exact h1)
 have : w * (p / w + 1) ≤ w * h:=Nat.mul_le_mul_left w hq
 rw [Nat.mul_add] at this
 omega
theorem zns {w h p : Nat} (hw : 0 < w) (h1 : p < w * h) : p + (w - p % w) ≤ w * h ∧ (p + (w - p % w)) % w = 0 ∧ p + (w - p % w) = w * (p / w + 1):=by
 have e:=Nat.div_add_mod p w
 have hm:=Nat.mod_lt p hw
 have hq : p / w < h:=(Nat.div_lt_iff_lt_mul hw).2 (by rw [Nat.mul_comm]; exact h1)
 have k : w * (p / w + 1) ≤ w * h:=Nat.mul_le_mul_left w hq
 have k2 : p + (w - p % w) = w * (p / w + 1):=by rw [Nat.mul_add]; omega
 exact ⟨by omega,by rw [k2,Nat.mul_mod_right],k2⟩
theorem zb3 {w : Nat} {cs : List zp} (hk : GOk w (ofL cs)) {i : Nat} (hi : i < cs.length) : xo (cAt cs i) = true ∧ ((cAt cs i).2 = 1 → i % w < w - 1 ∧ (i + 1 < cs.length → cAt cs (i + 1) = ((cAt cs i).1,2))) ∧ ((cAt cs i).2 = 2 → 0 < i % w ∧ cAt cs (i - 1) = ((cAt cs i).1,1)):=by
 have e:=zek hi
 refine ⟨?_,fun h => ?_,fun h => ?_⟩
 ·have:=hk.cell (i:=i) (by rw [e]); rwa [e] at this
 ·have:=hk.left (i:=i) (by rw [e]; exact h)
  refine ⟨this.1,fun h2 => ?_⟩
  have k:=this.2 (by rw [zek h2])
  rw [zek h2,e] at k
  exact congrArg Prod.fst k
 ·have:=hk.right (i:=i) (by rw [e]; exact h)
  refine ⟨this.1, ?_⟩
  have k:=this.2 (by rw [zek (by omega)])
  rw [zek (by omega),e] at k
  exact congrArg Prod.fst k
theorem zgv {w : Nat} {l : List zi} {cs ds : List zp} {p : Nat} (hk : GOk w (ofL cs)) (hl : cs.length = l.length) (hp : p + ds.length ≤ l.length) (h2 : 0 < (p + ds.length) % w → p + ds.length < l.length) (hd : 1 ≤ ds.length) (hc : ∀ j,j < ds.length → cAt cs (p + j) = cAt ds j) (hf : (cAt cs p).2 ≠ 2) (hlast : (cAt cs (p + ds.length - 1)).2 ≠ 1) :
  (∀ i,wrP l cs i = false → wrP (wq w l p ds) cs i = false) ∧ (∀ i,p ≤ i → i < p + ds.length → wrP (wq w l p ds) cs i = false):=by
 have mid : ∀ i,p ≤ i → i < p + ds.length → wrP (wq w l p ds) cs i = false:=fun i a b=>by
  unfold wrP
  rw [zgw hp h2,if_neg (by omega),if_pos b,← hc (i - p) (by omega),show p + (i - p) = i by omega]
  simp
 refine ⟨fun i h => ?_,mid⟩
 have hi : gAt l i = (cAt cs i,true):=by simpa [wrP] using h
 have keep : ∀ g,gAt (wq w l p ds) i = g → g = gAt l i → wrP (wq w l p ds) cs i = false:=fun g e1 e2=>by
  unfold wrP; rw [e1,e2,hi]; simp
 rcases Nat.lt_or_ge i p with a | a
 ·refine keep _ (zgw hp h2 i) ?_
  rw [if_pos a,if_neg]
  rintro ⟨q1,q2,q3⟩
  rw [hi] at q3
  have:=((zb3 hk (i:=i) (by omega)).2.1 q3).2 (by omega)
  rw [q1] at this
  rw [this] at hf
  exact hf rfl
 ·rcases Nat.lt_or_ge i (p + ds.length) with b | b
  ·exact mid i a b
  ·refine keep _ (zgw hp h2 i) ?_
   rw [if_neg (by omega),if_neg (by omega),if_neg]
   rintro ⟨q1,q2,q3⟩
   rw [hi] at q3
   have:=((zb3 hk (i:=i) (by have:=h2 q2; omega)).2.2 q3).2
   rw [q1] at this
   rw [this] at hlast
   exact hlast rfl
end Go.Proofs.YtgfmjmfphmjdkaaGreatDoor
namespace Go.Proofs.YtgfmjmfphmjdkaaGreatDoor
set_option maxHeartbeats 4000000
open Go Go.RowKit
set_option maxRecDepth 100000
theorem zv1 {r : Int} (h : xq r = true) : xk (1,0,0,r) ≤ 4:=by
 have hc : z9 (1,0,0,r) = true:=by simp [z9,h]
 have hg : isG r = true:=by simp only [xq,Bool.and_eq_true] at h; exact h.1.1
 unfold xk xm
 rw [if_pos hc]
 show (z1u r).length ≤ 4
 rw [zhj hg]
 unfold zkn
 (repeat' split) <;> simp
theorem zgt {b : Bel} {X Y : Int} (h1 : yv b = true) (hX : 0 ≤ X ∧ X < b.1) (hY : 0 ≤ Y ∧ Y < b.2.1) (hn : zbx b X Y = false) : (qq b X Y).2 = 0:=by
 obtain ⟨w,h,l,x,y,bb,s⟩:=b
 unfold qq
 rw [if_neg (fun z=>z ⟨h1,hX.1,hX.2,hY.1,hY.2⟩)]
 cases s with
 |false=>rw [if_pos rfl]
 |true =>
  rw [if_neg (fun z=>absurd (show true = false from z) (by decide)),if_neg]
  rintro ⟨rfl,rfl,rfl⟩
  simp [zbx] at hn
theorem zvu {b : Bel} {X Y : Int} (h : (qq b X Y).2 = 0) : (qq b X Y).1.1 ≠ 1 ∧ (qq b X Y).1.1 ≠ 7 ∧ (qq b X Y).1.1 ≠ 8:=by
 obtain ⟨h1,hX,hY,hh⟩:=zlx h
 obtain ⟨w',h',e1,e2,w2,w3,w4,w5,_⟩:=qn.1 h1
 have hX' : 0 ≤ X ∧ X ≤ 79:=by omega
 have hY' : 0 ≤ Y ∧ Y ≤ 23:=by omega
 rcases hh with ⟨_,e⟩ | ⟨_,H,e⟩
 ·rw [e]
  obtain ⟨_,_,_,_,a,b',c⟩:=zcw (h:=b.2.1) (y:=0) hX' hY' (.inl rfl)
  exact ⟨a,b',c⟩
 ·rw [e]
  obtain ⟨_,_,_,_,a,b',c⟩:=zcw hX' hY' H.best.2.1
  exact ⟨a,b',c⟩
theorem yo {b : Bel} {t : Tm} (hf : q9 b t) : ∃ (w h : Nat) (l : List zi) (x y : Int) (bb s : Bool) (cs : List zp) (X Y : Int),b = ((w : Int),(h : Int),l,x,y,bb,s) ∧ t = ((w : Int),(h : Int),cs,X,Y,false) ∧ 2 ≤ w ∧ w ≤ 80 ∧ 1 ≤ h ∧ h ≤ 24 ∧ l.length = w * h ∧ cs.length = w * h ∧ GOk w (ofL cs) ∧ (0 ≤ X ∧ X < w) ∧ (0 ≤ Y ∧ Y < h):=by
 obtain ⟨bw,bh,l,x,y,bb,s⟩:=b
 obtain ⟨tw,th,cs,X,Y,tb⟩:=t
 obtain ⟨h1,h2,h3,h4,h5⟩:=hf
 simp only at h3 h4 h5
 subst h3 h4 h5
 obtain ⟨w,h,e1,e2,w2,w3,w4,w5,hl,hk,_⟩:=qn.1 h1
 simp only at e1 e2
 subst e1 e2
 obtain ⟨g1,g2⟩:=z72 h2
 obtain ⟨_,q,_⟩:=xe.1 h2
 exact ⟨w,h,l,x,y,bb,s,cs,X,Y,rfl,rfl,w2,w3,w4,w5,hl,g2,g1,⟨q.1,q.2.1⟩,q.2.2⟩
theorem zut {w h : Nat} {l : List zi} {cs : List zp} {F p : Nat} (hw : 2 ≤ w) (hl : l.length = w * h) (hcl : cs.length = w * h) (hk : GOk w (ofL cs)) (hF : F < l.length) (hw1 : wrP l cs F = true) (hp : p = if (cAt cs F).2 = 2 then F - 1 else F) :
  ((vw w l cs p).1 = 1 ∨ (vw w l cs p).1 = 7 ∨ (vw w l cs p).1 = 8) ∧ z9 (vw w l cs p) = true ∧ xk (vw w l cs p) ≤ 4 ∧ (∀ i,wrP l cs i = false → wrP (kp w h l (p % w) (p / w) false (vw w l cs p)) cs i = false) ∧ wrP (kp w h l (p % w) (p / w) false (vw w l cs p)) cs F = false ∧
  ((vw w l cs p).1 = 7 → ∀ i,p ≤ i → i < w * (p / w + 1) → wrP (kp w h l (p % w) (p / w) false (vw w l cs p)) cs i = false) ∧ ((vw w l cs p).1 = 8 → ∀ i,p ≤ i → i < l.length → wrP (kp w h l (p % w) (p / w) false (vw w l cs p)) cs i = false):=by
 have hp2 : (cAt cs p).2 ≠ 2 ∧ p ≤ F ∧ (F = p ∨ (F = p + 1 ∧ (cAt cs p).2 = 1)):=by
  by_cases q : (cAt cs F).2 = 2
  ·rw [if_pos q] at hp
   have:=(zb3 hk (i:=F) (by omega)).2.2 q
   have hF0 : 0 < F:=by
    rcases Nat.eq_zero_or_pos F with z | z
    ·rw [z] at this; simp at this
    ·exact z
   rw [hp,this.2]
   exact ⟨by simp,by omega,.inr ⟨by omega,rfl⟩⟩
  ·rw [if_neg q] at hp
   rw [hp]; exact ⟨q,Nat.le_refl _,.inl rfl⟩
 obtain ⟨k2,pF,kF⟩:=hp2
 have hpn : p < w * h:=by omega
 have hdm : p / w * w + p % w = p:=by rw [Nat.mul_comm]; exact Nat.div_add_mod p w
 obtain ⟨r1,r2,r3⟩:=zns (show 0 < w by omega) hpn
 obtain ⟨c1,c2,c3⟩:=zb3 hk (i:=p) (by omega)
 have hm:=Nat.mod_lt p (show 0 < w by omega)
 by_cases q8 : zkv cs p (l.length - p) = true ∧ 8 ≤ ww (wrP l cs) p (l.length - p)
 ·have et : vw w l cs p = (8,0,0,0):=if_pos q8
  have hb:=yr.1 q8.1
  have ek : kp w h l (p % w) (p / w) false (8,0,0,0) = wq w l p (List.replicate (l.length - p) (32,0)):=by
   unfold kp
   rw [if_neg (by decide),if_neg (by decide),if_pos rfl,hdm]
  obtain ⟨a1,a2⟩:=zgv (l:=l) (ds:=List.replicate (l.length - p) ((32,0) : zp)) hk (by omega) (by simp; omega) (fun z=>by
   exfalso
   simp only [List.length_replicate] at z
   rw [show p + (l.length - p) = w * h by omega,Nat.mul_mod_right] at z
   omega) (by simp; omega) (fun j hj=>by
    simp only [List.length_replicate] at hj
    rw [hb _ (by omega) (by omega)]
    simp [cAt,hj]) k2 (by simp only [List.length_replicate]; rw [hb _ (by omega) (by omega)]; simp)
  simp only [List.length_replicate] at a2
  rw [et,ek]
  exact ⟨.inr (.inr rfl),by decide,by decide,a1,a2 F pF (by omega),fun z=>absurd z (by decide),fun _ i x y=>a2 i x (by omega)⟩
 ·by_cases q7 : zkv cs p (w - p % w) = true ∧ 4 ≤ ww (wrP l cs) p (w - p % w)
  ·have et : vw w l cs p = (7,0,0,0):=by unfold vw; rw [if_neg q8,if_pos q7]
   have hb:=yr.1 q7.1
   have ek : kp w h l (p % w) (p / w) false (7,0,0,0) = wq w l p (List.replicate (w - p % w) (32,0)):=by
    unfold kp
    rw [if_neg (by decide),if_pos rfl,hdm]
   obtain ⟨a1,a2⟩:=zgv (l:=l) (ds:=List.replicate (w - p % w) ((32,0) : zp)) hk (by omega) (by simp; omega) (fun z=>by
    exfalso
    simp only [List.length_replicate] at z
    omega) (by simp; omega) (fun j hj=>by
     simp only [List.length_replicate] at hj
     rw [hb _ (by omega) (by omega)]
     simp [cAt,hj]) k2 (by simp only [List.length_replicate]; rw [hb _ (by omega) (by omega)]; simp)
   simp only [List.length_replicate] at a2
   rw [et,ek]
   refine ⟨.inr (.inl rfl),by decide,by decide,a1,a2 F pF ?_,fun _ i x y=>a2 i x (by omega),fun z=>absurd z (by decide)⟩
   rcases kF with z | ⟨z,z2⟩
   ·omega
   ·have:=(c2 z2).1; omega
  ·have et : vw w l cs p = (1,0,0,(cAt cs p).1):=by unfold vw; rw [if_neg q8,if_neg q7]
   have hs : xq (cAt cs p).1 = true:=by simp only [xo,Bool.and_eq_true] at c1; exact c1.1
   have hlen:=j6 hs
   have hcs : (∀ j,j < (zh (cAt cs p).1).length → cAt cs (p + j) = cAt (zh (cAt cs p).1) j) ∧ (cAt cs (p + (zh (cAt cs p).1).length - 1)).2 ≠ 1 ∧ p + (zh (cAt cs p).1).length ≤ l.length ∧ p % w + (zh (cAt cs p).1).length ≤ w ∧ F < p + (zh (cAt cs p).1).length:=by
    simp only [xo,Bool.and_eq_true] at c1
    rw [kh hs]
    cases hW : isW (cAt cs p).1 with
    |true =>
     rw [hW] at c1
     have e1 : (cAt cs p).2 = 1:=by simpa [k2] using c1.2
     obtain ⟨m1,m2⟩:=c2 e1
     have n1:=z0j hpn m1
     have m3:=m2 (by omega)
     simp only [if_true,List.length_cons,List.length_nil]
     refine ⟨fun j hj => ?_, ?_,by omega,by omega,by rcases kF with z | z <;> omega⟩
     ·rcases (show j = 0 ∨ j = 1 by omega) with rfl | rfl
      ·exact Prod.ext rfl e1
      ·rw [m3]; rfl
     ·rw [show p + (0 + 1 + 1) - 1 = p + 1 by omega,m3]; simp
    |false =>
     rw [hW] at c1
     have e1 : (cAt cs p).2 = 0:=by simpa using c1.2
     simp only [Bool.false_eq_true,if_false,List.length_cons,List.length_nil]
     refine ⟨fun j hj => ?_, ?_,by omega,by omega,by
      rcases kF with z | ⟨z,z2⟩
      ·omega
      ·rw [e1] at z2; cases z2⟩
     ·obtain rfl : j = 0:=by omega
      exact Prod.ext rfl e1
     ·rw [show p + (0 + 1) - 1 = p by omega,e1]; decide
   obtain ⟨s1,s2,s3,s4,s5⟩:=hcs
   have ek : kp w h l (p % w) (p / w) false (1,0,0,(cAt cs p).1) = wq w l p (zh (cAt cs p).1):=by
    unfold kp zgf
    rw [if_pos rfl,if_neg (by rintro (z | z); cases z; simp only at z; omega),hdm]
   obtain ⟨a1,a2⟩:=zgv (l:=l) hk (by omega) s3 (fun z=>by
    rcases Nat.lt_or_ge (p % w + (zh (cAt cs p).1).length) w with y | y
    ·omega
    ·exfalso
     rw [show p + (zh (cAt cs p).1).length = p + (w - p % w) by omega,r2] at z
     omega) hlen.1 s1 k2 s2
   rw [et,ek]
   exact ⟨.inl rfl,by simp [z9,hs],zv1 hs,a1,a2 F pF s5,fun z=>absurd z (show ¬ ((1 : Int) = 7) by decide),fun z=>absurd z (show ¬ ((1 : Int) = 8) by decide)⟩
end Go.Proofs.YtgfmjmfphmjdkaaGreatDoor
namespace Go.Proofs.YtgfmjmfphmjdkaaGreatDoor
set_option maxHeartbeats 4000000
open Go Go.RowKit
set_option maxRecDepth 100000
def zna (b : Bel) (t : Tm) : Int:=if vm b t = b.2.2.1.length then t.2.2.2.1 else (za3 b t % b.1.toNat : Nat)
def zm_ (b : Bel) (t : Tm) : Int:=if vm b t = b.2.2.1.length then t.2.2.2.2.1 else (za3 b t / b.1.toNat : Nat)
def zh4 (b : Bel) (t : Tm) : Nat:=ww (wrP b.2.2.1 t.2.2.1) 0 b.2.2.1.length
theorem yb (b : Bel) (t : Tm) : vm b t ≤ b.2.2.1.length ∧ (∀ j,j < vm b t → wrP b.2.2.1 t.2.2.1 j = false) ∧ (vm b t < b.2.2.1.length → wrP b.2.2.1 t.2.2.1 (vm b t) = true):=by
 obtain ⟨_,a,b',c⟩:=zg2 (wrP b.2.2.1 t.2.2.1) b.2.2.1.length 0
 rw [Nat.zero_add] at a c
 exact ⟨a,fun j h=>b' j (Nat.zero_le _) h,c⟩
theorem z0l {b : Bel} {t : Tm} (hf : q9 b t) : zy b t = if zbx b (zna b t) (zm_ b t) = false then qq b (zna b t) (zm_ b t) else if vm b t = b.2.2.1.length then ((0,0,0,0),7) else (vw b.1.toNat b.2.2.1 t.2.2.1 (za3 b t),0):=by
 unfold zy zna zm_
 rw [if_pos hf]
 by_cases h : vm b t = b.2.2.1.length
 ·simp only [if_pos h]
  by_cases q : zbx b t.2.2.2.1 t.2.2.2.2.1 = false
  ·rw [if_pos q]
  ·rw [if_neg q]
   obtain ⟨w,h',l,x,y,bb,s,cs,X,Y,rfl,rfl,_,_,_,_,_,_,_,hX,hY⟩:=yo hf
   exact zbu hf.1 hX hY (by simpa using q)
 ·simp only [if_neg h]
theorem z7j {b : Bel} {t : Tm} (hf : q9 b t) : (0 ≤ zna b t ∧ zna b t < b.1) ∧ (0 ≤ zm_ b t ∧ zm_ b t < b.2.1) ∧ (vm b t < b.2.2.1.length → za3 b t / b.1.toNat = vm b t / b.1.toNat ∧ za3 b t ≤ vm b t):=by
 obtain ⟨h1,h2,h3⟩:=yb b t
 obtain ⟨w,h',l,x,y,bb,s,cs,X,Y,rfl,rfl,w2,_,_,_,hl,hcl,hk,hX,hY⟩:=yo hf
 simp only at h1 h2 h3 ⊢
 unfold zna zm_
 by_cases h : vm ((w : Int),(h' : Int),l,x,y,bb,s) ((w : Int),(h' : Int),cs,X,Y,false) = l.length
 ·rw [if_pos h,if_pos h]
  exact ⟨hX,hY,fun z=>by omega⟩
 ·rw [if_neg h,if_neg h]
  simp only [Int.toNat_natCast]
  have hlt : za3 ((w : Int),(h' : Int),l,x,y,bb,s) ((w : Int),(h' : Int),cs,X,Y,false) ≤ vm ((w : Int),(h' : Int),l,x,y,bb,s) ((w : Int),(h' : Int),cs,X,Y,false):=by unfold za3; split <;> omega
  have hdv : za3 ((w : Int),(h' : Int),l,x,y,bb,s) ((w : Int),(h' : Int),cs,X,Y,false) / w = vm ((w : Int),(h' : Int),l,x,y,bb,s) ((w : Int),(h' : Int),cs,X,Y,false) / w:=by
   unfold za3
   split
   ·rename_i q
    have q1:=((zb3 hk (i:=vm ((w : Int),(h' : Int),l,x,y,bb,s) ((w : Int),(h' : Int),cs,X,Y,false)) (by omega)).2.2 q).1
    generalize vm ((w : Int),(h' : Int),l,x,y,bb,s) ((w : Int),(h' : Int),cs,X,Y,false) = F at *
    have e:=Nat.div_add_mod F w
    have hm:=Nat.mod_lt F (show 0 < w by omega)
    refine Nat.div_eq_of_lt_le ?_ ?_
    ·rw [Nat.mul_comm]; omega
    ·rw [Nat.mul_comm,Nat.mul_add]; omega
   ·rfl
  generalize za3 ((w : Int),(h' : Int),l,x,y,bb,s) ((w : Int),(h' : Int),cs,X,Y,false) = p at *
  generalize vm ((w : Int),(h' : Int),l,x,y,bb,s) ((w : Int),(h' : Int),cs,X,Y,false) = F at *
  have hm:=Nat.mod_lt p (show 0 < w by omega)
  have hq : p / w < h':=(Nat.div_lt_iff_lt_mul (by omega)).2 (by rw [Nat.mul_comm]; omega)
  exact ⟨⟨Int.natCast_nonneg _,Int.ofNat_lt.2 hm⟩,⟨Int.natCast_nonneg _,Int.ofNat_lt.2 hq⟩,fun _=>⟨hdv,hlt⟩⟩
theorem zdz {b : Bel} {t : Tm} (hf : q9 b t) : (zbx b t.2.2.2.1 t.2.2.2.2.1 = true ∧ vm b t = b.2.2.1.length ∧ zy b t = ((0,0,0,0),7)) ∨
  ((zy b t).2 = 0 ∧ z9 (zy b t).1 = true ∧ (doB b (zy b t).1).2 = 0 ∧ q9 (doB b (zy b t).1).1 t ∧ (doB b (zy b t).1).1.2.2.1.length = b.2.2.1.length ∧ (doB b (zy b t).1).1.1 = b.1 ∧ (doB b (zy b t).1).1.2.1 = b.2.1 ∧ (∀ i,wrP b.2.2.1 t.2.2.1 i = false → wrP (doB b (zy b t).1).1.2.2.1 t.2.2.1 i = false) ∧
    ((zbx b (zna b t) (zm_ b t) = false ∧ (doB b (zy b t).1).1 = (b.1,b.2.1,b.2.2.1,zna b t,zm_ b t,false,true) ∧ xk (zy b t).1 ≤ 8 ∧ zbj (zy b t).1 = 0 ∧ (zy b t).1.1 ≠ 1 ∧ (zy b t).1.1 ≠ 7 ∧ (zy b t).1.1 ≠ 8)
    ∨ (zbx b (zna b t) (zm_ b t) = true ∧ vm b t < b.2.2.1.length ∧ ((zy b t).1.1 = 1 ∨ (zy b t).1.1 = 7 ∨ (zy b t).1.1 = 8) ∧ xk (zy b t).1 ≤ 4 ∧ wrP (doB b (zy b t).1).1.2.2.1 t.2.2.1 (vm b t) = false ∧
      ((zy b t).1.1 = 7 → ∀ i,i < b.1.toNat * (vm b t / b.1.toNat + 1) → wrP (doB b (zy b t).1).1.2.2.1 t.2.2.1 i = false) ∧ ((zy b t).1.1 = 8 → ∀ i,i < b.2.2.1.length → wrP (doB b (zy b t).1).1.2.2.1 t.2.2.1 i = false)))):=by
 obtain ⟨g1,g2,g3⟩:=z7j hf
 obtain ⟨h1,h2,h3⟩:=yb b t
 have e:=z0l hf
 by_cases ha : zbx b (zna b t) (zm_ b t) = false
 ·rw [if_pos ha] at e
  rw [e]
  have z:=zgt hf.1 g1 g2 ha
  obtain ⟨n1,n2,n3,n4,n5,n6⟩:=zsm z
  have k:=z3f hf.1 n1
  refine .inr ⟨z,n1,by rw [n2], ?_,by rw [n2],by rw [n2],by rw [n2],by rw [n2]; exact fun _ q=>q,.inl ⟨ha,by rw [n2],Nat.le_trans n5 (wo _),n4,zvu z⟩⟩
  rw [n2] at k ⊢
  exact ⟨k,hf.2.1,hf.2.2.1,hf.2.2.2.1,hf.2.2.2.2⟩
 ·rw [if_neg ha] at e
  have ha' : zbx b (zna b t) (zm_ b t) = true:=by simpa using ha
  by_cases hn : vm b t = b.2.2.1.length
  ·rw [if_pos hn] at e
   unfold zna zm_ at ha'
   rw [if_pos hn,if_pos hn] at ha'
   exact .inl ⟨ha',hn,e⟩
  ·rw [if_neg hn] at e
   have hlt : vm b t < b.2.2.1.length:=by omega
   obtain ⟨g4,g5⟩:=g3 hlt
   have k3:=h3 hlt
   rw [e]
   simp only
   obtain ⟨w,h',l,x,y,bb,s,cs,X,Y,rfl,rfl,w2,_,_,_,hl,hcl,hk,hX,hY⟩:=yo hf
   have hpd : za3 ((w : Int),(h' : Int),l,x,y,bb,s) ((w : Int),(h' : Int),cs,X,Y,false) = if (cAt cs (vm ((w : Int),(h' : Int),l,x,y,bb,s) ((w : Int),(h' : Int),cs,X,Y,false))).2 = 2 then vm ((w : Int),(h' : Int),l,x,y,bb,s) ((w : Int),(h' : Int),cs,X,Y,false) - 1 else vm ((w : Int),(h' : Int),l,x,y,bb,s) ((w : Int),(h' : Int),cs,X,Y,false):=rfl
   have hat:=zfm.1 ha'
   unfold zna zm_ at hat
   rw [if_neg hn,if_neg hn] at hat
   simp only [Int.toNat_natCast] at hat g4 g5 h1 h2 h3 hlt k3 ⊢
   generalize za3 ((w : Int),(h' : Int),l,x,y,bb,s) ((w : Int),(h' : Int),cs,X,Y,false) = p at *
   generalize vm ((w : Int),(h' : Int),l,x,y,bb,s) ((w : Int),(h' : Int),cs,X,Y,false) = F at *
   obtain ⟨t1,t2,t3,t4,t5,t6,t7⟩:=zut w2 hl hcl hk hlt k3 hpd
   obtain ⟨rfl,a1,a2,rfl⟩:=hat
   have d0:=zkr (c:=vw w l cs p) hf.1 t2 (by rcases t1 with z | z | z <;> rw [z] <;> decide)
   have dl : (znf w h' l x y false (vw w l cs p)).2.2.1 = kp w h' l (p % w) (p / w) false (vw w l cs p):=by
    unfold znf
    rw [a1,a2]; simp only [Int.toNat_natCast]
   have k:=z3f hf.1 t2
   have k2:=zxz hf.1 t2
   obtain ⟨w'',h'',e1,e2,_,_,_,_,hl2,_⟩:=qn.1 k
   rw [d0] at k e1 e2 hl2 ⊢
   simp only at e1 e2 hl2 ⊢
   have e1' : (znf w h' l x y false (vw w l cs p)).1 = w:=rfl
   have e2' : (znf w h' l x y false (vw w l cs p)).2.1 = h':=rfl
   obtain rfl : w = w'':=by omega
   obtain rfl : h' = h'':=by omega
   rw [dl] at hl2 ⊢
   refine .inr ⟨trivial,t2,trivial,⟨k,hf.2.1,hf.2.2.1,rfl,rfl⟩,by omega,rfl,rfl,t4,.inr ⟨ha',hlt,t1,t3,t5,fun z i hi => ?_,fun z i hi => ?_⟩⟩
   ·rcases Nat.lt_or_ge i p with q | q
    ·exact t4 i (h2 i (by omega))
    ·exact t6 z i q (by rw [g4]; exact hi)
   ·rcases Nat.lt_or_ge i p with q | q
    ·exact t4 i (h2 i (by omega))
    ·exact t7 z i q hi
noncomputable def atW (b : Bel) (t : Tm) : Nat:=if zbx b (zna b t) (zm_ b t) = true then 0 else 1
noncomputable def z2r (b : Bel) (t : Tm) : Nat:=(b.2.1.toNat - vm b t / b.1.toNat) + (if zh4 b t = 0 then 0 else 2)
theorem zsi {b : Bel} {t : Tm} (hf : q9 b t) (h0 : (zy b t).2 ≠ 7) :
  2 * zh4 (doB b (zy b t).1).1 t + atW (doB b (zy b t).1).1 t + 1 ≤ 2 * zh4 b t + atW b t ∧ 12 * zh4 (doB b (zy b t).1).1 t + 8 * atW (doB b (zy b t).1).1 t + xk (zy b t).1 ≤ 12 * zh4 b t + 8 * atW b t ∧ z2r (doB b (zy b t).1).1 t + zbj (zy b t).1 ≤ z2r b t:=by
 rcases zdz hf with ⟨_,_,e⟩ | ⟨s1,s2,s3,s4,s5,s6,s7,s8,⟨q1,q2,q3,q4,q5,q6,q7⟩ | ⟨q1,q2,q3,q4,q5,q6,q7⟩⟩
 ·exact absurd (by rw [e]) h0
 ·have c : zh4 (doB b (zy b t).1).1 t = zh4 b t:=by rw [q2]; rfl
  have f : vm (doB b (zy b t).1).1 t = vm b t:=by rw [q2]; rfl
  have a : atW (doB b (zy b t).1).1 t = 0:=by
   unfold atW
   rw [if_pos]
   rw [q2]
   exact zfm.2 ⟨rfl,rfl,rfl,rfl⟩
  have a2 : atW b t = 1:=by unfold atW; rw [if_neg (by rw [q1]; decide)]
  unfold z2r
  rw [c,f,a,a2,s6,s7]
  omega
 ·generalize hd : (doB b (zy b t).1).1 = d at *
  have a2 : atW b t = 0:=by unfold atW; rw [if_pos q1]
  have a1 : atW d t ≤ 1:=by unfold atW; split <;> omega
  have c : zh4 d t < zh4 b t:=by
   unfold zh4
   rw [s5]
   refine z6e (j:=vm b t) (fun i _ _ h => ?_) (Nat.zero_le _) (by omega) ((yb b t).2.2 q2) q5
   cases e : wrP b.2.2.1 t.2.2.1 i with
   |true=>rfl
   |false=>rw [s8 i e] at h; cases h
  obtain ⟨f1,f2,f3⟩:=yb d t
  obtain ⟨w,h',l,x,y,bb,s,cs,X,Y,rfl,rfl,w2,_,_,_,hl,hcl,hk,hX,hY⟩:=yo hf
  obtain ⟨b1,b2,b3⟩:=yb ((w : Int),(h' : Int),l,x,y,bb,s) ((w : Int),(h' : Int),cs,X,Y,false)
  have low : ∀ n,n ≤ l.length → (∀ j,j < n → wrP d.2.2.1 cs j = false) → n ≤ vm d ((w : Int),(h' : Int),cs,X,Y,false):=fun n hn h=>by
   rcases Nat.lt_or_ge (vm d ((w : Int),(h' : Int),cs,X,Y,false)) n with z | z
   ·have:=f3 (by rw [s5]; simp only; omega)
    rw [show wrP d.2.2.1 ((w : Int),(h' : Int),cs,X,Y,false).2.2.1 _ = false from h _ z] at this; cases this
   ·exact z
  have mono:=low (vm ((w : Int),(h' : Int),l,x,y,bb,s) ((w : Int),(h' : Int),cs,X,Y,false)) b1 fun j hj=>s8 j (b2 j hj)
  refine ⟨by omega,by omega, ?_⟩
  unfold z2r
  rw [s6,s7,if_neg (show ¬ zh4 ((w : Int),(h' : Int),l,x,y,bb,s) ((w : Int),(h' : Int),cs,X,Y,false) = 0 by omega)]
  simp only [Int.toNat_natCast] at q6 q7 ⊢
  have dv:=Nat.div_le_div_right (c:=w) mono
  have hq : vm ((w : Int),(h' : Int),l,x,y,bb,s) ((w : Int),(h' : Int),cs,X,Y,false) / w < h':=(Nat.div_lt_iff_lt_mul (by omega)).2 (by rw [Nat.mul_comm]; simp only at q2; omega)
  have e2 : (if zh4 d ((w : Int),(h' : Int),cs,X,Y,false) = 0 then 0 else 2) ≤ 2:=by split <;> omega
  have pd : ∀ c : Cmd,zbj c ≤ (if c.1 = 7 then 1 else if c.1 = 8 then 2 else 0):=fun c=>by unfold zbj; split <;> omega
  have pd':=pd (zy ((w : Int),(h' : Int),l,x,y,bb,s) ((w : Int),(h' : Int),cs,X,Y,false)).1
  rcases q3 with z | z | z
  ·rw [z,if_neg (by decide),if_neg (by decide)] at pd'
   omega
  ·rw [z,if_pos rfl] at pd'
   have k : w * (vm ((w : Int),(h' : Int),l,x,y,bb,s) ((w : Int),(h' : Int),cs,X,Y,false) / w + 1) ≤ w * h':=Nat.mul_le_mul_left w hq
   have g:=low _ (by omega) (q6 z)
   have g2:=(Nat.le_div_iff_mul_le (show 0 < w by omega)).2 (by rw [Nat.mul_comm]; exact g)
   omega
  ·rw [z,if_neg (by decide),if_pos rfl] at pd'
   have g : zh4 d ((w : Int),(h' : Int),cs,X,Y,false) = 0:=zmq fun i _ hi=>q7 z i (by rw [s5] at hi; simp only at hi ⊢; omega)
   rw [if_pos g]
   omega
theorem zvy (b : Bel) (t : Tm) : zh4 b t ≤ b.2.2.1.length ∧ atW b t ≤ 1 ∧ z2r b t ≤ b.2.1.toNat + 2:=by
 refine ⟨zar _ _ _,by unfold atW; split <;> omega, ?_⟩
 unfold z2r
 have : (if zh4 b t = 0 then 0 else 2) ≤ 2:=by split <;> omega
 generalize vm b t / b.1.toNat = q
 omega
end Go.Proofs.YtgfmjmfphmjdkaaGreatDoor
namespace Go.Proofs.YtgfmjmfphmjdkaaGreatDoor
set_option maxHeartbeats 4000000
open Go Go.RowKit
set_option maxRecDepth 100000
theorem zi_ {p q : Nat → Bool} {a b : Nat} : ∀ {n : Nat},(∀ i,i < n → p (a + i) = q (b + i)) → ww p a n = ww q b n
 |0,_=>rfl
 |n + 1,h=>by
  have h1:=zi_ (n:=n) fun i hi=>h i (by omega)
  unfold ww
  rw [h1,h n (by omega)]
theorem z5e {l : List zi} {a n i : Nat} (hi : i < n) : gAt ((l.drop a).take n) i = gAt l (a + i):=by
 unfold gAt; rw [List.getElem?_take_of_lt hi,List.getElem?_drop]
theorem zo8 {l : List zp} {a n i : Nat} (hi : i < n) : cAt ((l.drop a).take n) i = cAt l (a + i):=by
 unfold cAt; rw [List.getElem?_take_of_lt hi,List.getElem?_drop]
theorem zx4 {l : List zi} {cs : List zp} {a n m : Nat} (h : n ≤ m) : ww (wrP ((l.drop a).take n) ((cs.drop a).take m)) 0 n = ww (wrP l cs) a n :=
 zi_ fun i hi=>by unfold wrP; rw [Nat.zero_add,z5e hi,zo8 (by omega)]
theorem z6g {cs : List zp} {a n : Nat} : zkv ((cs.drop a).take n) 0 n = zkv cs a n:=by
 rw [Bool.eq_iff_iff,yr,yr]
 constructor
 ·intro h i h1 h2
  have:=h (i - a) (Nat.zero_le _) (by omega)
  rwa [zo8 (by omega),show a + (i - a) = i by omega] at this
 ·intro h i _ h2
  rw [zo8 (by omega)]; exact h _ (by omega) (by omega)
theorem z6d {l : List zi} {cs : List zp} {a : Nat} : ww (wrP l cs) a 1 = 0 ↔ wrP l cs a = false:=by
 show 0 + (if wrP l cs (a + 0) then 1 else 0) = 0 ↔ _
 rw [Nat.add_zero]
 cases wrP l cs a <;> simp
theorem zrm {p : Nat → Bool} {a n : Nat} : ww p a (n + 1) = ww p a n + (if p (a + n) then 1 else 0):=rfl
theorem zwi {b : Bel} {t : Tm} {k : Nat} (h1 : k < b.2.2.1.length) (h2 : ∀ j,j < k → wrP b.2.2.1 t.2.2.1 j = false) (h3 : wrP b.2.2.1 t.2.2.1 k = true) : vm b t = k:=zl6 (by omega) h2 fun _=>h3
theorem z07 {b : Bel} {t : Tm} (h2 : ∀ j,j < b.2.2.1.length → wrP b.2.2.1 t.2.2.1 j = false) : vm b t = b.2.2.1.length:=zl6 (Nat.le_refl _) h2 fun h=>absurd h (by omega)
theorem zsn {b : Bel} {X Y : Int} (h1 : yv b = true) (hX : 0 ≤ X ∧ X < b.1) (hY : 0 ≤ Y ∧ Y < b.2.1) : (zbx b X Y = true ∧ qq b X Y = ((0,0,0,0),7)) ∨ (zbx b X Y = false ∧ (qq b X Y).2 = 0):=by
 cases h : zbx b X Y with
 |true=>exact .inl ⟨rfl,zbu h1 hX hY h⟩
 |false=>exact .inr ⟨rfl,zgt h1 hX hY h⟩
theorem zqx {w h : Int} {l : List zi} {x y : Int} {b s : Bool} {tw th : Int} {tl : List zp} {tx ty : Int} {tb : Bool} : decide (q9 (w,h,l,x,y,b,s) (tw,th,tl,tx,ty,tb)) = (vr w h l x y b s && okT tw th tl tx ty tb && !tb && decide (w = tw) && decide (h = th)):=by
 rw [Bool.eq_iff_iff,decide_eq_true_eq]
 simp only [Bool.and_eq_true,decide_eq_true_eq,Bool.not_eq_true',and_assoc]
 exact Iff.rfl
end Go.Proofs.YtgfmjmfphmjdkaaGreatDoor
namespace Go.Proofs.YtgfmjmfphmjdkaaGreatDoor
set_option maxHeartbeats 4000000
open Go Go.RowKit
set_option maxRecDepth 100000
def z09 (b : Bel) (t : Tm) : Int × Bool:=if vm b t = b.2.2.1.length then (0,false) else ((za3 b t : Nat),true)
def zqy (b : Bel) (t : Tm) : Bool:=ze3 b && z71 t.1 t.2.1 t.2.2.1 t.2.2.2.1 t.2.2.2.2.1 t.2.2.2.2.2 && !t.2.2.2.2.2 && decide (b.1 = t.1) && decide (b.2.1 = t.2.1)
theorem zkf {b : Bel} {t : Tm} : q9 b t ↔ zqy b t = true:=by
 unfold q9 zqy yv ze3 znb
 rw [zis,z4z]
 simp only [Bool.and_eq_true,decide_eq_true_eq,Bool.not_eq_true',and_assoc]
def zj8 (b : Bel) (X Y : Int) : Cmd × Int :=
 if ¬ (ze3 b = true ∧ 0 ≤ X ∧ X < b.1 ∧ 0 ≤ Y ∧ Y < b.2.1) then ((0,0,0,0),1)
 else if b.2.2.2.2.2.2 = false then (goC X Y,0)
 else if b.2.2.2.1 = X ∧ b.2.2.2.2.1 = Y ∧ b.2.2.2.2.2.1 = false then ((0,0,0,0),7)
 else (vt (jw b.2.1 b.2.2.2.1 b.2.2.2.2.1 X Y) (goC X Y),0)
theorem zqg (b : Bel) (X Y : Int) : qq b X Y = zj8 b X Y:=by unfold qq zj8 yv ze3; rw [zis]
def zgs (b : Bel) (t : Tm) : Cmd × Int :=
 if zqy b t = true then
  if vm b t = b.2.2.1.length then zj8 b t.2.2.2.1 t.2.2.2.2.1
  else if zbx b (za3 b t % b.1.toNat : Nat) (za3 b t / b.1.toNat : Nat) = false then zj8 b (za3 b t % b.1.toNat : Nat) (za3 b t / b.1.toNat : Nat)
  else (vw b.1.toNat b.2.2.1 t.2.2.1 (za3 b t),0)
 else ((0,0,0,0),1)
theorem z46 (b : Bel) (t : Tm) : zy b t = zgs b t:=by
 unfold zy zgs
 by_cases h : q9 b t
 ·rw [if_pos h,if_pos (zkf.1 h),zqg,zqg]
 ·rw [if_neg h,if_neg (fun z=>h (zkf.2 z))]
theorem zqf {b : Bel} {t : Tm} (h : ¬ q9 b t) : zy b t = ((0,0,0,0),1):=by unfold zy; rw [if_neg h]
theorem zlw {b : Bel} {t : Tm} (hf : q9 b t) (h : vm b t = b.2.2.1.length) : zy b t = qq b t.2.2.2.1 t.2.2.2.2.1:=by unfold zy; rw [if_pos hf,if_pos h]
theorem zlv {b : Bel} {t : Tm} (hf : q9 b t) (h : vm b t ≠ b.2.2.1.length) : zy b t = if zbx b (za3 b t % b.1.toNat : Nat) (za3 b t / b.1.toNat : Nat) = false then qq b (za3 b t % b.1.toNat : Nat) (za3 b t / b.1.toNat : Nat) else (vw b.1.toNat b.2.2.1 t.2.2.1 (za3 b t),0):=by unfold zy; rw [if_pos hf,if_neg h]
theorem u5 {b : Bel} {t : Tm} (hf : q9 b t) : uy b t = (((zh4 b t : Nat) : Int),0):=by unfold uy; rw [if_pos hf]; rfl
theorem zce {b : Bel} {t : Tm} (hf : ¬ q9 b t) : uy b t = (0,1):=by unfold uy; rw [if_neg hf]
theorem zfo {b : Bel} {t : Tm} (hf : q9 b t) : b.2.2.1.length = t.2.2.1.length ∧ b.2.2.1.length ≤ 1920:=by
 obtain ⟨w,h',l,x,y,bb,s,cs,X,Y,rfl,rfl,w2,w3,w4,w5,hl,hcl,hk,hX,hY⟩:=yo hf
 have:=vb w3 w5
 simp only
 omega
theorem z7w {b : Bel} {t : Tm} : za3 b t ≤ vm b t:=by unfold za3; split <;> omega
theorem z5m {b : Bel} {t : Tm} (hf : q9 b t) (h : vm b t < b.2.2.1.length) (h2 : (cAt t.2.2.1 (vm b t)).2 = 2) : 1 ≤ vm b t:=by
 obtain ⟨w,h',l,x,y,bb,s,cs,X,Y,rfl,rfl,w2,_,_,_,hl,hcl,hk,hX,hY⟩:=yo hf
 simp only at h h2
 have q:=((zb3 hk (i:=vm ((w : Int),(h' : Int),l,x,y,bb,s) ((w : Int),(h' : Int),cs,X,Y,false)) (by omega)).2.2 h2).1
 rcases Nat.eq_zero_or_pos (vm ((w : Int),(h' : Int),l,x,y,bb,s) ((w : Int),(h' : Int),cs,X,Y,false)) with z | z
 ·rw [z] at q; simp at q
 ·exact z
end Go.Proofs.YtgfmjmfphmjdkaaGreatDoor
