/- Layer 27 (belief), plainly: what the reference lays is what the program lays. No condition. -/
import Derived.Test.YtgfmjmfphmjdkaaGreatDoorR1B1
import Derived.Test.YtgfmjmfphmjdkaaGreatDoorR1ZV
import Derived.Test.YtgfmjmfphmjdkaaGreatDoorR1ZN
set_option linter.unusedSimpArgs false
set_option linter.unusedVariables false
set_option linter.unusedSectionVars false
namespace Go.Proofs.YtgfmjmfphmjdkaaGreatDoor
set_option maxHeartbeats 4000000
open Go Go.RowKit
set_option maxRecDepth 100000
def zy6 (w : Nat) (l : List zi) (p : Nat) (cs : List zp) : List zi :=
 let l0:=ovr l p (cs.map fun c=>(c,true))
 let l1:=if 0 < p % w ∧ (gAt l (p - 1)).2 = true ∧ (gAt l (p - 1)).1.2 = 1 then l0.set (p - 1) qr else l0
 if 0 < (p + cs.length) % w ∧ (gAt l (p + cs.length)).2 = true ∧ (gAt l (p + cs.length)).1.2 = 2 then l1.set (p + cs.length) qr else l1
theorem z5a {w : Nat} {l : List zi} {p : Nat} {cs : List zp} (hk : GOk w l) (hp : p + cs.length ≤ l.length) (h2 : 0 < (p + cs.length) % w → p + cs.length < l.length) : zy6 w l p cs = wq w l p cs:=by
 have hlen : (ovr l p (cs.map fun c=>(c,true))).length = l.length:=qz (by rw [List.length_map]; exact hp)
 have e : ∀ (c : Prop) [Decidable c] (m : List zi) (j : Nat),(if c then m.set j qr else m).length = m.length:=fun c _ m j=>by split <;> simp
 have hs : ∀ j k,k ≠ 0 → (((gAt l j).2 = true ∧ (gAt l j).1.2 = k) ↔ (gAt l j).1.2 = k):=fun j k hk0=>⟨fun h=>h.2,fun h=>⟨hk.half (by rw [h]; exact hk0),h⟩⟩
 have hp1 : 0 < p % w → 1 ≤ p:=fun k=>by
  rcases Nat.eq_zero_or_pos p with h | h
  ·subst h; simp at k
  ·exact h
 unfold zy6
 simp only [hs _ 1 (by decide),hs _ 2 (by decide)]
 refine zwf (by rw [e,e,hlen,zcy hp]) fun i hi => ?_
 rw [e,e,hlen] at hi
 rw [zgw hp h2]
 have ov : ∀ j,gAt (ovr l p (cs.map fun c=>(c,true))) j = if j < p then gAt l j else if j < p + cs.length then (cAt cs (j - p),true) else gAt l j:=fun j=>by
  rw [zob (by rw [List.length_map]; exact hp),List.length_map]
  split
  ·rfl
  ·split
   ·rw [zoc (by omega)]
   ·rfl
 generalize ovr l p (cs.map fun c=>(c,true)) = l0 at *
 have e1 : ∀ j,gAt (if 0 < p % w ∧ (gAt l (p - 1)).1.2 = 1 then l0.set (p - 1) qr else l0) j = if j + 1 = p ∧ 0 < p % w ∧ (gAt l j).1.2 = 1 then qr else gAt l0 j:=fun j=>by
  by_cases k : 0 < p % w ∧ (gAt l (p - 1)).1.2 = 1
  ·have:=hp1 k.1
   rw [if_pos k,zg0 _ _ _ _ (by omega)]
   by_cases hj : j = p - 1
   ·rw [if_pos hj,if_pos ⟨by omega,k.1,by rw [hj]; exact k.2⟩]
   ·rw [if_neg hj,if_neg (by omega)]
  ·rw [if_neg k]
   by_cases hj : j + 1 = p ∧ 0 < p % w ∧ (gAt l j).1.2 = 1
   ·exact absurd ⟨hj.2.1,by rw [show p - 1 = j by omega]; exact hj.2.2⟩ k
   ·rw [if_neg hj]
 have len1 : (if 0 < p % w ∧ (gAt l (p - 1)).1.2 = 1 then l0.set (p - 1) qr else l0).length = l.length:=by rw [e,hlen]
 generalize (if 0 < p % w ∧ (gAt l (p - 1)).1.2 = 1 then l0.set (p - 1) qr else l0) = l1 at *
 have e2 : ∀ j,gAt (if 0 < (p + cs.length) % w ∧ (gAt l (p + cs.length)).1.2 = 2 then l1.set (p + cs.length) qr else l1) j = if j = p + cs.length ∧ 0 < (p + cs.length) % w ∧ (gAt l j).1.2 = 2 then qr else gAt l1 j:=fun j=>by
  by_cases k : 0 < (p + cs.length) % w ∧ (gAt l (p + cs.length)).1.2 = 2
  ·have:=h2 k.1
   rw [if_pos k,zg0 _ _ _ _ (by omega)]
   by_cases hj : j = p + cs.length
   ·rw [if_pos hj,if_pos ⟨hj,k.1,by rw [hj]; exact k.2⟩]
   ·rw [if_neg hj,if_neg (fun x=>hj x.1)]
  ·rw [if_neg k,if_neg]
   rintro ⟨a,b,c⟩; exact k ⟨b,by rw [← a]; exact c⟩
 rw [e2,e1,ov]
 by_cases q1 : i < p
 ·rw [if_neg (fun z=>by omega),if_pos q1,if_pos q1]
 ·rw [if_neg q1,if_neg q1]
  by_cases q2 : i < p + cs.length
  ·rw [if_neg (fun z=>by omega),if_neg (fun z=>by omega),if_pos q2,if_pos q2]
  ·rw [if_neg q2,if_neg q2]
   by_cases q3 : i = p + cs.length ∧ 0 < (p + cs.length) % w ∧ (gAt l i).1.2 = 2
   ·rw [if_pos q3,if_pos q3]
   ·rw [if_neg q3,if_neg q3,if_neg (fun z=>by omega)]
theorem zkr {w h x y : Int} {l : List zi} {b : Bool} {c : Cmd} (h1 : vr w h l x y b true = true) (hc : z9 c = true) (h12 : c.1 ≠ 12) : doB (w,h,l,x,y,b,true) c = (znf w h l x y b c,0):=by
 unfold doB
 rw [if_pos ⟨h1,hc⟩,if_neg (fun h=>by cases h.1),if_neg (fun h=>by rcases h with h | h; cases h.1; exact h12 h)]
theorem z3h {w h x y : Int} {l : List zi} {b s : Bool} {c : Cmd} (h1 : vr w h l x y b s = true) (hc : z9 c = true) (h2 : c.1 = 2) : doB (w,h,l,x,y,b,s) c = (znf w h l x y b c,0):=by
 unfold doB
 rw [if_pos ⟨h1,hc⟩,if_neg (fun h=>by have:=h.2; rw [h2] at this; revert this; decide),if_neg (fun h=>by rcases h with h | h; exact h.2 h2; omega)]
theorem z9f {w h x y : Int} {l : List zi} {b : Bool} {c : Cmd} (h1 : vr w h l x y b false = true) (hc : z9 c = true) (h2 : c.1 ≠ 2) : (doB (w,h,l,x,y,b,false) c).1.2.2.2.2.2.2 = false:=by
 have hs : qu w h = true:=by
  obtain ⟨w,h,rfl,rfl,w2,w3,w4,w5,_⟩:=qn.1 h1
  simp [qu]; omega
 unfold doB
 rw [if_pos ⟨h1,hc⟩]
 by_cases e : chg c.1 = true
 ·rw [if_pos ⟨rfl,e⟩,yg,if_pos hs]
 ·rw [if_neg (fun h=>e h.2),if_pos (.inl ⟨rfl,h2⟩)]
theorem z36 {k a : Int} (hk : k = 3 ∨ k = 4 ∨ k = 5 ∨ k = 6) (ha : 1 ≤ a ∧ a ≤ 80) : z9 (k,a,0,0) = true:=by
 simp only [z9]
 rw [if_neg (by omega),if_neg (by omega),if_pos (by omega)]; simp; omega
end Go.Proofs.YtgfmjmfphmjdkaaGreatDoor
namespace Go.Proofs.YtgfmjmfphmjdkaaGreatDoor
set_option maxHeartbeats 4000000
open Go Go.RowKit
set_option maxRecDepth 100000
def goC (X Y : Int) : Cmd:=(2,Y,X,0)
def moL (h x y X Y : Int) : List (Bool × Cmd):=[(true,goC X Y),
 (decide (X - x = 0) && (decide (Y - y < 0) || ((decide (X - x = 0) && decide (Y - y = 0)) && decide (Y = 0))),(3,max 1 (-(Y - y)),0,0)),
 (decide (X - x = 0) && (decide (Y - y > 0) || ((decide (X - x = 0) && decide (Y - y = 0)) && decide (Y = h - 1))),(4,max 1 (Y - y),0,0)),
 (decide (Y - y = 0) && (decide (X - x > 0) || (decide (X - x = 0) && decide (Y - y = 0))),(5,max 1 (X - x),0,0)),
 (decide (Y - y = 0) && decide (X - x < 0),(6,max 1 (-(X - x)),0,0)),
 (decide (Y - y = 0) && decide (X = 0),(9,0,0,0)),
 (decide (X - x = 0) && decide (Y - y = 1),(10,0,0,0)),
 (decide (Y - y = 0) && decide (X - x = -1),(11,0,0,0))]
def jw (h x y X Y : Int) : List Cmd:=((moL h x y X Y).filter (·.1)).map (·.2)
def moT : Ty (Bool × Cmd):={ enc:=fun m=>[.bool m.1,.int .i64 m.2.1,.int .i64 m.2.2.1,.int .i64 m.2.2.2.1,.int .i32 m.2.2.2.2],k:=5,len:=fun _=>rfl }
def moA (m : Bool × Cmd) : AV:=z0 [B m.1,I m.2.1,I m.2.2.1,I m.2.2.2.1,R m.2.2.2.2]
theorem z34 : Tryz.prog.underlying 170 = some (.struct #[{ name := "is",type:=4,offset:=0,embedded:=false,tag := "",pkgPath := "typebar/motion",byteOffset:=0 },{ name := "c",type:=35,offset:=1,embedded:=false,tag := "",pkgPath := "typebar/motion",byteOffset:=8 }]):=Tryz.underlying170
instance qeq : StC 170 [B false,I 0,I 0,I 0,R 0] [(0,1),(1,4)]:=⟨StT.mk' _ [.bool false,.int .i64 0,.int .i64 0,.int .i64 0,.int .i32 0] z34 (by kernel_rfl) (by kernel_rfl)⟩
instance qc1 : FldC 170 0 0 4:=⟨_,_,z34,rfl,rfl,rfl⟩
instance qc0 : FldC 170 1 1 35:=⟨_,_,z34,rfl,rfl,rfl⟩
instance qef : SzC 170 5:=⟨xc (by kernel_rfl)⟩
instance qfl : AlC 170 (.agg #[.bool false,.int .i64 0,.int .i64 0,.int .i64 0,.int .i32 0]) [.bool false,.int .i64 0,.int .i64 0,.int .i64 0,.int .i32 0] [B false,I 0,I 0,I 0,R 0]:=⟨by kernel_rfl,rfl,rfl⟩
theorem qa_ : El Tryz.prog moT 170 (false,0,0,0,0) 40 moA:=⟨⟨.agg #[.bool false,.int .i64 0,.int .i64 0,.int .i64 0,.int .i32 0],by kernel_rfl,rfl⟩,by decide,fun x v hv=>by simp [moT] at hv; rcases hv with rfl | rfl | rfl | rfl | rfl <;> rfl,.inl ⟨ku (by kernel_rfl),fun x=>rfl⟩⟩
instance qfe : ElC 170 moT (false,0,0,0,0) 40 moA:=⟨qa_⟩
theorem z7i : Tryz.prog.underlying 171 = some (.slice 170):=Tryz.underlying171
instance qca : UnC 171 (.slice 170):=⟨z7i⟩
end Go.Proofs.YtgfmjmfphmjdkaaGreatDoor
namespace Go.Proofs.YtgfmjmfphmjdkaaGreatDoor
set_option maxHeartbeats 4000000
open Go Go.RowKit
set_option maxRecDepth 100000
def zai (c d : Cmd) : Prop:=xk c < xk d ∨ (xk c = xk d ∧ (c.1 < d.1 ∨ (c.1 = d.1 ∧ c.2.1 ≤ d.2.1)))
def kle (c d : Cmd) : Prop:=c.1 < d.1 ∨ (c.1 = d.1 ∧ c.2.1 ≤ d.2.1)
theorem zsr (c : Cmd) : zai c c:=.inr ⟨rfl,.inr ⟨rfl,Int.le_refl _⟩⟩
theorem zbv {a b c : Cmd} (h1 : zai a b) (h2 : zai b c) : zai a c:=by
 unfold zai at *; omega
theorem zql {a b : Cmd} (h : xk a ≤ xk b) (k : kle a b) : zai a b:=by
 unfold zai kle at *; omega
def vt (l : List Cmd) (b : Cmd) : Cmd:=l.foldl (fun b c=>if xk c < xk b then c else b) b
theorem zje (c : Cmd) (l : List Cmd) (b : Cmd) : vt (c :: l) b = vt l (if xk c < xk b then c else b):=rfl
theorem zhu : ∀ (l : List Cmd) (b : Cmd),(∀ d ∈ l,kle b d) → l.Pairwise kle → vt l b ∈ b :: l ∧ ∀ d ∈ b :: l,zai (vt l b) d
 |[],b,_,_=>⟨List.mem_cons_self,fun d hd=>by simp at hd; subst hd; exact zsr _⟩
 |c :: l,b,hb,hp=>by
  rw [zje]
  have hc:=List.pairwise_cons.1 hp
  by_cases e : xk c < xk b
  ·rw [if_pos e]
   obtain ⟨i1,i2⟩:=zhu l c hc.1 hc.2
   refine ⟨List.mem_cons_of_mem _ i1,fun d hd => ?_⟩
   rcases List.mem_cons.1 hd with rfl | hd
   ·exact zbv (i2 c List.mem_cons_self) (.inl e)
   ·exact i2 d hd
  ·rw [if_neg e]
   obtain ⟨i1,i2⟩:=zhu l b (fun d hd=>hb d (List.mem_cons_of_mem _ hd)) hc.2
   refine ⟨?_,fun d hd => ?_⟩
   ·rcases List.mem_cons.1 i1 with i1 | i1
    ·rw [i1]; exact List.mem_cons_self
    ·exact List.mem_cons_of_mem _ (List.mem_cons_of_mem _ i1)
   ·rcases List.mem_cons.1 hd with rfl | hd
    ·exact i2 _ List.mem_cons_self
    ·rcases List.mem_cons.1 hd with rfl | hd
     ·exact zbv (i2 b List.mem_cons_self) (zql (by omega) (hb _ List.mem_cons_self))
     ·exact i2 d (List.mem_cons_of_mem _ hd)
noncomputable def qq (b : Bel) (X Y : Int) : Cmd × Int :=
 if ¬ (yv b = true ∧ 0 ≤ X ∧ X < b.1 ∧ 0 ≤ Y ∧ Y < b.2.1) then ((0,0,0,0),1)
 else if b.2.2.2.2.2.2 = false then (goC X Y,0)
 else if b.2.2.2.1 = X ∧ b.2.2.2.2.1 = Y ∧ b.2.2.2.2.2.1 = false then ((0,0,0,0),7)
 else (vt (jw b.2.1 b.2.2.2.1 b.2.2.2.2.1 X Y) (goC X Y),0)
def za0 (k : Int) : List Cmd:=(List.range 80).map fun (n : Nat)=>(k,((n : Int) + 1),0,0)
def znh (f : Bool) (X Y : Int) : List Cmd:=goC X Y :: (za0 3 ++ za0 4 ++ za0 5 ++ za0 6 ++ [(9,0,0,0)] ++ (if f then [(10,0,0,0)] else []) ++ [(11,0,0,0)])
noncomputable def zaj (w h x y : Int) (b : Bool) (X Y : Int) (c : Cmd) : Bool:=decide (yh w h x y b c = (X,Y,false))
noncomputable def jq (p : Cmd → Bool) (s : Cmd × Nat) (c : Cmd) : Cmd × Nat:=if xk c < s.2 ∧ p c = true then (c,xk c) else s
theorem zfg (p : Cmd → Bool) : ∀ (l : List Cmd) (b : Cmd),l.foldl (jq p) (b,xk b) = (vt (l.filter p) b,xk (vt (l.filter p) b))
 |[],b=>rfl
 |c :: l,b=>by
  rw [List.foldl_cons,List.filter_cons]
  by_cases hp : p c = true
  ·rw [if_pos hp,zje]
   by_cases e : xk c < xk b
   ·rw [show jq p (b,xk b) c = (c,xk c) from if_pos ⟨e,hp⟩,if_pos e]; exact zfg p l c
   ·rw [show jq p (b,xk b) c = (b,xk b) from if_neg (fun h=>e h.1),if_neg e]; exact zfg p l b
  ·rw [if_neg hp,show jq p (b,xk b) c = (b,xk b) from if_neg (fun h=>hp h.2)]; exact zfg p l b
theorem zv0 {k a : Int} (hk : 3 ≤ k ∧ k ≤ 6) (ha : 1 ≤ a ∧ a ≤ 80) : xk (k,a,0,0) = if a = 1 then 3 else if a < 10 then 4 else 5:=by
 have hc : z9 (k,a,0,0) = true:=by
  simp only [z9]
  rw [if_neg (by omega),if_neg (by omega),if_pos (by omega)]; simp; omega
 unfold xk xm
 rw [if_pos hc]
 simp only [xy]
 rw [if_neg (by omega),if_neg (by omega),if_pos (by omega)]
 by_cases e : a = 1
 ·simp [e]
 ·rw [if_neg e,if_neg e,w7]
  by_cases q : a < 10
  ·rw [if_pos (by omega),if_pos q]; rfl
  ·rw [if_neg (by omega),if_neg q]; rfl
theorem zmo (w h x y : Int) (b : Bool) (A B : Int) : yh w h x y b (2,A,B,0) = (inM B (w - 1),inM A (h - 1),false):=rfl
theorem z3j (w h x y : Int) (b : Bool) (a : Int) : yh w h x y b (3,a,0,0) = (inM x (w - 1),inM (y - a) (h - 1),false):=rfl
theorem zrk (w h x y : Int) (b : Bool) (a : Int) : yh w h x y b (4,a,0,0) = (inM x (w - 1),inM (y + a) (h - 1),false):=rfl
theorem zmn (w h x y : Int) (b : Bool) (a : Int) : yh w h x y b (5,a,0,0) = (inM (x + a) (w - 1),inM y (h - 1),false):=rfl
theorem zrh (w h x y : Int) (b : Bool) (a : Int) : yh w h x y b (6,a,0,0) = (inM (x - a) (w - 1),inM y (h - 1),false):=rfl
theorem zri (w h x y : Int) (b : Bool) : yh w h x y b (9,0,0,0) = (inM 0 (w - 1),inM y (h - 1),false):=rfl
theorem zrj (w h x y : Int) (b : Bool) : yh w h x y b (10,0,0,0) = (x,(kg w h [] y).2,false):=rfl
theorem zrl (w h x y : Int) (b : Bool) : yh w h x y b (11,0,0,0) = (inM (x - 1) (w - 1),inM y (h - 1),false):=rfl
theorem xw {w h x y : Int} {b : Bool} {X Y : Int} {c : Cmd} : zaj w h x y b X Y c = true ↔ (yh w h x y b c).1 = X ∧ (yh w h x y b c).2.1 = Y ∧ (yh w h x y b c).2.2 = false:=by
 rw [zaj,decide_eq_true_eq,Prod.ext_iff,Prod.ext_iff]
section
variable {w h x y X Y : Int} {b : Bool}
structure Away (w h x y X Y : Int) (b : Bool) : Prop where
 hs : 2 ≤ w ∧ w ≤ 80 ∧ 1 ≤ h ∧ h ≤ 24
 hx : 0 ≤ x ∧ x < w
 hy : 0 ≤ y ∧ y < h
 hX : 0 ≤ X ∧ X < w
 hY : 0 ≤ Y ∧ Y < h
 hb : b = true → x = w - 1
 hno : ¬ (x = X ∧ y = Y ∧ b = false)
theorem Away.wrap (H : Away w h x y X Y b) (h1 : x = X) (h2 : y = Y) : x = w - 1:=by
 cases e : b with
 |true=>exact H.hb e
 |false=>exact absurd ⟨h1,h2,e⟩ H.hno
theorem Away.least (H : Away w h x y X Y b) {k a : Int} (hk : k = 3 ∨ k = 4 ∨ k = 5 ∨ k = 6) (ha : 1 ≤ a ∧ a ≤ 80) (hl : zaj w h x y b X Y (k,a,0,0) = true) : ∃ d ∈ jw h x y X Y,zai d (k,a,0,0):=by
 obtain ⟨⟨s1,s2,s3,s4⟩,hx,hy,hX,hY,hb,hno⟩:=H
 have hw : x = X → y = Y → x = w - 1:=fun h1 h2=>by
  cases e : b with
  |true=>exact hb e
  |false=>exact absurd ⟨h1,h2,e⟩ hno
 obtain ⟨l1,l2,_⟩:=xw.1 hl
 have key : ∀ m : Int,1 ≤ m → m ≤ a → (true,((k,m,0,0) : Cmd)) ∈ moL h x y X Y → ∃ d ∈ jw h x y X Y,zai d (k,a,0,0):=fun m h1 h2 h3=>by
  refine ⟨(k,m,0,0),List.mem_map.2 ⟨_,List.mem_filter.2 ⟨h3,rfl⟩,rfl⟩,zql ?_ (.inr ⟨rfl,h2⟩)⟩
  have e1:=zv0 (k:=k) (a:=m) (by omega) (by omega)
  have e2:=zv0 (k:=k) (a:=a) (by omega) ha
  rw [e1,e2]
  clear e1 e2
  repeat' split
  all_goals omega
 rcases hk with rfl | rfl | rfl | rfl
 ·rw [z3j] at l1 l2
  simp only [inM] at l1 l2
  have e1 : X = x:=by omega
  refine key (max 1 (-(Y - y))) (by omega) (by omega) ?_
  have : (true,((3,max 1 (-(Y - y)),0,0) : Cmd)) = (decide (X - x = 0) && (decide (Y - y < 0) || ((decide (X - x = 0) && decide (Y - y = 0)) && decide (Y = 0))),((3,max 1 (-(Y - y)),0,0) : Cmd)):=by
   congr 1; simp; omega
  rw [this]; simp [moL]
 ·rw [zrk] at l1 l2
  simp only [inM] at l1 l2
  have e1 : X = x:=by omega
  refine key (max 1 (Y - y)) (by omega) (by omega) ?_
  have : (true,((4,max 1 (Y - y),0,0) : Cmd)) = (decide (X - x = 0) && (decide (Y - y > 0) || ((decide (X - x = 0) && decide (Y - y = 0)) && decide (Y = h - 1))),((4,max 1 (Y - y),0,0) : Cmd)):=by
   congr 1; simp; omega
  rw [this]; simp [moL]
 ·rw [zmn] at l1 l2
  simp only [inM] at l1 l2
  have e1 : Y = y:=by omega
  refine key (max 1 (X - x)) (by omega) (by omega) ?_
  have : (true,((5,max 1 (X - x),0,0) : Cmd)) = (decide (Y - y = 0) && (decide (X - x > 0) || (decide (X - x = 0) && decide (Y - y = 0))),((5,max 1 (X - x),0,0) : Cmd)):=by
   congr 1; simp; omega
  rw [this]; simp [moL]
 ·rw [zrh] at l1 l2
  simp only [inM] at l1 l2
  have e1 : Y = y:=by omega
  have e2 : X - x < 0:=by
   have:=hw
   omega
  refine key (max 1 (-(X - x))) (by omega) (by omega) ?_
  have : (true,((6,max 1 (-(X - x)),0,0) : Cmd)) = (decide (Y - y = 0) && decide (X - x < 0),((6,max 1 (-(X - x)),0,0) : Cmd)):=by
   congr 1; simp; omega
  rw [this]; simp [moL]
theorem Away.home (H : Away w h x y X Y b) (hl : zaj w h x y b X Y (9,0,0,0) = true) : ((9,0,0,0) : Cmd) ∈ jw h x y X Y:=by
 obtain ⟨⟨s1,s2,s3,s4⟩,hx,hy,hX,hY,hb,hno⟩:=H
 obtain ⟨l1,l2,_⟩:=xw.1 hl
 rw [zri] at l1 l2
 simp only [inM] at l1 l2
 refine List.mem_map.2 ⟨(true,(9,0,0,0)),List.mem_filter.2 ⟨?_,rfl⟩,rfl⟩
 have : (true,((9,0,0,0) : Cmd)) = (decide (Y - y = 0) && decide (X = 0),((9,0,0,0) : Cmd)):=by
  congr 1; simp; omega
 rw [this]; simp [moL]
theorem Away.feed (H : Away w h x y X Y b) (hf : y < h - 1) (hl : zaj w h x y b X Y (10,0,0,0) = true) : ((10,0,0,0) : Cmd) ∈ jw h x y X Y:=by
 obtain ⟨⟨s1,s2,s3,s4⟩,hx,hy,hX,hY,hb,hno⟩:=H
 obtain ⟨l1,l2,_⟩:=xw.1 hl
 rw [zrj] at l1 l2
 simp only [kg] at l1 l2
 rw [if_neg (by omega)] at l2
 simp only at l2
 refine List.mem_map.2 ⟨(true,(10,0,0,0)),List.mem_filter.2 ⟨?_,rfl⟩,rfl⟩
 have : (true,((10,0,0,0) : Cmd)) = (decide (X - x = 0) && decide (Y - y = 1),((10,0,0,0) : Cmd)):=by
  congr 1; simp; omega
 rw [this]; simp [moL]
theorem Away.back (H : Away w h x y X Y b) (hl : zaj w h x y b X Y (11,0,0,0) = true) : ((11,0,0,0) : Cmd) ∈ jw h x y X Y:=by
 have hw:=H.wrap
 obtain ⟨⟨s1,s2,s3,s4⟩,hx,hy,hX,hY,hb,hno⟩:=H
 obtain ⟨l1,l2,_⟩:=xw.1 hl
 rw [zrl] at l1 l2
 simp only [inM] at l1 l2
 refine List.mem_map.2 ⟨(true,(11,0,0,0)),List.mem_filter.2 ⟨?_,rfl⟩,rfl⟩
 have : (true,((11,0,0,0) : Cmd)) = (decide (Y - y = 0) && decide (X - x = -1),((11,0,0,0) : Cmd)):=by
  congr 1; simp; omega
 rw [this]; simp [moL]
theorem Away.moves (H : Away w h x y X Y b) {c : Cmd} (hc : c ∈ jw h x y X Y) : zaj w h x y b X Y c = true ∧ (c = goC X Y ∨ (∃ k a,c = (k,a,0,0) ∧ (k = 3 ∨ k = 4 ∨ k = 5 ∨ k = 6) ∧ 1 ≤ a ∧ a ≤ 80) ∨ c = (9,0,0,0) ∨ (c = (10,0,0,0) ∧ y < h - 1) ∨ c = (11,0,0,0)):=by
 have hw:=H.wrap
 obtain ⟨⟨s1,s2,s3,s4⟩,hx,hy,hX,hY,hb,hno⟩:=H
 obtain ⟨⟨k,c'⟩,h1,rfl⟩:=List.mem_map.1 hc
 obtain ⟨h2,h3⟩:=List.mem_filter.1 h1
 simp only at h3
 subst h3
 simp only [moL,List.mem_cons,List.not_mem_nil,or_false,Prod.mk.injEq] at h2
 have go : ∀ {z1 z2 : Int},z1 = X → z2 = Y → ((z1,z2,false) : Int × Int × Bool).1 = X ∧ ((z1,z2,false) : Int × Int × Bool).2.1 = Y ∧ ((z1,z2,false) : Int × Int × Bool).2.2 = false:=fun h1 h2=>⟨h1,h2,rfl⟩
 rcases h2 with ⟨-,rfl⟩ | ⟨q,rfl⟩ | ⟨q,rfl⟩ | ⟨q,rfl⟩ | ⟨q,rfl⟩ | ⟨q,rfl⟩ | ⟨q,rfl⟩ | ⟨q,rfl⟩
 ·refine ⟨xw.2 ?_,.inl rfl⟩
  show (yh w h x y b (2,Y,X,0)).1 = X ∧ _
  rw [zmo]; exact go (xg (by omega) (by omega)) (xg (by omega) (by omega))
 ·simp at q
  refine ⟨xw.2 ?_,.inr (.inl ⟨_,_,rfl,by decide,by omega,by omega⟩)⟩
  rw [z3j]; exact ⟨by simp only [inM]; omega,by simp only [inM]; omega,rfl⟩
 ·simp at q
  refine ⟨xw.2 ?_,.inr (.inl ⟨_,_,rfl,by decide,by omega,by omega⟩)⟩
  rw [zrk]; exact ⟨by simp only [inM]; omega,by simp only [inM]; omega,rfl⟩
 ·simp at q
  refine ⟨xw.2 ?_,.inr (.inl ⟨_,_,rfl,by decide,by omega,by omega⟩)⟩
  rw [zmn]; exact ⟨by simp only [inM]; omega,by simp only [inM]; omega,rfl⟩
 ·simp at q
  refine ⟨xw.2 ?_,.inr (.inl ⟨_,_,rfl,by decide,by omega,by omega⟩)⟩
  rw [zrh]; exact ⟨by simp only [inM]; omega,by simp only [inM]; omega,rfl⟩
 ·simp at q
  refine ⟨xw.2 ?_,.inr (.inr (.inl rfl))⟩
  rw [zri]; exact ⟨by simp only [inM]; omega,by simp only [inM]; omega,rfl⟩
 ·simp at q
  refine ⟨xw.2 ?_,.inr (.inr (.inr (.inl ⟨rfl,by omega⟩)))⟩
  rw [zrj,kg,if_neg (by omega)]; exact ⟨by simp only; omega,by simp only; omega,rfl⟩
 ·simp at q
  refine ⟨xw.2 ?_,.inr (.inr (.inr (.inr rfl)))⟩
  rw [zrl]; exact ⟨by simp only [inM]; omega,by simp only [inM]; omega,rfl⟩
end
theorem un {P : Cmd → Cmd → Prop} : ∀ (l : List (Bool × Cmd)),(l.map (·.2)).Pairwise P → ((l.filter (·.1)).map (·.2)).Pairwise P
 |[],_=>List.Pairwise.nil
 |(k,c) :: l,h=>by
  have h':=List.pairwise_cons.1 h
  rw [List.filter_cons]
  split
  ·refine List.pairwise_cons.2 ⟨fun d hd=>h'.1 d ?_,un l h'.2⟩
   obtain ⟨z,z1,z2⟩:=List.mem_map.1 hd
   exact List.mem_map.2 ⟨z,(List.mem_filter.1 z1).1,z2⟩
  ·exact un l h'.2
theorem zly (h x y X Y : Int) : (jw h x y X Y).Pairwise kle:=by
 apply un
 simp [moL,kle,goC]
theorem zpp {k : Int} {c : Cmd} : c ∈ za0 k ↔ ∃ a : Int,c = (k,a,0,0) ∧ 1 ≤ a ∧ a ≤ 80:=by
 unfold za0
 simp only [List.mem_map,List.mem_range]
 constructor
 ·rintro ⟨n,hn,rfl⟩; exact ⟨_,rfl,by omega,by omega⟩
 ·rintro ⟨a,rfl,h1,h2⟩
  refine ⟨(a - 1).toNat,by omega, ?_⟩
  congr 2; omega
theorem z35 (k : Int) : (za0 k).Pairwise kle:=by
 unfold za0
 rw [List.pairwise_map]
 refine List.Pairwise.imp (R:=(· < ·)) (fun h=>.inr ⟨rfl,by simp only; omega⟩) List.pairwise_lt_range
theorem zz3 (f : Bool) : (za0 3 ++ za0 4 ++ za0 5 ++ za0 6 ++ [((9,0,0,0) : Cmd)] ++ (if f then [(10,0,0,0)] else []) ++ [(11,0,0,0)]).Pairwise kle:=by
 have low : ∀ {c : Cmd} {k : Int},c ∈ za0 k → c.1 = k:=fun h=>by obtain ⟨a,rfl,_⟩:=zpp.1 h; rfl
 have ten : ∀ {c : Cmd},c ∈ (if f then [((10,0,0,0) : Cmd)] else []) → c.1 = 10:=fun {c} h=>by
  cases f
  ·simp at h
  ·simp at h; rw [h]
 have tenp : (if f then [((10,0,0,0) : Cmd)] else []).Pairwise kle:=by cases f <;> simp
 simp only [List.pairwise_append,z35,tenp,List.pairwise_singleton,List.mem_append,List.mem_singleton,true_and,and_true]
 refine ⟨⟨⟨⟨⟨?_, ?_⟩, ?_⟩, ?_⟩, ?_⟩, ?_⟩
 ·intro a ha d hd; have:=low ha; have:=low hd; exact .inl (by omega)
 ·rintro a (ha | ha) d hd <;> (have:=low ha; have:=low hd; exact .inl (by omega))
 ·rintro a ((ha | ha) | ha) d hd <;> (have:=low ha; have:=low hd; exact .inl (by omega))
 ·rintro a (((ha | ha) | ha) | ha) d rfl <;> (have:=low ha; exact .inl (by simp only; omega))
 ·rintro a ((((ha | ha) | ha) | ha) | rfl) d hd <;> have:=ten hd
  all_goals first | (have:=low ha; exact .inl (by omega)) | exact .inl (by simp only; omega)
 ·rintro a (((((ha | ha) | ha) | ha) | rfl) | ha) d rfl
  all_goals first | (have:=low ha; exact .inl (by simp only; omega)) | (have:=ten ha; exact .inl (by simp only; omega)) | exact .inl (by simp only; omega)
theorem wb {f : Bool} {c : Cmd} : c ∈ (za0 3 ++ za0 4 ++ za0 5 ++ za0 6 ++ [((9,0,0,0) : Cmd)] ++ (if f then [(10,0,0,0)] else []) ++ [(11,0,0,0)]) ↔ (∃ k a,c = (k,a,0,0) ∧ (k = 3 ∨ k = 4 ∨ k = 5 ∨ k = 6) ∧ 1 ≤ a ∧ a ≤ 80) ∨ c = (9,0,0,0) ∨ (c = (10,0,0,0) ∧ f = true) ∨ c = (11,0,0,0):=by
 simp only [List.mem_append,zpp,List.mem_singleton]
 constructor
 ·rintro ((((((⟨a,h⟩ | ⟨a,h⟩) | ⟨a,h⟩) | ⟨a,h⟩) | h) | h) | h)
  ·exact .inl ⟨3,a,h.1,.inl rfl,h.2⟩
  ·exact .inl ⟨4,a,h.1,.inr (.inl rfl),h.2⟩
  ·exact .inl ⟨5,a,h.1,.inr (.inr (.inl rfl)),h.2⟩
  ·exact .inl ⟨6,a,h.1,.inr (.inr (.inr rfl)),h.2⟩
  ·exact .inr (.inl h)
  ·cases f
   ·simp at h
   ·simp at h; exact .inr (.inr (.inl ⟨h,rfl⟩))
  ·exact .inr (.inr (.inr h))
 ·rintro (⟨k,a,h,(rfl | rfl | rfl | rfl),h2⟩ | h | ⟨h,rfl⟩ | h)
  ·exact .inl (.inl (.inl (.inl (.inl (.inl ⟨a,h,h2⟩)))))
  ·exact .inl (.inl (.inl (.inl (.inl (.inr ⟨a,h,h2⟩)))))
  ·exact .inl (.inl (.inl (.inl (.inr ⟨a,h,h2⟩))))
  ·exact .inl (.inl (.inl (.inr ⟨a,h,h2⟩)))
  ·exact .inl (.inl (.inr h))
  ·exact .inl (.inr (by simp [h]))
  ·exact .inr h
theorem Away.same {w h x y X Y : Int} {b : Bool} (H : Away w h x y X Y b) : ((znh (decide (y < h - 1)) X Y).foldl (jq (zaj w h x y b X Y)) ((0,0,0,0),9)).1 = vt (jw h x y X Y) (goC X Y):=by
 have hX:=H.hX
 have hY:=H.hY
 have hs:=H.hs
 have lg : zaj w h x y b X Y (goC X Y) = true:=xw.2 (by
  show (yh w h x y b (2,Y,X,0)).1 = X ∧ (yh w h x y b (2,Y,X,0)).2.1 = Y ∧ (yh w h x y b (2,Y,X,0)).2.2 = false
  rw [zmo]; exact ⟨xg (by omega) (by omega),xg (by omega) (by omega),rfl⟩)
 have hg:=wo (goC X Y)
 unfold znh
 rw [List.foldl_cons,show jq (zaj w h x y b X Y) ((0,0,0,0),9) (goC X Y) = (goC X Y,xk (goC X Y)) from if_pos ⟨by show xk (goC X Y) < 9; omega,lg⟩,zfg]
 simp only
 have p1:=zhu ((za0 3 ++ za0 4 ++ za0 5 ++ za0 6 ++ [((9,0,0,0) : Cmd)] ++ (if decide (y < h - 1) then [(10,0,0,0)] else []) ++ [(11,0,0,0)]).filter (zaj w h x y b X Y)) (goC X Y) (fun d hd=>by
  rcases wb.1 (List.mem_filter.1 hd).1 with ⟨k,a,rfl,hk,_⟩ | rfl | ⟨rfl,_⟩ | rfl
  ·exact .inl (show (2 : Int) < k by omega)
  ·exact .inl (show (2 : Int) < 9 by omega)
  ·exact .inl (show (2 : Int) < 10 by omega)
  ·exact .inl (show (2 : Int) < 11 by omega)) ((zz3 _).filter _)
 have p2:=zhu (jw h x y X Y) (goC X Y) (fun d hd=>by
  rcases (H.moves hd).2 with rfl | ⟨k,a,rfl,hk,_⟩ | rfl | ⟨rfl,_⟩ | rfl
  ·exact .inr ⟨rfl,Int.le_refl _⟩
  ·exact .inl (show (2 : Int) < k by omega)
  ·exact .inl (show (2 : Int) < 9 by omega)
  ·exact .inl (show (2 : Int) < 10 by omega)
  ·exact .inl (show (2 : Int) < 11 by omega)) (zly h x y X Y)
 generalize vt ((za0 3 ++ za0 4 ++ za0 5 ++ za0 6 ++ [((9,0,0,0) : Cmd)] ++ (if decide (y < h - 1) then [(10,0,0,0)] else []) ++ [(11,0,0,0)]).filter (zaj w h x y b X Y)) (goC X Y) = r1 at *
 generalize vt (jw h x y X Y) (goC X Y) = r2 at *
 obtain ⟨m1,q1⟩:=p1
 obtain ⟨m2,q2⟩:=p2
 have in2 : ∀ d,d = goC X Y ∨ d ∈ jw h x y X Y → zai r1 d:=fun d hd=>by
  rcases hd with rfl | hd
  ·exact q1 _ List.mem_cons_self
  ·obtain ⟨k1,k2⟩:=H.moves hd
   rcases k2 with rfl | k2
   ·exact q1 _ List.mem_cons_self
   ·refine q1 _ (List.mem_cons_of_mem _ (List.mem_filter.2 ⟨wb.2 ?_,k1⟩))
    rcases k2 with k2 | k2 | k2 | k2
    ·exact .inl k2
    ·exact .inr (.inl k2)
    ·exact .inr (.inr (.inl ⟨k2.1,decide_eq_true k2.2⟩))
    ·exact .inr (.inr (.inr k2))
 have l12 : zai r1 r2:=in2 r2 (by rcases List.mem_cons.1 m2 with h | h; exact .inl h; exact .inr h)
 have l21 : zai r2 r1:=by
  rcases List.mem_cons.1 m1 with rfl | hm
  ·exact q2 _ List.mem_cons_self
  ·obtain ⟨k1,k2⟩:=List.mem_filter.1 hm
   rcases wb.1 k1 with ⟨k,a,rfl,hk,ha⟩ | rfl | ⟨rfl,hf⟩ | rfl
   ·obtain ⟨d,d1,d2⟩:=H.least hk ha k2
    exact zbv (q2 d (List.mem_cons_of_mem _ d1)) d2
   ·exact q2 _ (List.mem_cons_of_mem _ (H.home k2))
   ·exact q2 _ (List.mem_cons_of_mem _ (H.feed (of_decide_eq_true hf) k2))
   ·exact q2 _ (List.mem_cons_of_mem _ (H.back k2))
 have form1 : r1 = goC X Y ∨ ∃ k a,r1 = (k,a,0,0) ∧ 3 ≤ k:=by
  rcases List.mem_cons.1 m1 with h | hm
  ·exact .inl h
  ·rcases wb.1 (List.mem_filter.1 hm).1 with ⟨k,a,h,hk,_⟩ | h | ⟨h,_⟩ | h
   ·exact .inr ⟨k,a,h,by omega⟩
   ·exact .inr ⟨_,_,h,by omega⟩
   ·exact .inr ⟨_,_,h,by omega⟩
   ·exact .inr ⟨_,_,h,by omega⟩
 have form2 : r2 = goC X Y ∨ ∃ k a,r2 = (k,a,0,0) ∧ 3 ≤ k:=by
  rcases List.mem_cons.1 m2 with h | hm
  ·exact .inl h
  ·rcases (H.moves hm).2 with h | ⟨k,a,h,hk,_⟩ | h | ⟨h,_⟩ | h
   ·exact .inl h
   ·exact .inr ⟨k,a,h,by omega⟩
   ·exact .inr ⟨_,_,h,by omega⟩
   ·exact .inr ⟨_,_,h,by omega⟩
   ·exact .inr ⟨_,_,h,by omega⟩
 have e1 : r1.1 = r2.1:=by unfold zai at l12 l21; omega
 have e2 : r1.2.1 = r2.2.1:=by unfold zai at l12 l21; omega
 rcases form1 with rfl | ⟨k,a,rfl,hk⟩ <;> rcases form2 with rfl | ⟨k',a',rfl,hk'⟩
 ·rfl
 ·simp [goC] at e1; omega
 ·simp [goC] at e1; omega
 ·simp only at e1 e2; rw [e1,e2]
end Go.Proofs.YtgfmjmfphmjdkaaGreatDoor
namespace Go.Proofs.YtgfmjmfphmjdkaaGreatDoor
set_option maxHeartbeats 4000000
open Go Go.RowKit
set_option maxRecDepth 100000
def zx0 (w h x y : Int) (b : Bool) (c : Cmd) : Int × Int × Bool:=(z_f w h [] x y b c).2.2.2
theorem z9i (w h x y : Int) (b : Bool) (c : Cmd) : yh w h x y b c = zx0 w h x y b c:=by unfold yh zx0; rw [z9e]
def z41 (w h : Int) (l : List zi) (x y : Int) (b s : Bool) : Bool:=(qu w h && decide ((l.length : Int) = w * h) && (List.range l.length).all (znc w.toNat l)) && z7d w h x y b s
theorem zis (w h : Int) (l : List zi) (x y : Int) (b s : Bool) : vr w h l x y b s = z41 w h l x y b s:=by
 unfold vr z41; congr 1; rw [Bool.eq_iff_iff]; simp [OkL,qu,and_assoc]
abbrev ze3 (b : Bel) : Bool:=z41 b.1 b.2.1 b.2.2.1 b.2.2.2.1 b.2.2.2.2.1 b.2.2.2.2.2.1 b.2.2.2.2.2.2
def z6a (w h : Int) (l : List zi) (x y : Int) (b : Bool) (c : Cmd) : Bel :=
 (w,h,kp w.toNat h.toNat l x.toNat y.toNat b c,(zx0 w h x y b c).1,(zx0 w h x y b c).2.1,(zx0 w h x y b c).2.2,true)
def qbe (b : Bel) (c : Cmd) : Bel × Int :=
 if ze3 b = true ∧ z9 c = true then
  if b.2.2.2.2.2.2 = false ∧ chg c.1 = true then yg b.1 b.2.1
  else if (b.2.2.2.2.2.2 = false ∧ c.1 ≠ 2) ∨ c.1 = 12 then (b,0)
  else (z6a b.1 b.2.1 b.2.2.1 b.2.2.2.1 b.2.2.2.2.1 b.2.2.2.2.2.1 c,0)
 else (noB,1)
theorem z9g (w h : Int) (l : List zi) (x y : Int) (b : Bool) (c : Cmd) : znf w h l x y b c = z6a w h l x y b c:=by unfold znf z6a; rw [z9i]
theorem qbd (b : Bel) (c : Cmd) : doB b c = qbe b c:=by unfold doB qbe yv ze3; rw [zis,z9g]
def znk (b : Bel) (c : Cmd) : Int × Int :=
 if ¬ (ze3 b = true ∧ z9 c = true ∧ chg c.1 = true) then (0,0)
 else if b.2.2.2.2.2.2 = false ∨ (zq b.1 b.2.2.2.1 b.2.2.2.2.2.1 c = true ∧ b.2.2.2.2.1 = b.2.1 - 1) then (0,b.1 * b.2.1)
 else if c.1 = 10 then (0,0)
 else
  let y:=if zq b.1 b.2.2.2.1 b.2.2.2.2.2.1 c = true then b.2.2.2.2.1 + 1 else b.2.2.2.2.1
  let x:=if zq b.1 b.2.2.2.1 b.2.2.2.2.2.1 c = true then 0 else b.2.2.2.1
  (y * b.1 + max (x - 1) 0,if c.1 = 7 then (y + 1) * b.1 else if c.1 = 8 then b.1 * b.2.1 else y * b.1 + min b.1 (x + (zh c.2.2.2).length + 1))
theorem zzm (b : Bel) (c : Cmd) : xv b c = znk b c:=by unfold xv znk yv ze3; rw [zis]
def zfn (b : Bel) (f t : Int) (cur : Bool) : Bel :=
 if ¬ (ze3 b = true ∧ 0 ≤ f ∧ f ≤ t ∧ t ≤ b.2.2.1.length) then b
 else if cur then (b.1,b.2.1,zd7 b.2.2.1 f.toNat t.toNat,0,0,false,false)
 else (b.1,b.2.1,zd7 b.2.2.1 f.toNat t.toNat,b.2.2.2.1,b.2.2.2.2.1,b.2.2.2.2.2.1,b.2.2.2.2.2.2)
theorem zwm (b : Bel) (f t : Int) (cur : Bool) : qt b f t cur = zfn b f t cur:=by unfold qt zfn yv ze3; rw [zis]
end Go.Proofs.YtgfmjmfphmjdkaaGreatDoor
namespace Go.Proofs.YtgfmjmfphmjdkaaGreatDoor
set_option maxHeartbeats 4000000
open Go Go.RowKit
set_option maxRecDepth 100000
theorem ztv (l : List Cmd) (c b : Cmd) : vt (l ++ [c]) b = if xk c < xk (vt l b) then c else vt l b:=by
 unfold vt; rw [List.foldl_append]; rfl
def zec (b : Bel) : Bel:=(b.1,b.2.1,List.replicate (b.1.toNat * b.2.1.toNat) wg,b.2.2.2.1,b.2.2.2.2.1,b.2.2.2.2.2.1,b.2.2.2.2.2.2)
theorem zpa {b : Bel} (h : yv b = true) : yv (zec b) = true:=by
 obtain ⟨w,h',l,x,y,bb,s⟩:=b
 obtain ⟨w,h',rfl,rfl,w2,w3,w4,w5,hl,hk,p1,p2⟩:=qn.1 h
 exact qn.2 ⟨w,h',rfl,rfl,w2,w3,w4,w5,by simp [zec],by simpa [zec] using z2p w (w * h'),p1,p2⟩
def zbx (b : Bel) (X Y : Int) : Bool:=b.2.2.2.2.2.2 && decide (b.2.2.2.1 = X) && decide (b.2.2.2.2.1 = Y) && !b.2.2.2.2.2.1
theorem zfm {b : Bel} {X Y : Int} : zbx b X Y = true ↔ b.2.2.2.2.2.2 = true ∧ b.2.2.2.1 = X ∧ b.2.2.2.2.1 = Y ∧ b.2.2.2.2.2.1 = false:=by simp [zbx,and_assoc]
noncomputable def zy5 (b : Bel) (X Y : Int) (c : Cmd) : Bool:=zbx (doB (zec b) c).1 X Y
theorem zqp {X Y : Int} (hx : 0 ≤ X ∧ X ≤ 79) (hy : 0 ≤ Y ∧ Y ≤ 23) : z9 (goC X Y) = true:=by
 have : z9 (2,Y,X,0) = true:=by simp [z9]; omega
 exact this
theorem zpj {f : Bool} {X Y : Int} (hx : 0 ≤ X ∧ X ≤ 79) (hy : 0 ≤ Y ∧ Y ≤ 23) {c : Cmd} (hc : c ∈ znh f X Y) : z9 c = true:=by
 unfold znh at hc
 rcases List.mem_cons.1 hc with rfl | hc
 ·exact zqp hx hy
 ·rcases wb.1 hc with ⟨k,a,rfl,hk,ha⟩ | rfl | ⟨rfl,_⟩ | rfl
  ·exact z36 hk ha
  ·rfl
  ·rfl
  ·rfl
theorem ziw {p q : Cmd → Bool} : ∀ (l : List Cmd) (s : Cmd × Nat),(∀ c ∈ l,p c = q c) → l.foldl (jq p) s = l.foldl (jq q) s
 |[],_,_=>rfl
 |c :: l,s,h=>by
  rw [List.foldl_cons,List.foldl_cons,show jq p s c = jq q s c by unfold jq; rw [h c List.mem_cons_self]]
  exact ziw l _ fun d hd=>h d (List.mem_cons_of_mem _ hd)
theorem zl9 {p : Cmd → Bool} : ∀ (l : List Cmd) (s : Cmd × Nat),(∀ c ∈ l,p c = false) → l.foldl (jq p) s = s
 |[],_,_=>rfl
 |c :: l,s,h=>by
  rw [List.foldl_cons,show jq p s c = s by unfold jq; rw [h c List.mem_cons_self]; simp]
  exact zl9 l _ fun d hd=>h d (List.mem_cons_of_mem _ hd)
theorem z0s {w h x y X Y : Int} {l : List zi} {b : Bool} {c : Cmd} (h1 : vr w h l x y b true = true) (hc : z9 c = true) (h12 : c.1 ≠ 12) : zy5 (w,h,l,x,y,b,true) X Y c = zaj w h x y b X Y c:=by
 have h2:=zpa (b:=(w,h,l,x,y,b,true)) h1
 unfold zy5
 rw [show zec (w,h,l,x,y,b,true) = (w,h,List.replicate (w.toNat * h.toNat) wg,x,y,b,true) from rfl] at h2 ⊢
 rw [zkr h2 hc h12,Bool.eq_iff_iff,xw,zfm]
 exact ⟨fun z=>z.2,fun z=>⟨rfl,z⟩⟩
theorem zsg {b : Bel} {X Y : Int} (h1 : yv b = true) (hX : 0 ≤ X ∧ X < b.1) (hY : 0 ≤ Y ∧ Y < b.2.1) (hn : zbx b X Y = false) : (((znh (b.2.2.2.2.2.2 && decide (b.2.2.2.2.1 < b.2.1 - 1)) X Y).foldl (jq (zy5 b X Y)) ((0,0,0,0),9)).1,(0 : Int)) = qq b X Y:=by
 obtain ⟨w,h,l,x,y,bb,s⟩:=b
 have h1':=h1
 obtain ⟨w',h',e1,e2,w2,w3,w4,w5,hl,hk,p1,p2⟩:=qn.1 h1'
 simp only at hX hY e1 e2
 unfold qq
 rw [if_neg (fun z=>z ⟨h1,hX.1,hX.2,hY.1,hY.2⟩)]
 have hX' : 0 ≤ X ∧ X ≤ 79:=by omega
 have hY' : 0 ≤ Y ∧ Y ≤ 23:=by omega
 cases s with
 |false =>
  rw [if_pos rfl]
  obtain ⟨rfl,rfl,rfl⟩:=p2 rfl
  simp only [Bool.false_and]
  have hg:=wo (goC X Y)
  have h2:=zpa (b:=(w,h,l,0,0,false,false)) h1
  have hgo : zy5 (w,h,l,0,0,false,false) X Y (goC X Y) = true:=by
   unfold zy5
   rw [show zec (w,h,l,0,0,false,false) = (w,h,List.replicate (w.toNat * h.toNat) wg,0,0,false,false) from rfl] at h2 ⊢
   rw [z3h h2 (zqp hX' hY') rfl]
   have e:=zmo w h 0 0 false Y X
   rw [xg (by omega) (by omega),xg (by omega) (by omega)] at e
   refine zfm.2 ⟨rfl, ?_, ?_, ?_⟩
   ·exact congrArg Prod.fst e
   ·exact congrArg (fun z=>z.2.1) e
   ·exact congrArg (fun z=>z.2.2) e
  have hrest : ∀ c ∈ znh false X Y,c ≠ goC X Y → zy5 (w,h,l,0,0,false,false) X Y c = false:=fun c hc hne=>by
   have hc2:=zpj hX' hY' hc
   have h2' : c.1 ≠ 2:=by
    unfold znh at hc
    rcases List.mem_cons.1 hc with rfl | hc
    ·exact absurd rfl hne
    ·rcases wb.1 hc with ⟨k,a,rfl,hk,ha⟩ | rfl | ⟨rfl,_⟩ | rfl
     ·show k ≠ 2; omega
     all_goals decide
   unfold zy5 zbx
   rw [show zec (w,h,l,0,0,false,false) = (w,h,List.replicate (w.toNat * h.toNat) wg,0,0,false,false) from rfl] at h2 ⊢
   rw [z9f h2 hc2 h2']; rfl
  unfold znh at hrest ⊢
  rw [List.foldl_cons,show jq (zy5 (w,h,l,0,0,false,false) X Y) ((0,0,0,0),9) (goC X Y) = (goC X Y,xk (goC X Y)) from if_pos ⟨by show xk (goC X Y) < 9; omega,hgo⟩,zl9 _ _ fun c hc=>hrest c (List.mem_cons_of_mem _ hc) fun e=>by
   rcases wb.1 hc with ⟨k,a,rfl,hk,ha⟩ | rfl | ⟨rfl,_⟩ | rfl
   ·have:=congrArg Prod.fst e; simp only [goC] at this; omega
   all_goals (have:=congrArg Prod.fst e; simp [goC] at this)]
 |true =>
  have hn' : ¬ (x = X ∧ y = Y ∧ bb = false):=fun z=>by
   obtain ⟨rfl,rfl,rfl⟩:=z
   simp [zbx] at hn
  rw [if_neg (fun z=>absurd (show true = false from z) (by decide)),if_neg hn']
  obtain ⟨q1,q2,q3,q4,q5⟩:=p1 rfl
  simp only [Bool.true_and]
  rw [ziw (q:=zaj w h x y bb X Y) _ _ fun c hc=>z0s h1 (zpj hX' hY' hc) fun e=>by
   unfold znh at hc
   rcases List.mem_cons.1 hc with rfl | hc
   ·simp [goC] at e
   ·rcases wb.1 hc with ⟨k,a,rfl,hk,ha⟩ | rfl | ⟨rfl,_⟩ | rfl
    ·simp only at e; omega
    all_goals simp at e]
  rw [Away.same ⟨⟨by omega,by omega,by omega,by omega⟩,⟨q1,by omega⟩,⟨q3,by omega⟩,hX,hY,fun e=>by have:=q5 e; omega,hn'⟩]
theorem zbu {b : Bel} {X Y : Int} (h1 : yv b = true) (hX : 0 ≤ X ∧ X < b.1) (hY : 0 ≤ Y ∧ Y < b.2.1) (hn : zbx b X Y = true) : qq b X Y = ((0,0,0,0),7):=by
 obtain ⟨w,h,l,x,y,bb,s⟩:=b
 simp only [zbx,Bool.and_eq_true,decide_eq_true_eq,Bool.not_eq_true'] at hn
 obtain ⟨⟨⟨a1,a2⟩,a3⟩,a4⟩:=hn
 unfold qq
 rw [if_neg (fun z=>z ⟨h1,hX.1,hX.2,hY.1,hY.2⟩),if_neg (by simp only; rw [a1]; decide),if_pos ⟨a2,a3,a4⟩]
theorem zlx {b : Bel} {X Y : Int} (h : (qq b X Y).2 = 0) : yv b = true ∧ (0 ≤ X ∧ X < b.1) ∧ (0 ≤ Y ∧ Y < b.2.1) ∧ ((b.2.2.2.2.2.2 = false ∧ (qq b X Y).1 = goC X Y) ∨ (b.2.2.2.2.2.2 = true ∧ Away b.1 b.2.1 b.2.2.2.1 b.2.2.2.2.1 X Y b.2.2.2.2.2.1 ∧ (qq b X Y).1 = vt (jw b.2.1 b.2.2.2.1 b.2.2.2.2.1 X Y) (goC X Y))):=by
 by_cases h0 : yv b = true ∧ 0 ≤ X ∧ X < b.1 ∧ 0 ≤ Y ∧ Y < b.2.1
 ·refine ⟨h0.1,⟨h0.2.1,h0.2.2.1⟩,⟨h0.2.2.2.1,h0.2.2.2.2⟩, ?_⟩
  unfold qq at h ⊢
  rw [if_neg (fun z=>z h0)] at h ⊢
  by_cases hs : b.2.2.2.2.2.2 = false
  ·rw [if_pos hs]; exact .inl ⟨hs,rfl⟩
  ·rw [if_neg hs] at h ⊢
   by_cases ht : b.2.2.2.1 = X ∧ b.2.2.2.2.1 = Y ∧ b.2.2.2.2.2.1 = false
   ·rw [if_pos ht] at h; cases h
   ·rw [if_neg ht]
    obtain ⟨w',h',e1,e2,w2,w3,w4,w5,hl,hk,p1,p2⟩:=qn.1 h0.1
    have hs' : b.2.2.2.2.2.2 = true:=by simpa using hs
    obtain ⟨q1,q2,q3,q4,q5⟩:=p1 hs'
    exact .inr ⟨hs',⟨⟨by omega,by omega,by omega,by omega⟩,⟨q1,by omega⟩,⟨q3,by omega⟩,⟨h0.2.1,h0.2.2.1⟩,⟨h0.2.2.2.1,h0.2.2.2.2⟩,fun e=>by have:=q5 e; omega,ht⟩,rfl⟩
 ·unfold qq at h; rw [if_pos h0] at h; cases h
def z6t (h y : Int) (X Y : Int) (c : Cmd) : Prop:=c = goC X Y ∨ (∃ k a,c = (k,a,0,0) ∧ (k = 3 ∨ k = 4 ∨ k = 5 ∨ k = 6) ∧ 1 ≤ a ∧ a ≤ 80) ∨ c = (9,0,0,0) ∨ (c = (10,0,0,0) ∧ y < h - 1) ∨ c = (11,0,0,0)
theorem Away.best {w h x y X Y : Int} {b : Bool} (H : Away w h x y X Y b) : zaj w h x y b X Y (vt (jw h x y X Y) (goC X Y)) = true ∧ z6t h y X Y (vt (jw h x y X Y) (goC X Y)) ∧ (∀ d,d = goC X Y ∨ d ∈ jw h x y X Y → zai (vt (jw h x y X Y) (goC X Y)) d):=by
 have hX:=H.hX
 have hY:=H.hY
 have hs:=H.hs
 have lg : zaj w h x y b X Y (goC X Y) = true:=xw.2 (by
  show (yh w h x y b (2,Y,X,0)).1 = X ∧ (yh w h x y b (2,Y,X,0)).2.1 = Y ∧ (yh w h x y b (2,Y,X,0)).2.2 = false
  rw [zmo]; exact ⟨xg (by omega) (by omega),xg (by omega) (by omega),rfl⟩)
 obtain ⟨m2,q2⟩:=zhu (jw h x y X Y) (goC X Y) (fun d hd=>by
  rcases (H.moves hd).2 with rfl | ⟨k,a,rfl,hk,_⟩ | rfl | ⟨rfl,_⟩ | rfl
  ·exact .inr ⟨rfl,Int.le_refl _⟩
  ·exact .inl (show (2 : Int) < k by omega)
  ·exact .inl (show (2 : Int) < 9 by omega)
  ·exact .inl (show (2 : Int) < 10 by omega)
  ·exact .inl (show (2 : Int) < 11 by omega)) (zly h x y X Y)
 refine ⟨?_, ?_,fun d hd=>q2 d (by rcases hd with rfl | hd; exact List.mem_cons_self; exact List.mem_cons_of_mem _ hd)⟩
 ·rcases List.mem_cons.1 m2 with e | e
  ·rw [e]; exact lg
  ·exact (H.moves e).1
 ·rcases List.mem_cons.1 m2 with e | e
  ·exact .inl e
  ·exact (H.moves e).2
theorem zcw {h y X Y : Int} {c : Cmd} (hx : 0 ≤ X ∧ X ≤ 79) (hy : 0 ≤ Y ∧ Y ≤ 23) (h1 : z6t h y X Y c) : z9 c = true ∧ c.1 ≠ 12 ∧ zbj c = 0 ∧ (chg c.1 = true → c = (10,0,0,0) ∧ y < h - 1) ∧ c.1 ≠ 1 ∧ c.1 ≠ 7 ∧ c.1 ≠ 8:=by
 have pd : ∀ c : Cmd,c.1 ≠ 7 → c.1 ≠ 8 → zbj c = 0:=fun c a b=>by unfold zbj; rw [if_neg a,if_neg b]; split <;> rfl
 rcases h1 with rfl | ⟨k,a,rfl,hk,ha⟩ | rfl | ⟨rfl,hh⟩ | rfl
 ·have n2 : ∀ k : Int,k ≠ 2 → (goC X Y).1 ≠ k:=fun k hk e=>hk e.symm
  exact ⟨zqp hx hy,n2 _ (by decide),pd _ (n2 _ (by decide)) (n2 _ (by decide)),fun e=>(by simp [chg,goC] at e),n2 _ (by decide),n2 _ (by decide),n2 _ (by decide)⟩
 ·refine ⟨z36 hk ha,show k ≠ 12 by omega,pd _ (show k ≠ 7 by omega) (show k ≠ 8 by omega),fun e => ?_,show k ≠ 1 by omega,show k ≠ 7 by omega,show k ≠ 8 by omega⟩
  simp [chg] at e; omega
 ·exact ⟨rfl,by decide,rfl,fun e=>(by simp [chg] at e),by decide,by decide,by decide⟩
 ·exact ⟨rfl,by decide,rfl,fun _=>⟨rfl,hh⟩,by decide,by decide,by decide⟩
 ·exact ⟨rfl,by decide,rfl,fun e=>(by simp [chg] at e),by decide,by decide,by decide⟩
theorem zso {w h x y : Nat} {X Y : Int} {l : List zi} {b : Bool} {c : Cmd} (hy : (y : Int) < h) (hx : 0 ≤ X ∧ X ≤ 79) (hY : 0 ≤ Y ∧ Y ≤ 23) (h1 : z6t h y X Y c) : kp w h l x y b c = l:=by
 obtain ⟨_,_,_,h4,h5,h6,h7⟩:=zcw hx hY h1
 unfold kp
 rw [if_neg h5,if_neg h6,if_neg h7]
 split
 ·rename_i e
  obtain ⟨_,h⟩:=h4 (by rw [e]; rfl)
  rw [if_pos (by omega)]
 ·rfl
theorem zsm {b : Bel} {X Y : Int} (h : (qq b X Y).2 = 0) : z9 (qq b X Y).1 = true ∧ doB b (qq b X Y).1 = ((b.1,b.2.1,b.2.2.1,X,Y,false,true),0) ∧ xv b (qq b X Y).1 = (0,0) ∧ zbj (qq b X Y).1 = 0 ∧ xk (qq b X Y).1 ≤ xk (goC X Y) ∧ 1 ≤ xk (qq b X Y).1:=by
 obtain ⟨h1,hX,hY,hh⟩:=zlx h
 obtain ⟨w,h0,l,x,y,bb,s⟩:=b
 have h1':=h1
 obtain ⟨w',h',e1,e2,w2,w3,w4,w5,hl,hk,p1,p2⟩:=qn.1 h1'
 simp only at hX hY e1 e2 hh
 subst e1 e2
 have hX' : 0 ≤ X ∧ X ≤ 79:=by omega
 have hY' : 0 ≤ Y ∧ Y ≤ 23:=by omega
 have len1 : ∀ c : Cmd,z9 c = true → 1 ≤ xk c:=fun c hc=>by unfold xk xm; rw [if_pos hc]; exact (zba hc).1
 rcases hh with ⟨rfl,e⟩ | ⟨rfl,H,e⟩
 ·rw [e]
  obtain ⟨rfl,rfl,rfl⟩:=p2 rfl
  have hc:=zqp hX' hY'
  refine ⟨hc, ?_, ?_,(zcw hX' hY' (h:=h') (y:=0) (.inl rfl)).2.2.1,Nat.le_refl _,len1 _ hc⟩
  ·rw [z3h h1 hc rfl]
   have:=zmo w' h' 0 0 false Y X
   unfold znf
   rw [show goC X Y = (2,Y,X,0) from rfl,this,xg (by omega) (by omega),xg (by omega) (by omega)]
   rfl
  ·unfold xv; rw [if_pos (fun z=>by have:=z.2.2; simp [chg,goC] at this)]
 ·rw [e]
  obtain ⟨b1,b2,b3⟩:=H.best
  generalize vt (jw h' x y X Y) (goC X Y) = c at *
  obtain ⟨c1,c2,c3,c4,c5,c6,c7⟩:=zcw hX' hY' b2
  obtain ⟨q1,q2,q3,q4,q5⟩:=p1 rfl
  obtain ⟨x,rfl⟩:=Int.eq_ofNat_of_zero_le q1
  obtain ⟨y,rfl⟩:=Int.eq_ofNat_of_zero_le q3
  refine ⟨c1, ?_, ?_,c3, ?_,len1 _ c1⟩
  ·rw [zkr h1 c1 c2]
   obtain ⟨k1,k2,k3⟩:=xw.1 b1
   unfold znf
   rw [k1,k2,k3]
   simp only [Int.toNat_natCast]
   rw [zso (X:=X) (Y:=Y) (by omega) hX' hY' b2]
  ·unfold xv
   by_cases hg : chg c.1 = true
   ·obtain ⟨rfl,hh⟩:=c4 hg
    rw [if_neg (fun z=>z ⟨h1,c1,hg⟩),if_neg (fun z=>by rcases z with z | z; cases z; simp only at z; omega),if_pos rfl]
   ·rw [if_pos (fun z=>hg z.2.2)]
  ·have:=b3 _ (.inl rfl); unfold zai at this; omega
end Go.Proofs.YtgfmjmfphmjdkaaGreatDoor
