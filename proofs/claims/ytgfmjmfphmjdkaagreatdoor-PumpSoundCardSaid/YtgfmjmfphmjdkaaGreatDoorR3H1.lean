/- Layer 27 (belief), plainly: what the reference lays is what the program lays. No condition. -/
import Derived.Test.YtgfmjmfphmjdkaaGreatDoorR3B1
import Derived.Test.YtgfmjmfphmjdkaaGreatDoorR3ZV
import Derived.Test.YtgfmjmfphmjdkaaGreatDoorR3ZN
set_option linter.unusedSimpArgs false
set_option linter.unusedVariables false
set_option linter.unusedSectionVars false
namespace Go.Proofs.YtgfmjmfphmjdkaaGreatDoor
set_option maxHeartbeats 4000000
open Go Go.RowKit
set_option maxRecDepth 100000
theorem zpz {w h x y : Int} {l : List zj} {b : Bool} {c : Cmd} (h1 : yx w h l x y b true = true) (hc : z9 c = true) (h12 : c.1 ≠ 12) : doB (w,h,l,x,y,b,true) c = (zry w h l x y b c,0):=by
 unfold doB
 rw [if_pos ⟨h1,hc⟩,if_neg (fun h=>by cases h.1),if_neg (fun h=>by rcases h with h | h; cases h.1; exact h12 h)]
theorem z8i {w h x y : Int} {l : List zj} {b s : Bool} {c : Cmd} (h1 : yx w h l x y b s = true) (hc : z9 c = true) (h2 : c.1 = 2) : doB (w,h,l,x,y,b,s) c = (zry w h l x y b c,0):=by
 unfold doB
 rw [if_pos ⟨h1,hc⟩,if_neg (fun h=>by have:=h.2; rw [h2] at this; revert this; decide),if_neg (fun h=>by rcases h with h | h; exact h.2 h2; omega)]
theorem z5_ {k a : Int} (hk : k = 3 ∨ k = 4 ∨ k = 5 ∨ k = 6) (ha : 1 ≤ a ∧ a ≤ 80) : z9 (k,a,0,0) = true:=by
 simp only [z9]
 rw [if_neg (by omega),if_neg (by omega),if_pos (by omega)]; simp; omega
end Go.Proofs.YtgfmjmfphmjdkaaGreatDoor
namespace Go.Proofs.YtgfmjmfphmjdkaaGreatDoor
set_option maxHeartbeats 4000000
open Go Go.RowKit
set_option maxRecDepth 100000
def goC (X Y : Int) : Cmd:=(2,Y,X,0)
def moL (h x y X Y : Int) : List (Bool × Cmd):=[(true,goC X Y),
 (decide (X - x = 0) && (decide (Y - y < 0) || ((decide (X - x = 0) && decide (Y - y = 0)) && decide (Y = 0))),(3,max 1 (-(Y - y)),0,0)),
 (decide (X - x = 0) && (decide (Y - y > 0) || ((decide (X - x = 0) && decide (Y - y = 0)) && decide (Y = h - 1))),(4,max 1 (Y - y),0,0)),
 (decide (Y - y = 0) && (decide (X - x > 0) || (decide (X - x = 0) && decide (Y - y = 0))),(5,max 1 (X - x),0,0)),
 (decide (Y - y = 0) && decide (X - x < 0),(6,max 1 (-(X - x)),0,0)),
 (decide (Y - y = 0) && decide (X = 0),(9,0,0,0)),
 (decide (X - x = 0) && decide (Y - y = 1),(10,0,0,0)),
 (decide (Y - y = 0) && decide (X - x = -1),(11,0,0,0))]
def vx (h x y X Y : Int) : List Cmd:=((moL h x y X Y).filter (·.1)).map (·.2)
def moT : Ty (Bool × Cmd):={ enc:=fun m=>[.bool m.1,.int .i64 m.2.1,.int .i64 m.2.2.1,.int .i64 m.2.2.2.1,.int .i32 m.2.2.2.2],k:=5,len:=fun _=>rfl }
def moA (m : Bool × Cmd) : AV:=qb [B m.1,I m.2.1,I m.2.2.1,I m.2.2.2.1,R m.2.2.2.2]
theorem z2w : Tryz.prog.underlying 170 = some (.struct #[{ name := "is",type:=4,offset:=0,embedded:=false,tag := "",pkgPath := "typebar/motion",byteOffset:=0 },{ name := "c",type:=35,offset:=1,embedded:=false,tag := "",pkgPath := "typebar/motion",byteOffset:=8 }]):=Tryz.underlying170
instance qdu : StC 170 [B false,I 0,I 0,I 0,R 0] [(0,1),(1,4)]:=⟨StT.mk' _ [.bool false,.int .i64 0,.int .i64 0,.int .i64 0,.int .i32 0] z2w (by kernel_rfl) (by kernel_rfl)⟩
instance qca : FldC 170 0 0 4:=⟨_,_,z2w,rfl,rfl,rfl⟩
instance qb_ : FldC 170 1 1 35:=⟨_,_,z2w,rfl,rfl,rfl⟩
instance qdk : SzC 170 5:=⟨xg (by kernel_rfl)⟩
instance qeq : AlC 170 (.agg #[.bool false,.int .i64 0,.int .i64 0,.int .i64 0,.int .i32 0]) [.bool false,.int .i64 0,.int .i64 0,.int .i64 0,.int .i32 0] [B false,I 0,I 0,I 0,R 0]:=⟨by kernel_rfl,rfl,rfl⟩
theorem qag : El Tryz.prog moT 170 (false,0,0,0,0) 40 moA:=⟨⟨.agg #[.bool false,.int .i64 0,.int .i64 0,.int .i64 0,.int .i32 0],by kernel_rfl,rfl⟩,by decide,fun x v hv=>by simp [moT] at hv; rcases hv with rfl | rfl | rfl | rfl | rfl <;> rfl,.inl ⟨kf (by kernel_rfl),fun x=>rfl⟩⟩
instance qej : ElC 170 moT (false,0,0,0,0) 40 moA:=⟨qag⟩
theorem z6a : Tryz.prog.underlying 171 = some (.slice 170):=Tryz.underlying171
instance qbh : UnC 171 (.slice 170):=⟨z6a⟩
end Go.Proofs.YtgfmjmfphmjdkaaGreatDoor
namespace Go.Proofs.YtgfmjmfphmjdkaaGreatDoor
set_option maxHeartbeats 4000000
open Go Go.RowKit
set_option maxRecDepth 100000
def zh0 (c d : Cmd) : Prop:=jb c < jb d ∨ (jb c = jb d ∧ (c.1 < d.1 ∨ (c.1 = d.1 ∧ c.2.1 ≤ d.2.1)))
def kle (c d : Cmd) : Prop:=c.1 < d.1 ∨ (c.1 = d.1 ∧ c.2.1 ≤ d.2.1)
theorem zq1 (c : Cmd) : zh0 c c:=.inr ⟨rfl,.inr ⟨rfl,Int.le_refl _⟩⟩
theorem zgq {a b c : Cmd} (h1 : zh0 a b) (h2 : zh0 b c) : zh0 a c:=by
 unfold zh0 at *; omega
theorem zzi {a b : Cmd} (h : jb a ≤ jb b) (k : kle a b) : zh0 a b:=by
 unfold zh0 kle at *; omega
def ya (l : List Cmd) (b : Cmd) : Cmd:=l.foldl (fun b c=>if jb c < jb b then c else b) b
theorem zr4 (c : Cmd) (l : List Cmd) (b : Cmd) : ya (c :: l) b = ya l (if jb c < jb b then c else b):=rfl
theorem zn4 : ∀ (l : List Cmd) (b : Cmd),(∀ d ∈ l,kle b d) → l.Pairwise kle → ya l b ∈ b :: l ∧ ∀ d ∈ b :: l,zh0 (ya l b) d
 |[],b,_,_=>⟨List.mem_cons_self,fun d hd=>by simp at hd; subst hd; exact zq1 _⟩
 |c :: l,b,hb,hp=>by
  rw [zr4]
  have hc:=List.pairwise_cons.1 hp
  by_cases e : jb c < jb b
  ·rw [if_pos e]
   obtain ⟨i1,i2⟩:=zn4 l c hc.1 hc.2
   refine ⟨List.mem_cons_of_mem _ i1,fun d hd => ?_⟩
   rcases List.mem_cons.1 hd with rfl | hd
   ·exact zgq (i2 c List.mem_cons_self) (.inl e)
   ·exact i2 d hd
  ·rw [if_neg e]
   obtain ⟨i1,i2⟩:=zn4 l b (fun d hd=>hb d (List.mem_cons_of_mem _ hd)) hc.2
   refine ⟨?_,fun d hd => ?_⟩
   ·rcases List.mem_cons.1 i1 with i1 | i1
    ·rw [i1]; exact List.mem_cons_self
    ·exact List.mem_cons_of_mem _ (List.mem_cons_of_mem _ i1)
   ·rcases List.mem_cons.1 hd with rfl | hd
    ·exact i2 _ List.mem_cons_self
    ·rcases List.mem_cons.1 hd with rfl | hd
     ·exact zgq (i2 b List.mem_cons_self) (zzi (by omega) (hb _ List.mem_cons_self))
     ·exact i2 d (List.mem_cons_of_mem _ hd)
noncomputable def xc (b : Bel) (X Y : Int) : Cmd × Int :=
 if ¬ (ub b = true ∧ 0 ≤ X ∧ X < b.1 ∧ 0 ≤ Y ∧ Y < b.2.1) then ((0,0,0,0),1)
 else if b.2.2.2.2.2.2 = false then (goC X Y,0)
 else if b.2.2.2.1 = X ∧ b.2.2.2.2.1 = Y ∧ b.2.2.2.2.2.1 = false then ((0,0,0,0),7)
 else (ya (vx b.2.1 b.2.2.2.1 b.2.2.2.2.1 X Y) (goC X Y),0)
noncomputable def zq2 (w h x y : Int) (b : Bool) (X Y : Int) (c : Cmd) : Bool:=decide (yj w h x y b c = (X,Y,false))
theorem zwd (w h x y : Int) (b : Bool) (A B : Int) : yj w h x y b (2,A,B,0) = (inM B (w - 1),inM A (h - 1),false):=rfl
theorem z8l (w h x y : Int) (b : Bool) (a : Int) : yj w h x y b (3,a,0,0) = (inM x (w - 1),inM (y - a) (h - 1),false):=rfl
theorem z0v (w h x y : Int) (b : Bool) (a : Int) : yj w h x y b (4,a,0,0) = (inM x (w - 1),inM (y + a) (h - 1),false):=rfl
theorem zwc (w h x y : Int) (b : Bool) (a : Int) : yj w h x y b (5,a,0,0) = (inM (x + a) (w - 1),inM y (h - 1),false):=rfl
theorem z0s (w h x y : Int) (b : Bool) (a : Int) : yj w h x y b (6,a,0,0) = (inM (x - a) (w - 1),inM y (h - 1),false):=rfl
theorem z0t (w h x y : Int) (b : Bool) : yj w h x y b (9,0,0,0) = (inM 0 (w - 1),inM y (h - 1),false):=rfl
theorem z0u (w h x y : Int) (b : Bool) : yj w h x y b (10,0,0,0) = (x,(kj w h [] y).2,false):=rfl
theorem z0w (w h x y : Int) (b : Bool) : yj w h x y b (11,0,0,0) = (inM (x - 1) (w - 1),inM y (h - 1),false):=rfl
theorem kq {w h x y : Int} {b : Bool} {X Y : Int} {c : Cmd} : zq2 w h x y b X Y c = true ↔ (yj w h x y b c).1 = X ∧ (yj w h x y b c).2.1 = Y ∧ (yj w h x y b c).2.2 = false:=by
 rw [zq2,decide_eq_true_eq,Prod.ext_iff,Prod.ext_iff]
section
variable {w h x y X Y : Int} {b : Bool}
structure Away (w h x y X Y : Int) (b : Bool) : Prop where
 hs : 2 ≤ w ∧ w ≤ 80 ∧ 1 ≤ h ∧ h ≤ 24
 hx : 0 ≤ x ∧ x < w
 hy : 0 ≤ y ∧ y < h
 hX : 0 ≤ X ∧ X < w
 hY : 0 ≤ Y ∧ Y < h
 hb : b = true → x = w - 1
 hno : ¬ (x = X ∧ y = Y ∧ b = false)
theorem Away.wrap (H : Away w h x y X Y b) (h1 : x = X) (h2 : y = Y) : x = w - 1:=by
 cases e : b with
 |true=>exact H.hb e
 |false=>exact absurd ⟨h1,h2,e⟩ H.hno
theorem Away.moves (H : Away w h x y X Y b) {c : Cmd} (hc : c ∈ vx h x y X Y) : zq2 w h x y b X Y c = true ∧ (c = goC X Y ∨ (∃ k a,c = (k,a,0,0) ∧ (k = 3 ∨ k = 4 ∨ k = 5 ∨ k = 6) ∧ 1 ≤ a ∧ a ≤ 80) ∨ c = (9,0,0,0) ∨ (c = (10,0,0,0) ∧ y < h - 1) ∨ c = (11,0,0,0)):=by
 have hw:=H.wrap
 obtain ⟨⟨s1,s2,s3,s4⟩,hx,hy,hX,hY,hb,hno⟩:=H
 obtain ⟨⟨k,c'⟩,h1,rfl⟩:=List.mem_map.1 hc
 obtain ⟨h2,h3⟩:=List.mem_filter.1 h1
 simp only at h3
 subst h3
 simp only [moL,List.mem_cons,List.not_mem_nil,or_false,Prod.mk.injEq] at h2
 have go : ∀ {z1 z2 : Int},z1 = X → z2 = Y → ((z1,z2,false) : Int × Int × Bool).1 = X ∧ ((z1,z2,false) : Int × Int × Bool).2.1 = Y ∧ ((z1,z2,false) : Int × Int × Bool).2.2 = false:=fun h1 h2=>⟨h1,h2,rfl⟩
 rcases h2 with ⟨-,rfl⟩ | ⟨q,rfl⟩ | ⟨q,rfl⟩ | ⟨q,rfl⟩ | ⟨q,rfl⟩ | ⟨q,rfl⟩ | ⟨q,rfl⟩ | ⟨q,rfl⟩
 ·refine ⟨kq.2 ?_,.inl rfl⟩
  show (yj w h x y b (2,Y,X,0)).1 = X ∧ _
  rw [zwd]; exact go (zav (by omega) (by omega)) (zav (by omega) (by omega))
 ·simp at q
  refine ⟨kq.2 ?_,.inr (.inl ⟨_,_,rfl,by decide,by omega,by omega⟩)⟩
  rw [z8l]; exact ⟨by simp only [inM]; omega,by simp only [inM]; omega,rfl⟩
 ·simp at q
  refine ⟨kq.2 ?_,.inr (.inl ⟨_,_,rfl,by decide,by omega,by omega⟩)⟩
  rw [z0v]; exact ⟨by simp only [inM]; omega,by simp only [inM]; omega,rfl⟩
 ·simp at q
  refine ⟨kq.2 ?_,.inr (.inl ⟨_,_,rfl,by decide,by omega,by omega⟩)⟩
  rw [zwc]; exact ⟨by simp only [inM]; omega,by simp only [inM]; omega,rfl⟩
 ·simp at q
  refine ⟨kq.2 ?_,.inr (.inl ⟨_,_,rfl,by decide,by omega,by omega⟩)⟩
  rw [z0s]; exact ⟨by simp only [inM]; omega,by simp only [inM]; omega,rfl⟩
 ·simp at q
  refine ⟨kq.2 ?_,.inr (.inr (.inl rfl))⟩
  rw [z0t]; exact ⟨by simp only [inM]; omega,by simp only [inM]; omega,rfl⟩
 ·simp at q
  refine ⟨kq.2 ?_,.inr (.inr (.inr (.inl ⟨rfl,by omega⟩)))⟩
  rw [z0u,kj,if_neg (by omega)]; exact ⟨by simp only; omega,by simp only; omega,rfl⟩
 ·simp at q
  refine ⟨kq.2 ?_,.inr (.inr (.inr (.inr rfl)))⟩
  rw [z0w]; exact ⟨by simp only [inM]; omega,by simp only [inM]; omega,rfl⟩
end
theorem ut {P : Cmd → Cmd → Prop} : ∀ (l : List (Bool × Cmd)),(l.map (·.2)).Pairwise P → ((l.filter (·.1)).map (·.2)).Pairwise P
 |[],_=>List.Pairwise.nil
 |(k,c) :: l,h=>by
  have h':=List.pairwise_cons.1 h
  rw [List.filter_cons]
  split
  ·refine List.pairwise_cons.2 ⟨fun d hd=>h'.1 d ?_,ut l h'.2⟩
   obtain ⟨z,z1,z2⟩:=List.mem_map.1 hd
   exact List.mem_map.2 ⟨z,(List.mem_filter.1 z1).1,z2⟩
  ·exact ut l h'.2
theorem zub (h x y X Y : Int) : (vx h x y X Y).Pairwise kle:=by
 apply ut
 simp [moL,kle,goC]
end Go.Proofs.YtgfmjmfphmjdkaaGreatDoor
namespace Go.Proofs.YtgfmjmfphmjdkaaGreatDoor
set_option maxHeartbeats 4000000
open Go Go.RowKit
set_option maxRecDepth 100000
def zwe (w h x y : Int) (b : Bool) (c : Cmd) : Int × Int × Bool:=(z9j w h [] x y b c).2.2.2
theorem z8m (w h x y : Int) (b : Bool) (c : Cmd) : yj w h x y b c = zwe w h x y b c:=by unfold yj zwe; rw [z8g]
def z3p (w h : Int) (l : List zj) (x y : Int) (b s : Bool) : Bool:=(xl w h && decide ((l.length : Int) = w * h) && (List.range l.length).all (zzs w.toNat l)) && z8n w h x y b s
theorem zii (w h : Int) (l : List zj) (x y : Int) (b s : Bool) : yx w h l x y b s = z3p w h l x y b s:=by
 unfold yx z3p; congr 1; rw [Bool.eq_iff_iff]; simp [OkL,xl,and_assoc]
abbrev zey (b : Bel) : Bool:=z3p b.1 b.2.1 b.2.2.1 b.2.2.2.1 b.2.2.2.2.1 b.2.2.2.2.2.1 b.2.2.2.2.2.2
def z4x (w h : Int) (l : List zj) (x y : Int) (b : Bool) (c : Cmd) : Bel :=
 (w,h,j_ w.toNat h.toNat l x.toNat y.toNat b c,(zwe w h x y b c).1,(zwe w h x y b c).2.1,(zwe w h x y b c).2.2,true)
def qal (b : Bel) (c : Cmd) : Bel × Int :=
 if zey b = true ∧ z9 c = true then
  if b.2.2.2.2.2.2 = false ∧ chg c.1 = true then ye b.1 b.2.1
  else if (b.2.2.2.2.2.2 = false ∧ c.1 ≠ 2) ∨ c.1 = 12 then (b,0)
  else (z4x b.1 b.2.1 b.2.2.1 b.2.2.2.1 b.2.2.2.2.1 b.2.2.2.2.2.1 c,0)
 else (noB,1)
theorem z8j (w h : Int) (l : List zj) (x y : Int) (b : Bool) (c : Cmd) : zry w h l x y b c = z4x w h l x y b c:=by unfold zry z4x; rw [z8m]
theorem qak (b : Bel) (c : Cmd) : doB b c = qal b c:=by unfold doB qal ub zey; rw [zii,z8j]
def zmy (b : Bel) (c : Cmd) : Int × Int :=
 if ¬ (zey b = true ∧ z9 c = true ∧ chg c.1 = true) then (0,0)
 else if b.2.2.2.2.2.2 = false ∨ (qc b.1 b.2.2.2.1 b.2.2.2.2.2.1 c = true ∧ b.2.2.2.2.1 = b.2.1 - 1) then (0,b.1 * b.2.1)
 else if c.1 = 10 then (0,0)
 else
  let y:=if qc b.1 b.2.2.2.1 b.2.2.2.2.2.1 c = true then b.2.2.2.2.1 + 1 else b.2.2.2.2.1
  let x:=if qc b.1 b.2.2.2.1 b.2.2.2.2.2.1 c = true then 0 else b.2.2.2.1
  (y * b.1 + max (x - 1) 0,if c.1 = 7 then (y + 1) * b.1 else if c.1 = 8 then b.1 * b.2.1 else y * b.1 + min b.1 (x + (zh c.2.2.2).length + 1))
theorem zx3 (b : Bel) (c : Cmd) : jh b c = zmy b c:=by unfold jh zmy ub zey; rw [zii]
def zfl (b : Bel) (f t : Int) (cur : Bool) : Bel :=
 if ¬ (zey b = true ∧ 0 ≤ f ∧ f ≤ t ∧ t ≤ b.2.2.1.length) then b
 else if cur then (b.1,b.2.1,zj0 b.2.2.1 f.toNat t.toNat,0,0,false,false)
 else (b.1,b.2.1,zj0 b.2.2.1 f.toNat t.toNat,b.2.2.2.1,b.2.2.2.2.1,b.2.2.2.2.2.1,b.2.2.2.2.2.2)
theorem zu3 (b : Bel) (f t : Int) (cur : Bool) : xb b f t cur = zfl b f t cur:=by unfold xb zfl ub zey; rw [zii]
end Go.Proofs.YtgfmjmfphmjdkaaGreatDoor
namespace Go.Proofs.YtgfmjmfphmjdkaaGreatDoor
set_option maxHeartbeats 4000000
open Go Go.RowKit
set_option maxRecDepth 100000
theorem zr3 (l : List Cmd) (c b : Cmd) : ya (l ++ [c]) b = if jb c < jb (ya l b) then c else ya l b:=by
 unfold ya; rw [List.foldl_append]; rfl
def zfj (b : Bel) (X Y : Int) : Bool:=b.2.2.2.2.2.2 && decide (b.2.2.2.1 = X) && decide (b.2.2.2.2.1 = Y) && !b.2.2.2.2.2.1
theorem zjw {b : Bel} {X Y : Int} : zfj b X Y = true ↔ b.2.2.2.2.2.2 = true ∧ b.2.2.2.1 = X ∧ b.2.2.2.2.1 = Y ∧ b.2.2.2.2.2.1 = false:=by simp [zfj,and_assoc]
theorem z1z {X Y : Int} (hx : 0 ≤ X ∧ X ≤ 79) (hy : 0 ≤ Y ∧ Y ≤ 23) : z9 (goC X Y) = true:=by
 have : z9 (2,Y,X,0) = true:=by simp [z9]; omega
 exact this
theorem zgm {b : Bel} {X Y : Int} (h1 : ub b = true) (hX : 0 ≤ X ∧ X < b.1) (hY : 0 ≤ Y ∧ Y < b.2.1) (hn : zfj b X Y = true) : xc b X Y = ((0,0,0,0),7):=by
 obtain ⟨w,h,l,x,y,bb,s⟩:=b
 simp only [zfj,Bool.and_eq_true,decide_eq_true_eq,Bool.not_eq_true'] at hn
 obtain ⟨⟨⟨a1,a2⟩,a3⟩,a4⟩:=hn
 unfold xc
 rw [if_neg (fun z=>z ⟨h1,hX.1,hX.2,hY.1,hY.2⟩),if_neg (by simp only; rw [a1]; decide),if_pos ⟨a2,a3,a4⟩]
theorem zlk {b : Bel} {X Y : Int} (h : (xc b X Y).2 = 0) : ub b = true ∧ (0 ≤ X ∧ X < b.1) ∧ (0 ≤ Y ∧ Y < b.2.1) ∧ ((b.2.2.2.2.2.2 = false ∧ (xc b X Y).1 = goC X Y) ∨ (b.2.2.2.2.2.2 = true ∧ Away b.1 b.2.1 b.2.2.2.1 b.2.2.2.2.1 X Y b.2.2.2.2.2.1 ∧ (xc b X Y).1 = ya (vx b.2.1 b.2.2.2.1 b.2.2.2.2.1 X Y) (goC X Y))):=by
 by_cases h0 : ub b = true ∧ 0 ≤ X ∧ X < b.1 ∧ 0 ≤ Y ∧ Y < b.2.1
 ·refine ⟨h0.1,⟨h0.2.1,h0.2.2.1⟩,⟨h0.2.2.2.1,h0.2.2.2.2⟩, ?_⟩
  unfold xc at h ⊢
  rw [if_neg (fun z=>z h0)] at h ⊢
  by_cases hs : b.2.2.2.2.2.2 = false
  ·rw [if_pos hs]; exact .inl ⟨hs,rfl⟩
  ·rw [if_neg hs] at h ⊢
   by_cases ht : b.2.2.2.1 = X ∧ b.2.2.2.2.1 = Y ∧ b.2.2.2.2.2.1 = false
   ·rw [if_pos ht] at h; cases h
   ·rw [if_neg ht]
    obtain ⟨w',h',e1,e2,w2,w3,w4,w5,hl,hk,p1,p2⟩:=qn.1 h0.1
    have hs' : b.2.2.2.2.2.2 = true:=by simpa using hs
    obtain ⟨q1,q2,q3,q4,q5⟩:=p1 hs'
    exact .inr ⟨hs',⟨⟨by omega,by omega,by omega,by omega⟩,⟨q1,by omega⟩,⟨q3,by omega⟩,⟨h0.2.1,h0.2.2.1⟩,⟨h0.2.2.2.1,h0.2.2.2.2⟩,fun e=>by have:=q5 e; omega,ht⟩,rfl⟩
 ·unfold xc at h; rw [if_pos h0] at h; cases h
def z5n (h y : Int) (X Y : Int) (c : Cmd) : Prop:=c = goC X Y ∨ (∃ k a,c = (k,a,0,0) ∧ (k = 3 ∨ k = 4 ∨ k = 5 ∨ k = 6) ∧ 1 ≤ a ∧ a ≤ 80) ∨ c = (9,0,0,0) ∨ (c = (10,0,0,0) ∧ y < h - 1) ∨ c = (11,0,0,0)
theorem Away.best {w h x y X Y : Int} {b : Bool} (H : Away w h x y X Y b) : zq2 w h x y b X Y (ya (vx h x y X Y) (goC X Y)) = true ∧ z5n h y X Y (ya (vx h x y X Y) (goC X Y)) ∧ (∀ d,d = goC X Y ∨ d ∈ vx h x y X Y → zh0 (ya (vx h x y X Y) (goC X Y)) d):=by
 have hX:=H.hX
 have hY:=H.hY
 have hs:=H.hs
 have lg : zq2 w h x y b X Y (goC X Y) = true:=kq.2 (by
  show (yj w h x y b (2,Y,X,0)).1 = X ∧ (yj w h x y b (2,Y,X,0)).2.1 = Y ∧ (yj w h x y b (2,Y,X,0)).2.2 = false
  rw [zwd]; exact ⟨zav (by omega) (by omega),zav (by omega) (by omega),rfl⟩)
 obtain ⟨m2,q2⟩:=zn4 (vx h x y X Y) (goC X Y) (fun d hd=>by
  rcases (H.moves hd).2 with rfl | ⟨k,a,rfl,hk,_⟩ | rfl | ⟨rfl,_⟩ | rfl
  ·exact .inr ⟨rfl,Int.le_refl _⟩
  ·exact .inl (show (2 : Int) < k by omega)
  ·exact .inl (show (2 : Int) < 9 by omega)
  ·exact .inl (show (2 : Int) < 10 by omega)
  ·exact .inl (show (2 : Int) < 11 by omega)) (zub h x y X Y)
 refine ⟨?_, ?_,fun d hd=>q2 d (by rcases hd with rfl | hd; exact List.mem_cons_self; exact List.mem_cons_of_mem _ hd)⟩
 ·rcases List.mem_cons.1 m2 with e | e
  ·rw [e]; exact lg
  ·exact (H.moves e).1
 ·rcases List.mem_cons.1 m2 with e | e
  ·exact .inl e
  ·exact (H.moves e).2
theorem zct {h y X Y : Int} {c : Cmd} (hx : 0 ≤ X ∧ X ≤ 79) (hy : 0 ≤ Y ∧ Y ≤ 23) (h1 : z5n h y X Y c) : z9 c = true ∧ c.1 ≠ 12 ∧ zcl c = 0 ∧ (chg c.1 = true → c = (10,0,0,0) ∧ y < h - 1) ∧ c.1 ≠ 1 ∧ c.1 ≠ 7 ∧ c.1 ≠ 8:=by
 have pd : ∀ c : Cmd,c.1 ≠ 7 → c.1 ≠ 8 → zcl c = 0:=fun c a b=>by unfold zcl; rw [if_neg a,if_neg b]; split <;> rfl
 rcases h1 with rfl | ⟨k,a,rfl,hk,ha⟩ | rfl | ⟨rfl,hh⟩ | rfl
 ·have n2 : ∀ k : Int,k ≠ 2 → (goC X Y).1 ≠ k:=fun k hk e=>hk e.symm
  exact ⟨z1z hx hy,n2 _ (by decide),pd _ (n2 _ (by decide)) (n2 _ (by decide)),fun e=>(by simp [chg,goC] at e),n2 _ (by decide),n2 _ (by decide),n2 _ (by decide)⟩
 ·refine ⟨z5_ hk ha,show k ≠ 12 by omega,pd _ (show k ≠ 7 by omega) (show k ≠ 8 by omega),fun e => ?_,show k ≠ 1 by omega,show k ≠ 7 by omega,show k ≠ 8 by omega⟩
  simp [chg] at e; omega
 ·exact ⟨rfl,by decide,rfl,fun e=>(by simp [chg] at e),by decide,by decide,by decide⟩
 ·exact ⟨rfl,by decide,rfl,fun _=>⟨rfl,hh⟩,by decide,by decide,by decide⟩
 ·exact ⟨rfl,by decide,rfl,fun e=>(by simp [chg] at e),by decide,by decide,by decide⟩
theorem zq0 {w h x y : Nat} {X Y : Int} {l : List zj} {b : Bool} {c : Cmd} (hy : (y : Int) < h) (hx : 0 ≤ X ∧ X ≤ 79) (hY : 0 ≤ Y ∧ Y ≤ 23) (h1 : z5n h y X Y c) : j_ w h l x y b c = l:=by
 obtain ⟨_,_,_,h4,h5,h6,h7⟩:=zct hx hY h1
 unfold j_
 rw [if_neg h5,if_neg h6,if_neg h7]
 split
 ·rename_i e
  obtain ⟨_,h⟩:=h4 (by rw [e]; rfl)
  rw [if_pos (by omega)]
 ·rfl
theorem zqy {b : Bel} {X Y : Int} (h : (xc b X Y).2 = 0) : z9 (xc b X Y).1 = true ∧ doB b (xc b X Y).1 = ((b.1,b.2.1,b.2.2.1,X,Y,false,true),0) ∧ jh b (xc b X Y).1 = (0,0) ∧ zcl (xc b X Y).1 = 0 ∧ jb (xc b X Y).1 ≤ jb (goC X Y) ∧ 1 ≤ jb (xc b X Y).1:=by
 obtain ⟨h1,hX,hY,hh⟩:=zlk h
 obtain ⟨w,h0,l,x,y,bb,s⟩:=b
 have h1':=h1
 obtain ⟨w',h',e1,e2,w2,w3,w4,w5,hl,hk,p1,p2⟩:=qn.1 h1'
 simp only at hX hY e1 e2 hh
 subst e1 e2
 have hX' : 0 ≤ X ∧ X ≤ 79:=by omega
 have hY' : 0 ≤ Y ∧ Y ≤ 23:=by omega
 have len1 : ∀ c : Cmd,z9 c = true → 1 ≤ jb c:=fun c hc=>by unfold jb jt; rw [if_pos hc]; exact (zbj hc).1
 rcases hh with ⟨rfl,e⟩ | ⟨rfl,H,e⟩
 ·rw [e]
  obtain ⟨rfl,rfl,rfl⟩:=p2 rfl
  have hc:=z1z hX' hY'
  refine ⟨hc, ?_, ?_,(zct hX' hY' (h:=h') (y:=0) (.inl rfl)).2.2.1,Nat.le_refl _,len1 _ hc⟩
  ·rw [z8i h1 hc rfl]
   have:=zwd w' h' 0 0 false Y X
   unfold zry
   rw [show goC X Y = (2,Y,X,0) from rfl,this,zav (by omega) (by omega),zav (by omega) (by omega)]
   rfl
  ·unfold jh; rw [if_pos (fun z=>by have:=z.2.2; simp [chg,goC] at this)]
 ·rw [e]
  obtain ⟨b1,b2,b3⟩:=H.best
  generalize ya (vx h' x y X Y) (goC X Y) = c at *
  obtain ⟨c1,c2,c3,c4,c5,c6,c7⟩:=zct hX' hY' b2
  obtain ⟨q1,q2,q3,q4,q5⟩:=p1 rfl
  obtain ⟨x,rfl⟩:=Int.eq_ofNat_of_zero_le q1
  obtain ⟨y,rfl⟩:=Int.eq_ofNat_of_zero_le q3
  refine ⟨c1, ?_, ?_,c3, ?_,len1 _ c1⟩
  ·rw [zpz h1 c1 c2]
   obtain ⟨k1,k2,k3⟩:=kq.1 b1
   unfold zry
   rw [k1,k2,k3]
   simp only [Int.toNat_natCast]
   rw [zq0 (X:=X) (Y:=Y) (by omega) hX' hY' b2]
  ·unfold jh
   by_cases hg : chg c.1 = true
   ·obtain ⟨rfl,hh⟩:=c4 hg
    rw [if_neg (fun z=>z ⟨h1,c1,hg⟩),if_neg (fun z=>by rcases z with z | z; cases z; simp only at z; omega),if_pos rfl]
   ·rw [if_pos (fun z=>hg z.2.2)]
  ·have:=b3 _ (.inl rfl); unfold zh0 at this; omega
end Go.Proofs.YtgfmjmfphmjdkaaGreatDoor
