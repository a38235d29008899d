/- Layer 27 (belief): guesses and beliefs, as types; what a right belief is, plainly. No condition. -/
import Derived.Test.YtgfmjmfphmjdkaaGreatDoorR3ZT
import Derived.Test.YtgfmjmfphmjdkaaGreatDoorR3ZG
import Derived.Test.YtgfmjmfphmjdkaaGreatDoorR3ZV
import Derived.Test.YtgfmjmfphmjdkaaGreatDoorR3ZM
set_option linter.unusedSimpArgs false
set_option linter.unusedVariables false
set_option linter.unusedSectionVars false
namespace Go.Proofs.YtgfmjmfphmjdkaaGreatDoor
set_option maxHeartbeats 4000000
open Go Go.RowKit
set_option maxRecDepth 100000
abbrev zj:=zp × Bool
def guT : Ty zj:={ enc:=fun g=>[.int .i32 g.1.1,.int .i64 g.1.2,.bool g.2],k:=3,len:=fun _=>rfl }
def guA (g : zj) : AV:=qb [R g.1.1,I g.1.2,B g.2]
theorem zx1 : Tryz.prog.underlying 96 = some (.struct #[{ name := "C",type:=87,offset:=0,embedded:=false,tag := "",pkgPath := "",byteOffset:=0 },{ name := "Sure",type:=4,offset:=2,embedded:=false,tag := "",pkgPath := "",byteOffset:=16 }]):=Tryz.underlying96
instance qdv : StC 96 [R 0,I 0,B false] [(0,2),(2,1)]:=⟨StT.mk' _ [.int .i32 0,.int .i64 0,.bool false] zx1 (by kernel_rfl) (by kernel_rfl)⟩
instance qcc : FldC 96 0 0 87:=⟨_,_,zx1,rfl,rfl,rfl⟩
instance qcb : FldC 96 1 2 4:=⟨_,_,zx1,rfl,rfl,rfl⟩
instance qey : AggC 96 true:=⟨kf (by kernel_rfl)⟩
instance qdl : SzC 96 3:=⟨xg (by kernel_rfl)⟩
instance qd2 : SpC 87:=⟨jn (n:=1) (by kernel_rfl)⟩
instance qer : AlC 96 (.agg #[.int .i32 0,.int .i64 0,.bool false]) [.int .i32 0,.int .i64 0,.bool false] [R 0,I 0,B false]:=⟨by kernel_rfl,rfl,rfl⟩
theorem qah : El Tryz.prog guT 96 ((0,0),false) 24 guA:=⟨⟨.agg #[.int .i32 0,.int .i64 0,.bool false],by kernel_rfl,rfl⟩,by decide,fun x v hv=>by simp [guT] at hv; rcases hv with rfl | rfl | rfl <;> rfl,.inl ⟨kf (by kernel_rfl),fun x=>rfl⟩⟩
instance qek : ElC 96 guT ((0,0),false) 24 guA:=⟨qah⟩
theorem z1m : Tryz.prog.underlying 22 = some (.slice 96):=Tryz.underlying22
instance qbl : UnC 22 (.slice 96):=⟨z1m⟩
instance qcp : AggC 22 false:=⟨yq (by kernel_rfl)⟩
instance qbp : SzC 22 1:=⟨xg (by kernel_rfl)⟩
instance qbt : SpC 22:=⟨jn (n:=0) (by kernel_rfl)⟩
instance qdm : SzC 4 1:=⟨xg (by kernel_rfl)⟩
theorem zi6 : Tryz.prog.underlying 24 = some (.struct #[{ name := "W",type:=3,offset:=0,embedded:=false,tag := "",pkgPath := "",byteOffset:=0 },{ name := "H",type:=3,offset:=1,embedded:=false,tag := "",pkgPath := "",byteOffset:=8 },{ name := "L",type:=22,offset:=2,embedded:=false,tag := "",pkgPath := "",byteOffset:=16 },{ name := "X",type:=3,offset:=3,embedded:=false,tag := "",pkgPath := "",byteOffset:=40 },{ name := "Y",type:=3,offset:=4,embedded:=false,tag := "",pkgPath := "",byteOffset:=48 },{ name := "Wrap",type:=4,offset:=5,embedded:=false,tag := "",pkgPath := "",byteOffset:=56 },{ name := "Sure",type:=4,offset:=6,embedded:=false,tag := "",pkgPath := "",byteOffset:=57 }]):=Tryz.underlying24
abbrev zad (w h : Int) (l : List zj) (x y : Int) (b s : Bool) : AV:=qb [I w,I h,slA guT l,I x,I y,B b,B s]
instance qdw : StC 24 [I 0,I 0,vA (.slice none 0 0),I 0,I 0,B false,B false] [(0,1),(1,1),(2,1),(3,1),(4,1),(5,1),(6,1)]:=⟨StT.mk' _ [.int .i64 0,.int .i64 0,.slice none 0 0,.int .i64 0,.int .i64 0,.bool false,.bool false] zi6 (by kernel_rfl) (by kernel_rfl)⟩
instance qcj : FldC 24 0 0 3:=⟨_,_,zi6,rfl,rfl,rfl⟩
instance qci : FldC 24 1 1 3:=⟨_,_,zi6,rfl,rfl,rfl⟩
instance qch : FldC 24 2 2 22:=⟨_,_,zi6,rfl,rfl,rfl⟩
instance qcg : FldC 24 3 3 3:=⟨_,_,zi6,rfl,rfl,rfl⟩
instance qcf : FldC 24 4 4 3:=⟨_,_,zi6,rfl,rfl,rfl⟩
instance qce : FldC 24 5 5 4:=⟨_,_,zi6,rfl,rfl,rfl⟩
instance qcd : FldC 24 6 6 4:=⟨_,_,zi6,rfl,rfl,rfl⟩
instance qe1 : AggC 24 true:=⟨kf (by kernel_rfl)⟩
instance qdn : SzC 24 7:=⟨xg (by kernel_rfl)⟩
instance qd3 : SpC 24:=⟨jn (n:=6) (by kernel_rfl)⟩
instance qet : AlC 24 (.agg #[.int .i64 0,.int .i64 0,.slice none 0 0,.int .i64 0,.int .i64 0,.bool false,.bool false]) [.int .i64 0,.int .i64 0,.slice none 0 0,.int .i64 0,.int .i64 0,.bool false,.bool false] [I 0,I 0,vA (.slice none 0 0),I 0,I 0,B false,B false]:=⟨by kernel_rfl,rfl,rfl⟩
theorem z_9 : (Tryz.prog.fieldsOf 96).toList = [{ name := "C",type:=87,offset:=0,embedded:=false,tag := "",pkgPath := "",byteOffset:=0 },{ name := "Sure",type:=4,offset:=2,embedded:=false,tag := "",pkgPath := "",byteOffset:=16 }]:=by kernel_rfl
theorem z0k (d : Nat) (a b : Bool) (w : World) : (Op.equalIn (d + 1) 4 (.bool a) (.bool b)).run Tryz.prog w = .ok (a == b) w:=run_equalIn_bool w d _ a b Tryz.underlying4
theorem zlc (d : Nat) (a b : zj) (w : World) : (Op.equalIn (d + 3) 96 (.agg #[.int .i32 a.1.1,.int .i64 a.1.2,.bool a.2]) (.agg #[.int .i32 b.1.1,.int .i64 b.1.2,.bool b.2])).run Tryz.prog w = .ok (decide (a = b)) w:=by
 rw [run_equalIn_agg _ _ _ _ _ (by kernel_rfl) (by kernel_rfl),z_9]
 obtain ⟨⟨a1,a2⟩,a3⟩:=a
 obtain ⟨⟨b1,b2⟩,b3⟩:=b
 have hc:=zb0 d (a1,a2) (b1,b2) w
 simp [Op.eqFields,part,znd,z0k,zsr,zs2,hc]
 by_cases h1 : a1 = b1 <;> by_cases h2 : a2 = b2 <;> by_cases h3 : a3 = b3 <;> simp [h1,h2,h3]
theorem z17 (op : BinOp) (x y : Operand) (xs ys : Array Value) (w : World) : (eqGuard op 96 x y (.agg xs) (.agg ys)).run Tryz.prog w = .ok () w:=run_eqGuard_agg w op _ x y xs ys (by kernel_rfl)
section
variable {T0 : Gh} {fr : Fr} {M : List Own} {ops : Array Oper} {o : Oper}
theorem zwz {x y : Operand} {a b : zj} {t' : TypeId} (ho : o.op = .binOp .eql 96 x y t') (hx : Opd T0 fr x (qb [R a.1.1,I a.1.2,B a.2])) (hy : Opd T0 fr y (qb [R b.1.1,I b.1.2,B b.2])) : AY Tryz.prog T0 ops o fr M (B (decide (a = b))):=xd fun w0 G F a' w hs hf=>by
 obtain ⟨us,h1,r1⟩:=(hx.use (o:=o) (ops:=ops) (by simp [ho,Op.operands]) hs.tab hf).agg
 obtain ⟨vs,h2,r2⟩:=(hy.use (o:=o) (ops:=ops) (by simp [ho,Op.operands]) hs.tab hf).agg
 obtain rfl:=x_ (zs:=[.int .i32 a.1.1,.int .i64 a.1.2,.bool a.2]) r1
 obtain rfl:=x_ (zs:=[.int .i32 b.1.1,.int .i64 b.1.2,.bool b.2]) r2
 have h3:=zlc 9997 a b w
 refine ⟨_, ?_,Rep.va _ _⟩
 simp only [execOp,ho,h1,h2,Sem.run_bind,z17,Result.andThen_ok,run_eql_struct,h3,Sem.run_pure]
theorem zwt {x y : Operand} {a b : zj} {t' : TypeId} (ho : o.op = .binOp .neq 96 x y t') (hx : Opd T0 fr x (qb [R a.1.1,I a.1.2,B a.2])) (hy : Opd T0 fr y (qb [R b.1.1,I b.1.2,B b.2])) : AY Tryz.prog T0 ops o fr M (B (!decide (a = b))):=xd fun w0 G F a' w hs hf=>by
 obtain ⟨us,h1,r1⟩:=(hx.use (o:=o) (ops:=ops) (by simp [ho,Op.operands]) hs.tab hf).agg
 obtain ⟨vs,h2,r2⟩:=(hy.use (o:=o) (ops:=ops) (by simp [ho,Op.operands]) hs.tab hf).agg
 obtain rfl:=x_ (zs:=[.int .i32 a.1.1,.int .i64 a.1.2,.bool a.2]) r1
 obtain rfl:=x_ (zs:=[.int .i32 b.1.1,.int .i64 b.1.2,.bool b.2]) r2
 have h3:=zlc 9997 a b w
 refine ⟨_, ?_,Rep.va _ _⟩
 simp only [execOp,ho,h1,h2,Sem.run_bind,z17,Result.andThen_ok,run_neq_struct,h3,Sem.run_pure]
theorem zh2 {a1 a2 b1 b2 : Int} {a3 b3 : Bool} : EqK Tryz.prog 96 (qb [R a1,I a2,B a3]) (qb [R b1,I b2,B b3]) (decide ((((a1,a2),a3) : zj) = ((b1,b2),b3))):=fun _ _ _ _ _ _ _ _ hx hy=>⟨fun ho=>zwz (a:=((a1,a2),a3)) (b:=((b1,b2),b3)) ho hx hy,fun ho=>zwt (a:=((a1,a2),a3)) (b:=((b1,b2),b3)) ho hx hy⟩
end
def gAt (l : List zj) (i : Nat) : zj:=l[i]?.getD ((0,0),false)
theorem zxj {l : List zj} {i : Nat} (h : i < l.length) : l[i]? = some (gAt l i):=by simp [gAt,h]
theorem zuw {l : List zj} {i : Nat} (h : l.length ≤ i) : gAt l i = ((0,0),false):=by simp [gAt,h]
theorem z3z {a b : List zj} (hl : a.length = b.length) (h : ∀ i,i < a.length → gAt a i = gAt b i) : a = b:=by
 apply List.ext_getElem? ; intro i
 by_cases hi : i < a.length
 ·rw [zxj hi,zxj (l:=b) (by omega),h i hi]
 ·rw [List.getElem?_eq_none (by omega),List.getElem?_eq_none (by omega)]
theorem zpg (l : List zj) (a i : Nat) : gAt (l.drop a) i = gAt l (a + i):=by simp [gAt,List.getElem?_drop]
theorem zzu {l : List zj} {n i : Nat} (h : i < n) : gAt (l.take n) i = gAt l i:=by simp [gAt,List.getElem?_take,h]
theorem znn (l : List zj) (j i : Nat) (c : zj) (hj : j < l.length) : gAt (l.set j c) i = if i = j then c else gAt l i:=by
 unfold gAt; rw [List.getElem?_set]
 by_cases h : j = i
 ·subst h; simp [hj]
 ·simp [h,Ne.symm h]
theorem zjx {n i : Nat} {c : zj} (h : i < n) : gAt (List.replicate n c) i = c:=by simp [gAt,List.getElem?_replicate,h]
theorem z30 {a b : List zj} {i : Nat} : gAt (a ++ b) i = if i < a.length then gAt a i else gAt b (i - a.length):=by
 unfold gAt
 split
 ·rename_i h; rw [List.getElem?_append_left h]
 ·rename_i h; rw [List.getElem?_append_right (by omega)]
theorem zuy {l : List zp} {i : Nat} (h : i < l.length) : gAt (l.map fun c=>(c,true)) i = (cAt l i,true):=by simp [gAt,cAt,h]
theorem zux {l c : List zj} {off i : Nat} (h : off + c.length ≤ l.length) : gAt (ovr l off c) i = if i < off then gAt l i else if i < off + c.length then gAt c (i - off) else gAt l i:=by
 unfold gAt ovr
 have h1 : (l.take off).length = off:=by rw [List.length_take]; omega
 by_cases h2 : i < off
 ·rw [if_pos h2,List.append_assoc,List.getElem?_append_left (by omega),List.getElem?_take,if_pos h2]
 ·rw [if_neg h2]
  by_cases h3 : i < off + c.length
  ·rw [if_pos h3,List.getElem?_append_left (by rw [List.length_append]; omega),List.getElem?_append_right (by omega),h1]
  ·rw [if_neg h3,List.getElem?_append_right (by rw [List.length_append]; omega),List.getElem?_drop,List.length_append,h1]
   congr 2; omega
def zsh (l : List zj) (i : Nat) : Bool :=
 if (gAt l i).2 = false then decide (gAt l i = ((0,0),false))
 else xv (gAt l i).1 && (if (gAt l i).1.2 = 1 then decide (i + 1 < l.length) && (!(gAt l (i + 1)).2 || decide (gAt l (i + 1) = (((gAt l i).1.1,2),true))) else if (gAt l i).1.2 = 2 then decide (1 ≤ i) && (!(gAt l (i - 1)).2 || decide (gAt l (i - 1) = (((gAt l i).1.1,1),true))) else true)
def zex (l : List zj) : Bool:=(List.range l.length).all (zsh l)
theorem zci {l : List zj} : zex l = true ↔ ∀ i,i < l.length → zsh l i = true:=by simp [zex]
def zzs (w : Nat) (l : List zj) (i : Nat) : Bool :=
 if (gAt l i).2 = false then decide (gAt l i = ((0,0),false))
 else xv (gAt l i).1 && (if (gAt l i).1.2 = 1 then decide (i % w < w - 1) && (!(gAt l (i + 1)).2 || decide (gAt l (i + 1) = (((gAt l i).1.1,2),true))) else if (gAt l i).1.2 = 2 then decide (0 < i % w) && (!(gAt l (i - 1)).2 || decide (gAt l (i - 1) = (((gAt l i).1.1,1),true))) else true)
abbrev zdu (w : Nat) (l : List zj) (y : Nat) : List zj:=(l.drop (y * w)).take w
theorem zch {w h y : Nat} {l : List zj} (hl : l.length = w * h) (hy : y < h) : (zdu w l y).length = w:=by
 have h1 : (y + 1) * w ≤ h * w:=Nat.mul_le_mul_right _ hy
 rw [Nat.add_mul,Nat.one_mul] at h1
 rw [List.length_take,List.length_drop,hl,Nat.mul_comm w h]; omega
theorem zjl {w y x : Nat} {l : List zj} (hx : x < w) : gAt (zdu w l y) x = gAt l (y * w + x):=by rw [zzu hx,zpg]
theorem ztg {w h y x : Nat} {l : List zj} (hl : l.length = w * h) (hy : y < h) (hx : x < w) : zsh (zdu w l y) x = zzs w l (y * w + x):=by
 have hm : (y * w + x) % w = x:=by rw [Nat.add_comm,Nat.add_mul_mod_self_right,Nat.mod_eq_of_lt hx]
 unfold zsh zzs
 rw [zjl hx,hm,zch hl hy]
 split
 ·rfl
 ·congr 1
  split
  ·by_cases h1 : x + 1 < w
   ·rw [zjl h1,← Nat.add_assoc,show decide (x + 1 < w) = decide (x < w - 1) by congr 1; simp; omega]
   ·rw [show decide (x + 1 < w) = false by simpa using h1,show decide (x < w - 1) = false by simp; omega]; rfl
  ·split
   ·by_cases h1 : 1 ≤ x
    ·rw [zjl (show x - 1 < w by omega),show y * w + (x - 1) = y * w + x - 1 by omega]; rfl
    ·rw [show decide (1 ≤ x) = false by simpa using h1,show decide (0 < x) = false by simp; omega]; rfl
   ·rfl
theorem z3b {w h : Nat} {l : List zj} (hw : 1 ≤ w) (hl : l.length = w * h) : (∀ y,y < h → zex (zdu w l y) = true) ↔ ∀ i,i < l.length → zzs w l i = true:=by
 constructor
 ·intro H i hi
  have hy : i / w < h:=by rw [Nat.div_lt_iff_lt_mul (by omega),Nat.mul_comm]; omega
  have hx : i % w < w:=Nat.mod_lt _ (by omega)
  have hd : i / w * w + i % w = i:=by rw [Nat.mul_comm]; exact Nat.div_add_mod i w
  have:=zci.1 (H _ hy) (i % w) (by rw [zch hl hy]; exact hx)
  rwa [ztg hl hy hx,hd] at this
 ·intro H y hy
  rw [zci,zch hl hy]
  intro x hx
  rw [ztg hl hy hx]
  refine H _ ?_
  have h1 : (y + 1) * w ≤ h * w:=Nat.mul_le_mul_right _ hy
  rw [Nat.add_mul,Nat.one_mul] at h1
  rw [hl,Nat.mul_comm w h]; omega
abbrev Bel:=Int × Int × List zj × Int × Int × Bool × Bool
abbrev blA (b : Bel) : AV:=zad b.1 b.2.1 b.2.2.1 b.2.2.2.1 b.2.2.2.2.1 b.2.2.2.2.2.1 b.2.2.2.2.2.2
def z8n (w h x y : Int) (b s : Bool) : Bool:=if s then decide (0 ≤ x) && decide (x < w) && decide (0 ≤ y) && decide (y < h) && (!b || decide (x = w - 1)) else decide (x = 0) && decide (y = 0) && !b
def OkL (w h : Int) (l : List zj) : Prop:=(2 ≤ w ∧ w ≤ 80 ∧ 1 ≤ h ∧ h ≤ 24) ∧ (l.length : Int) = w * h ∧ ∀ i,i < l.length → zzs w.toNat l i = true
noncomputable instance (w h : Int) (l : List zj) : Decidable (OkL w h l):=Classical.propDecidable _
noncomputable def yx (w h : Int) (l : List zj) (x y : Int) (b s : Bool) : Bool:=decide (OkL w h l) && z8n w h x y b s
theorem z3n {w h : Int} {l : List zj} (hs : OkL w h l) : ∃ w' h' : Nat,w = w' ∧ h = h' ∧ 2 ≤ w' ∧ w' ≤ 80 ∧ 1 ≤ h' ∧ h' ≤ 24 ∧ l.length = w' * h' ∧ l.length ≤ 1920 ∧ ∀ i,i < l.length → zzs w' l i = true:=by
 obtain ⟨⟨a,b,c,d⟩,e,f⟩:=hs
 obtain ⟨w',rfl⟩:=Int.eq_ofNat_of_zero_le (show 0 ≤ w by omega)
 obtain ⟨h',rfl⟩:=Int.eq_ofNat_of_zero_le (show 0 ≤ h by omega)
 have hl : l.length = w' * h':=by rw [← Int.natCast_mul] at e; omega
 exact ⟨w',h',rfl,rfl,by omega,by omega,by omega,by omega,hl,by have:=vl (w:=w') (h:=h') (by omega) (by omega); omega,by simpa using f⟩
end Go.Proofs.YtgfmjmfphmjdkaaGreatDoor
namespace Go.Proofs.YtgfmjmfphmjdkaaGreatDoor
set_option maxHeartbeats 4000000
open Go Go.RowKit
variable {T0 : Gh} [TabS T0]
attribute [local irreducible] zz zg AW AL AO QY qh z_ rsA Opd xh vA gvA zy qb slA jl ipA rpA EqK LnK IxK LdK FaK FdK
set_option maxRecDepth 100000
theorem wj (c : zp) : AP Tryz.prog T0 115 [zh6 c] (guA (c,true)):=by
 refine za Tryz.func115 rfl (by decide) Tryz.ntmps115 rfl ?_
 repeat' (first
 |refine g2_ ?_ | (refine zd ?_ ?_ <;> intro hb <;> try exact no_) | (refine sx_ ?_ <;> intro bb) | (refine su_ ?_ <;> intro u hu1 hu2) | fail)
 exact ⟨_,[],rs_,List.nil_sublist _,Sub.refl _,rfl⟩
theorem zbf : AP Tryz.prog T0 121 [] (zh6 (32,0)):=by
 refine za Tryz.func121 rfl (by decide) Tryz.ntmps121 rfl ?_
 repeat' (first
 |refine g2_ ?_ | (refine zd ?_ ?_ <;> intro hb <;> try exact no_) | (refine sx_ ?_ <;> intro bb) | (refine su_ ?_ <;> intro u hu1 hu2) | fail)
 exact ⟨_,[],rs_,List.nil_sublist _,Sub.refl _,rfl⟩
theorem z2h {fr : Fr} {M : List Own} {ops : Array Oper} {o : Oper} {x y : Operand} {k : Bool} (ho : o.op = .indexAddr 22 x y) (hk : k = true) (h0 : k = false) : AY Tryz.prog T0 ops o fr M (ipA (guT.enc ((0,0),false))):=by rw [h0] at hk; cases hk
theorem zvu (l : List zj) (hl : l.length ≤ 100000) : AP Tryz.prog T0 117 [slA guT l] (B (zex l)):=by
 have bad : ∀ k,k < l.length → zsh l k = false → zex l = false:=fun k hk h=>by
  cases e : zex l with
  |false=>rfl
  |true=>rw [zci.1 e k hk] at h; cases h
 refine za Tryz.func117 rfl (by decide) Tryz.ntmps117 rfl ?_
 repeat' (first
 |refine zsm ?_ | (refine zd ?_ ?_ <;> intro hb <;> try exact no_) | (refine sx_ ?_ <;> intro bb) | (refine su_ ?_ <;> intro u hu1 hu2) | fail)
 refine zdc (fun k : Nat=>[(9,I k)]) (fun k=>k ≤ l.length ∧ ∀ j,j < k → zsh l j = true) (fun k=>l.length - k) 0 ⟨Nat.zero_le _,fun j hj=>absurd hj (Nat.not_lt_zero _)⟩ ?_
 rintro k ⟨h1,h2⟩
 by_cases hlt : k < l.length
 ·have hat:=zxj hlt
  have hb0:=bad k hlt
  have nxt : zsh l k = true → ∀ j,j < k + 1 → zsh l j = true:=fun h j hj=>by
   by_cases e : j = k
   ·subst e; exact h
   ·exact h2 j (by omega)
  have hr : zsh l k = zsh l k:=rfl
  conv at hr=>rhs; unfold zsh
  have gn : k + 1 < l.length → l[k + 1]? = some (gAt l (k + 1)):=fun h=>zxj h
  have gp : 1 ≤ k → l[k - 1]? = some (gAt l (k - 1)):=fun h=>zxj (by omega)
  generalize gAt l (k + 1) = gx at *
  generalize gAt l (k - 1) = gy at *
  generalize zsh l k = rk at *
  generalize zex l = rl at *
  generalize gAt l k = g at *
  clear bad
  obtain ⟨⟨x1,x2⟩,x3⟩:=gx
  obtain ⟨⟨y1,y2⟩,y3⟩:=gy
  obtain ⟨⟨c1,c2⟩,s⟩:=g
  cases s with
  |false =>
   repeat' (first
   |refine zsm ?_ | (refine zd ?_ ?_ <;> intro hb <;> try exact no_) | (refine sx_ ?_ <;> intro bb) | (refine su_ ?_ <;> intro u hu1 hu2) | fail)
   all_goals first | exact e3_ | skip
  |true =>
   by_cases hK1 : c2 = 1
   ·subst hK1
    by_cases hn : k + 1 < l.length
    ·have gn:=gn hn
     cases x3 with
     |false =>
      repeat' (first
      |refine zsm ?_ | (refine zd ?_ ?_ <;> intro hb <;> try exact no_) | (refine sx_ ?_ <;> intro bb) | (refine su_ ?_ <;> intro u hu1 hu2) | fail)
      all_goals first | exact e3_ | skip
     |true =>
      by_cases he : x1 = c1 ∧ x2 = 2
      ·obtain ⟨rfl,rfl⟩:=he
       repeat' (first
       |refine zsm ?_ | (refine zd ?_ ?_ <;> intro hb <;> try exact no_) | (refine sx_ ?_ <;> intro bb) | (refine su_ ?_ <;> intro u hu1 hu2) | fail)
       all_goals first | exact e3_ | skip
      ·repeat' (first
       |refine zsm ?_ | (refine zd ?_ ?_ <;> intro hb <;> try exact no_) | (refine sx_ ?_ <;> intro bb) | (refine su_ ?_ <;> intro u hu1 hu2) | fail)
       all_goals first | exact e3_ | skip
    ·have he : l.length = k + 1:=by omega
     repeat' (first
     |refine zsm ?_ | (refine zd ?_ ?_ <;> intro hb <;> try exact no_) | (refine sx_ ?_ <;> intro bb) | (refine su_ ?_ <;> intro u hu1 hu2) | fail)
     all_goals first | exact e3_ | skip
   ·by_cases hK2 : c2 = 2
    ·subst hK2
     by_cases h0 : 1 ≤ k
     ·have gp:=gp h0
      cases y3 with
      |false =>
       repeat' (first
       |refine zsm ?_ | (refine zd ?_ ?_ <;> intro hb <;> try exact no_) | (refine sx_ ?_ <;> intro bb) | (refine su_ ?_ <;> intro u hu1 hu2) | fail)
       all_goals first | exact e3_ | skip
      |true =>
       by_cases he : y1 = c1 ∧ y2 = 1
       ·obtain ⟨rfl,rfl⟩:=he
        repeat' (first
        |refine zsm ?_ | (refine zd ?_ ?_ <;> intro hb <;> try exact no_) | (refine sx_ ?_ <;> intro bb) | (refine su_ ?_ <;> intro u hu1 hu2) | fail)
        all_goals first | exact e3_ | skip
       ·repeat' (first
        |refine zsm ?_ | (refine zd ?_ ?_ <;> intro hb <;> try exact no_) | (refine sx_ ?_ <;> intro bb) | (refine su_ ?_ <;> intro u hu1 hu2) | fail)
        all_goals first | exact e3_ | skip
     ·obtain rfl : k = 0:=by omega
      repeat' (first
      |refine zsm ?_ | (refine zd ?_ ?_ <;> intro hb <;> try exact no_) | (refine sx_ ?_ <;> intro bb) | (refine su_ ?_ <;> intro u hu1 hu2) | fail)
      all_goals first | exact ⟨_,[],rl_,List.nil_sublist _,Sub.eq (congrArg B (hb0 (by rw [hr]; simp_all)).symm),rfl⟩ | exact ⟨0 + 1,⟨by omega,nxt (by rw [hr]; simp_all)⟩,by omega,wx_,sl_⟩ | skip
    ·repeat' (first
     |refine zsm ?_ | (refine zd ?_ ?_ <;> intro hb <;> try exact no_) | (refine sx_ ?_ <;> intro bb) | (refine su_ ?_ <;> intro u hu1 hu2) | fail)
     all_goals first | exact e3_ | skip
 ·repeat' (first
  |refine zsm ?_ | (refine zd ?_ ?_ <;> intro hb <;> try exact no_) | (refine sx_ ?_ <;> intro bb) | (refine su_ ?_ <;> intro u hu1 hu2) | fail)
  refine ⟨_,[],rl_,List.nil_sublist _,Sub.eq (congrArg B ?_),rfl⟩
  exact (zci.2 fun i hi=>h2 i (by omega)).symm
end Go.Proofs.YtgfmjmfphmjdkaaGreatDoor
namespace Go.Proofs.YtgfmjmfphmjdkaaGreatDoor
set_option maxHeartbeats 4000000
open Go Go.RowKit
section
variable {T0 : Gh} {N : Fz} {Q : ko} {fr : Fr} {M : List Own} {ops : Array Oper} {o : Oper} {rest : List Oper} {x0 : Nat}
theorem zww {P : Program} {f : FuncId} {caps : Array Operand} {As : List AV} (ho : o.op = .makeFunc (.func f) #[] caps) (hx : OpdAll T0 fr caps.toList As) : AY P T0 ops o fr M (fnA f As):=xd fun w0 G F a w hs hf=>by
 have hr:=hx.use (o:=o) (ops:=ops) hs.tab (fun x hx=>by simp only [ho,Op.operands]; simpa using hx) hf
 refine ⟨.func (.func f) #[] (caps.map a.eval), ?_,.of ⟨caps.toList.map a.eval, ?_,hr⟩⟩
 ·simp only [execOp,ho,Sem.run_bind,show ∀ (fn : Fn) (first cap : Array Value),(Instr.makeFunc fn first cap).run P w = .ok (.func fn first cap) w from fun _ _ _=>rfl,Result.andThen_ok,Sem.run_pure]
  simp
 ·rw [← Array.toList_map,Array.toArray_toList]
theorem z6h {A : AV} (h : ALi Tryz.prog T0 N ops Q rest ((x0,A) :: fr) M) (hg : GK Tryz.prog T0 ops o fr true:=by first | exact z7e | fail) (hy : AY Tryz.prog T0 ops o fr M A:=by first | exact y_ | fail) (hx : o.dst = some x0:=by rfl) (hd : Nat.blt x0 N.n = true:=by rfl) (hn : zef [o] = true:=by rfl) : ALi Tryz.prog T0 N ops Q (o :: rest) fr M :=
 z84 (OutK.t.qy (hg M A fun _=>hy)) hx hd hn h
theorem zm7 {A : AV} (h : ALi Tryz.prog T0 N ops Q rest ((x0,A) :: fr) M) (hg : GK Tryz.prog T0 ops o fr true:=by first | exact z7e | fail) (hy : AY Tryz.prog T0 ops o fr M A) (hx : o.dst = some x0:=by rfl) (hd : Nat.blt x0 N.n = true:=by rfl) (hn : zef [o] = true:=by rfl) : ALi Tryz.prog T0 N ops Q (o :: rest) fr M :=
 z84 (OutK.t.qy (hg M A fun _=>hy)) hx hd hn h
end
variable {T0 : Gh} [TabS T0]
attribute [local irreducible] zz zg AW AL AO QY qh z_ rsA Opd xh vA gvA zy qb slA jl ipA rpA EqK LnK IxK LdK FaK FdK
set_option maxRecDepth 100000
abbrev bx (b : Nat) : AV:=vA (.pointer (some ⟨b,0,none⟩))
theorem zg8 (l : List zj) (n : Nat) (hn : 1 ≤ n) : AF Tryz.prog T0 116 [slA guT l,I n] [] (fun A M' => ∃ b2 b3,A = fnA 156 [bx b2,bx b3] ∧ M' = [qh b3 3 [I n],qh b2 22 [slA guT l]]):=by
 refine za Tryz.func116 rfl (by decide) Tryz.ntmps116 rfl ?_
 repeat' (first
 |refine qba ?_ | (refine zd ?_ ?_ <;> intro hb <;> try exact no_) | (refine sx_ ?_ <;> intro bb) | (refine su_ ?_ <;> intro u hu1 hu2) | fail)
 all_goals first | exact e1_ | skip
 exact ⟨_,_,rl_,List.Sublist.refl _,_,_,rfl,rfl⟩
theorem zhw {α : Type} (f : Nat → α) {k h : Nat} (hk : k < h) : ((List.range h).map f).take k ++ f k :: ((List.range h).map f).drop (k + 1) = (List.range h).map f:=by
 have e : ((List.range h).map f)[k]? = some (f k):=by simp [hk]
 have hlt : k < ((List.range h).map f).length:=by simpa using hk
 have e2 : ((List.range h).map f)[k] = f k:=by simp
 rw [← e2,← List.drop_eq_getElem_cons hlt,List.take_append_drop]
theorem zcf {α : Type} (f : Nat → α) {k h : Nat} (hk : k < h) : ((List.range h).map f).take (k + 1) = ((List.range h).map f).take k ++ [f k]:=by
 rw [List.take_add_one]; simp [hk]
theorem z2t (l : List zj) (w h b2 b3 : Nat) (hw1 : 1 ≤ w) (hw : w ≤ 80) (hl : l.length = w * h) (hl2 : l.length ≤ 1920) : IterC Tryz.prog 156 [bx b2,bx b3] [qh b3 3 [I w],qh b2 22 [slA guT l]] (slA guT) ((List.range h).map (zdu w l)):=by
 refine zpc Tryz.func156 rfl (by decide) Tryz.ntmps156 rfl rfl fun T1 lo Y X hY => ?_
 refine zes ?_
 repeat' (first
 |refine uj (id:=4) ?_ | refine z6h ?_ | refine zm7 ?_ (hy:=by first | (apply kh rfl; exact oo_; exact v1_ (List.Mem.head _) rfl) | (apply kh rfl; exact oo_; exact v1_ (List.Mem.tail _ (List.Mem.head _)) rfl) | (apply vf rfl un_ el_; exact oo_; exact lo_; exact on_; exact on_; exact le_; exact le_; done) | fail) | refine zht ?_ | refine za2 _ _ _ [qh b3 3 [I w],qh b2 22 [slA guT l]] rfl rfl rfl (zdp rfl) rfl rfl hA hY hf ?_ ?_ | refine z_6 ?_ | (refine zd ?_ ?_ <;> intro hb <;> try exact no_) | (refine sx_ ?_ <;> intro bb) | (refine su_ ?_ <;> intro u hu1 hu2) | fail)
 refine ze6 (fun k : Nat=>[(0,yA lo),(1,bx b2),(2,bx b3),(4,I (k * w : Nat))]) (fun k=>[qh b3 3 [I w],qh b2 22 [slA guT l]] ++ Y (((List.range h).map (zdu w l)).take k)) (fun k=>k ≤ h) (fun k=>h - k) 0 (Nat.zero_le _) (by rw [Nat.zero_mul]; exact wk_) (List.Sublist.refl _) ?_
 rintro k h1
 obtain ⟨p,hp⟩ : ∃ p,p = k * w:=⟨_,rfl⟩
 have hp1 : (k + 1) * w = p + w:=by rw [Nat.add_mul,Nat.one_mul,hp]
 rw [← hp]
 simp only [List.cons_append,List.nil_append]
 by_cases hlt : k < h
 ·have hle : (k + 1) * w ≤ h * w:=Nat.mul_le_mul_right _ hlt
  rw [hp1,Nat.mul_comm h w,← hl] at hle
  have hf:=zhw (zdu w l) hlt
  have hlen : ((l.drop p).take (l.length - p)).length = l.length - p:=by simp
  have hA : Sub (jl guT ((l.drop p).take (p + min w ((l.drop p).take (l.length - p)).length - p))) (slA guT (zdu w l k)):=by
   rw [hlen,show min w (l.length - p) = w by omega,Nat.add_sub_cancel_left,hp]; exact jc
  repeat' (first
  |refine uj (id:=4) ?_ | refine z6h ?_ | refine zm7 ?_ (hy:=by first | (apply kh rfl; exact oo_; exact v1_ (List.Mem.head _) rfl) | (apply kh rfl; exact oo_; exact v1_ (List.Mem.tail _ (List.Mem.head _)) rfl) | (apply vf rfl un_ el_; exact oo_; exact lo_; exact on_; exact on_; exact le_; exact le_; done) | fail) | refine zht ?_ | refine za2 _ _ _ [qh b3 3 [I w],qh b2 22 [slA guT l]] rfl rfl rfl (zdp rfl) rfl rfl hA hY hf ?_ ?_ | refine z14 ?_ | (apply zw (by rfl) (by kernel_rfl) (by kernel_rfl)) | refine z_6 ?_ | refine w_fzg ?_ | (refine zd ?_ ?_ <;> intro hb <;> try exact no_) | (refine sx_ ?_ <;> intro bb) | (refine su_ ?_ <;> intro u hu1 hu2) | fail)
  all_goals first | exact e4_ | skip
  ·exact ⟨k + 1,by omega,by omega,by rw [hp1]; exact wk_,by rw [zcf _ hlt]; exact List.Sublist.refl _⟩
  ·exact .inr ⟨_,_,List.take_append_drop (k + 1) _,by rw [zcf _ hlt]; exact List.Sublist.cons _ (List.Sublist.cons _ (List.Sublist.refl _))⟩
 ·have hke : k = h:=by omega
  have hpe : p = l.length:=by rw [hp,hke,hl,Nat.mul_comm]
  repeat' (first
  |refine uj (id:=4) ?_ | refine z6h ?_ | refine zm7 ?_ (hy:=by first | (apply kh rfl; exact oo_; exact v1_ (List.Mem.head _) rfl) | (apply kh rfl; exact oo_; exact v1_ (List.Mem.tail _ (List.Mem.head _)) rfl) | (apply vf rfl un_ el_; exact oo_; exact lo_; exact on_; exact on_; exact le_; exact le_; done) | fail) | refine zht ?_ | refine za2 _ _ _ [qh b3 3 [I w],qh b2 22 [slA guT l]] rfl rfl rfl (zdp rfl) rfl rfl hA hY hf ?_ ?_ | refine z_6 ?_ | (refine zd ?_ ?_ <;> intro hb <;> try exact no_) | (refine sx_ ?_ <;> intro bb) | (refine su_ ?_ <;> intro u hu1 hu2) | fail)
  all_goals first | exact e1_ | skip
  exact .inl (by rw [List.take_of_length_le (by simp; omega)]; exact List.Sublist.cons _ (List.Sublist.cons _ (List.Sublist.refl _)))
end Go.Proofs.YtgfmjmfphmjdkaaGreatDoor
namespace Go.Proofs.YtgfmjmfphmjdkaaGreatDoor
set_option maxHeartbeats 4000000
open Go Go.RowKit
theorem zck {T0 : Gh} {fr : Fr} {M : List Own} {P : Program} {fn : Func} {s t e b : Nat} {A : AV} (h : fn.results = #[.cell s t]) (ha : ∀ w,(isAgg t).run P w = .ok false w) (hs : fr.get s = some (vA (.pointer (some ⟨b,0,none⟩)))) (hM : qh b e [A] ∈ M) : zi3 P T0 fn fr M A:=fun w0 G F tmps w st hr=>by
 obtain ⟨cs,h3,h4⟩:=st.own _ (List.mem_append_left F hM)
 obtain ⟨u,rfl⟩ : ∃ u,cs = [u]:=List.length_eq_one_iff.1 h4.len
 have h5:=(ki hr hs).eq
 have h6:=zed ha h3
 refine ⟨u, ?_,h4.1⟩
 have h' : fn.results = [ResultVar.cell s t].toArray:=by rw [h]
 rw [zid,h',List.mapM_toArray]
 simp only [List.mapM_cons,List.mapM_nil,z29,Sem.run_bind,map_eq_pure_bind,bind_assoc,Sem.run_pure,h5,asAddr,h6,Result.andThen_ok,pure_bind]
 simp
theorem z7a {id : Nat} {f : List Deferred → Fr → List Own → Prop} {Q : zd8} {D : List Deferred} {fr : Fr} {M : List Own} (h : f D fr M) : zg id (z2x f Q D) .normal fr M:=h
theorem z_v {id : Nat} {f : List Deferred → Fr → List Own → Prop} {Q : zd8} {D : List Deferred} {fr : Fr} {M : List Own} (h : Q D .ret fr M) : zg id (z2x f Q D) .ret fr M:=h
variable {T0 : Gh} [TabS T0]
attribute [local irreducible] zz zg AW AL AO QY qh z_ rsA Opd xh vA gvA zy qb slA jl ipA rpA EqK LnK IxK LdK FaK FdK
set_option maxRecDepth 100000
instance qe0 : AggC 4 false:=⟨znd⟩
instance qes : AlC 4 (.bool false) [.bool false] [B false]:=⟨by kernel_rfl,rfl,rfl⟩
theorem z_f {α : Type _} (r a b c d : α) : List.Perm [r,a,b,c,d] [a,b,c,r,d]:=(List.perm_middle (l₁:=[a,b,c]) (a:=r) (l₂:=[d])).symm
theorem ztw {w h x y : Int} {l : List zj} {b s : Bool} (hn : ¬ (xl w h = true ∧ (l.length : Int) = w * h)) : yx w h l x y b s = false:=by
 unfold yx
 rw [show decide (OkL w h l) = false from decide_eq_false_iff_not.2 fun ⟨a,c,_⟩=>hn ⟨by simpa [xl,and_assoc] using a,c⟩]; rfl
theorem z4l (w h : Int) (l : List zj) (x y : Int) (b s : Bool) (hs : xl w h ≠ true) : AP Tryz.prog T0 63 [zad w h l x y b s] (B (yx w h l x y b s)):=by
 rw [ztw (fun h=>hs h.1)]
 have c1 : AP Tryz.prog T0 114 [I w,I h] (zy [xx 0 0 [],I 4]):=(znw w h).to (by simp only [ze0,hs,zbr]; rfl)
 refine za Tryz.func63 rfl (by decide) Tryz.ntmps63 rfl ?_
 repeat' (first
 |refine g5_ ?_ | (refine zd ?_ ?_ <;> intro hb <;> try exact no_) | (refine sx_ ?_ <;> intro bb) | (refine su_ ?_ <;> intro u hu1 hu2) | fail)
 all_goals first | exact ⟨_,[],zck rfl zku rfl kx,List.nil_sublist _,Sub.refl _,rfl⟩ | skip
theorem z4k (w h : Nat) (l : List zj) (x y : Int) (b s : Bool) (h1 : 2 ≤ w) (h2 : w ≤ 80) (h3 : 1 ≤ h) (h4 : h ≤ 24) (hl : l.length ≠ w * h) : AP Tryz.prog T0 63 [zad w h l x y b s] (B (yx w h l x y b s)):=by
 have hb:=vl h2 h4
 have hnn : (0 : Int) ≤ ((w * h : Nat) : Int):=Int.natCast_nonneg _
 rw [ztw (fun h=>hl (by have:=h.2; rw [← Int.natCast_mul] at this; omega))]
 have c1 : AP Tryz.prog T0 114 [I w,I h] (zy [xx w h (List.replicate (w * h) (32,0)),I 0]):=(znw w h).to (by rw [ze0,if_pos (by simp [xl]; omega)]; rfl)
 generalize List.replicate (w * h) ((32,0) : zp) = g0 at *
 refine za Tryz.func63 rfl (by decide) Tryz.ntmps63 rfl ?_
 repeat' (first
 |refine g5_ ?_ | (refine zd ?_ ?_ <;> intro hb <;> try exact no_) | (refine sx_ ?_ <;> intro bb) | (refine su_ ?_ <;> intro u hu1 hu2) | fail)
 all_goals first | exact ⟨_,[],zck rfl zku rfl kx,List.nil_sublist _,Sub.refl _,rfl⟩ | skip
theorem z4j (w h : Nat) (l : List zj) (x y : Int) (b s : Bool) (h1 : 2 ≤ w) (h2 : w ≤ 80) (h3 : 1 ≤ h) (h4 : h ≤ 24) (hl : l.length = w * h) : AP Tryz.prog T0 63 [zad w h l x y b s] (B (yx w h l x y b s)):=by
 have hb:=vl h2 h4
 have hnn : (0 : Int) ≤ ((w * h : Nat) : Int):=Int.natCast_nonneg _
 have c1 : AP Tryz.prog T0 114 [I w,I h] (zy [xx w h (List.replicate (w * h) (32,0)),I 0]):=(znw w h).to (by rw [ze0,if_pos (by simp [xl]; omega)]; rfl)
 generalize List.replicate (w * h) ((32,0) : zp) = g0 at *
 have hall : yx w h l x y b s = ((decide (∀ y,y < h → zex (zdu w l y) = true)) && z8n w h x y b s):=by
  unfold yx; congr 1
  rw [decide_eq_decide,z3b (by omega) hl]
  exact ⟨fun k=>by simpa using k.2.2,fun k=>⟨⟨by omega,by omega,by omega,by omega⟩,by rw [hl]; exact Int.natCast_mul w h,by simpa using k⟩⟩
 generalize yx w h l x y b s = ok at *
 have hx:=fun b2 b3=>z2t l w h b2 b3 (by omega) h2 hl (by omega)
 refine zmq Tryz.func63 rfl (by decide) Tryz.ntmps63 rfl ?_
 refine zcb ?_
 repeat' (first
 |(apply zt rfl rfl rfl rfl (c:=zg8 l w (by omega))
   case ha=>exact os_
   rintro _ _ ⟨b2,b3,rfl,rfl⟩)
 |refine z7l ?_ | (refine zd ?_ ?_ <;> intro hb <;> try exact no_) | (refine sx_ ?_ <;> intro bb) | (refine su_ ?_ <;> intro u hu1 hu2) | fail)
 refine zcb ?_
 repeat' (first
 |(apply zt rfl rfl rfl rfl (c:=zg8 l w (by omega))
   case ha=>exact os_
   rintro _ _ ⟨b2,b3,rfl,rfl⟩)
 |refine z7l ?_ | (refine zd ?_ ?_ <;> intro hb <;> try exact no_) | (refine sx_ ?_ <;> intro bb) | (refine su_ ?_ <;> intro u hu1 hu2) | fail)
 all_goals first | (exfalso; omega) | (exfalso; simp at hb; omega) | skip
 refine zp_ ?_
 refine zcb ?_
 repeat' (first
 |(apply zt rfl rfl rfl rfl (c:=zg8 l w (by omega))
   case ha=>exact os_
   rintro _ _ ⟨b2,b3,rfl,rfl⟩)
 |refine z7l ?_ | (refine zd ?_ ?_ <;> intro hb <;> try exact no_) | (refine sx_ ?_ <;> intro bb) | (refine su_ ?_ <;> intro u hu1 hu2) | fail)
 refine zml ?_
 rename_i a1 a2 a3 
 refine zmk (fun pre => ∀ r ∈ pre,zex r = true) (fun pre => ∃ r ∈ pre,zex r = false) (fun _=>[qh a3 4 [B false]]) (fun _=>[qh a3 4 [B false]]) [_,_] [_,_] (fun _ hr=>by cases hr) (z_f _ _ _ _ _) rfl (hx _ _) rfl ?_ ?_ ?_
 ·intro lo pre r t hpr hpre
  have hr : r.length ≤ 100000:=by
   have : r ∈ (List.range h).map (zdu w l):=by rw [← hpr]; simp
   obtain ⟨yy,hy,rfl⟩:=List.mem_map.1 this
   rw [zch hl (by simpa using hy)]; omega
  repeat' (first
  |(apply zt rfl rfl rfl rfl (c:=zg8 l w (by omega))
    case ha=>exact os_
    rintro _ _ ⟨b2,b3,rfl,rfl⟩)
  |refine zn7 ?_ | refine zhp ?_ | refine zca rfl (by (repeat' (first | refine zqv ?_ | refine zqw ?_)); first | exact ud | exact zij) ?_ | refine zb_ rfl (by kernel_rfl) rfl (by (repeat' (first | refine zqv ?_ | refine zqw ?_)); first | exact ud | exact zij) ?_ | refine zko ?_ | refine zn8 ?_ | (refine zkp rfl ?_ ?_ <;> intro hb) | refine z7l ?_ | (refine zd ?_ ?_ <;> intro hb <;> try exact no_) | (refine sx_ ?_ <;> intro bb) | (refine su_ ?_ <;> intro u hu1 hu2) | fail)
  ·exact ⟨⟨r,by simp,by simpa using hb⟩,List.Sublist.refl _⟩
  ·refine ⟨fun r' hr' => ?_,List.Sublist.refl _⟩
   rcases List.mem_append.1 hr' with h | h
   ·exact hpre r' h
   ·rw [List.mem_singleton.1 h]; simpa using hb
 ·intro d hok
  have h0 : decide (∀ y,y < h → zex (zdu w l y) = true) = true:=decide_eq_true fun y hy=>hok _ (List.mem_map.2 ⟨y,by simpa using hy,rfl⟩)
  rw [h0,Bool.true_and] at hall
  refine z7a (z2m ?_)
  repeat' (first
  |(apply zt rfl rfl rfl rfl (c:=zg8 l w (by omega))
    case ha=>exact os_
    rintro _ _ ⟨b2,b3,rfl,rfl⟩)
  |refine z7l ?_ | (refine zd ?_ ?_ <;> intro hb <;> try exact no_) | (refine sx_ ?_ <;> intro bb) | (refine su_ ?_ <;> intro u hu1 hu2) | fail)
  ·have hs : s = false:=by simpa using hb
   refine zcj (zck rfl zku rfl (List.Mem.head _)) (List.nil_sublist _) ⟨Sub.eq (congrArg B ?_),rfl⟩
   rw [hall,hs]; rfl
  ·have hs : s = true:=by simpa using hb
   refine zcj (zck rfl zku rfl (List.Mem.head _)) (List.nil_sublist _) ⟨Sub.eq (congrArg B ?_),rfl⟩
   rw [hall,hs,show (((w - 1 : Nat) : Int)) = (w : Int) - 1 by omega]; rfl
 ·intro d pre t hpr hbad
  obtain ⟨r,hr,hr2⟩:=hbad
  have h0 : decide (∀ y,y < h → zex (zdu w l y) = true) = false:=decide_eq_false fun k=>by
   have : r ∈ (List.range h).map (zdu w l):=by rw [← hpr]; exact List.mem_append_left _ hr
   obtain ⟨yy,hy,rfl⟩:=List.mem_map.1 this
   rw [k yy (by simpa using hy)] at hr2; cases hr2
  rw [h0,Bool.false_and] at hall
  refine z_v ?_
  refine zcj (zck rfl zku rfl (List.Mem.head _)) (List.nil_sublist _) ⟨Sub.eq (congrArg B ?_),rfl⟩
  exact hall.symm
theorem vy (w h : Int) (l : List zj) (x y : Int) (b s : Bool) : AP Tryz.prog T0 63 [zad w h l x y b s] (B (yx w h l x y b s)):=by
 by_cases hs : xl w h = true
 ·obtain ⟨w,h,rfl,rfl,h1,h2,h3,h4⟩:=wt hs
  by_cases hl : l.length = w * h
  ·exact z4j w h l x y b s h1 h2 h3 h4 hl
  ·exact z4k w h l x y b s h1 h2 h3 h4 hl
 ·exact z4l w h l x y b s hs
end Go.Proofs.YtgfmjmfphmjdkaaGreatDoor
namespace Go.Proofs.YtgfmjmfphmjdkaaGreatDoor
set_option maxHeartbeats 4000000
open Go Go.RowKit
set_option maxRecDepth 100000
abbrev xw : zj:=((32,0),true)
abbrev zcx : zj:=((0,0),false)
def yi (w : Nat) (l : List zj) (p : Nat) (cs : List zp) : List zj :=
 let l1:=if 0 < p % w ∧ (gAt l (p - 1)).1.2 = 1 then l.set (p - 1) xw else l
 let l2:=if 0 < (p + cs.length) % w ∧ (gAt l (p + cs.length)).1.2 = 2 then l1.set (p + cs.length) xw else l1
 ovr l2 p (cs.map fun c=>(c,true))
theorem zcu {w : Nat} {l : List zj} {p : Nat} {cs : List zp} (h : p + cs.length ≤ l.length) : (yi w l p cs).length = l.length:=by
 have e : ∀ (c : Prop) [Decidable c] (m : List zj) (j : Nat),(if c then m.set j xw else m).length = m.length:=fun c _ m j=>by split <;> simp
 unfold yi
 simp only
 rw [j7 (by rw [List.length_map,e,e]; exact h),e,e]
theorem zgs {w : Nat} {l : List zj} {p : Nat} {cs : List zp} (h : p + cs.length ≤ l.length) (h2 : 0 < (p + cs.length) % w → p + cs.length < l.length) (i : Nat) :
  gAt (yi w l p cs) i = if i < p then (if i + 1 = p ∧ 0 < p % w ∧ (gAt l i).1.2 = 1 then xw else gAt l i) else if i < p + cs.length then (cAt cs (i - p),true) else if i = p + cs.length ∧ 0 < (p + cs.length) % w ∧ (gAt l i).1.2 = 2 then xw else gAt l i:=by
 have hp : 0 < p % w → 1 ≤ p:=fun k=>by
  rcases Nat.eq_zero_or_pos p with h | h
  ·subst h; simp at k
  ·exact h
 have e1 : ∀ j,gAt (if 0 < p % w ∧ (gAt l (p - 1)).1.2 = 1 then l.set (p - 1) xw else l) j = if j + 1 = p ∧ 0 < p % w ∧ (gAt l j).1.2 = 1 then xw else gAt l j:=fun j=>by
  by_cases k : 0 < p % w ∧ (gAt l (p - 1)).1.2 = 1
  ·have:=hp k.1
   rw [if_pos k,znn _ _ _ _ (by omega)]
   by_cases hj : j = p - 1
   ·rw [if_pos hj,if_pos ⟨by omega,k.1,by rw [hj]; exact k.2⟩]
   ·rw [if_neg hj,if_neg (by omega)]
  ·rw [if_neg k]
   by_cases hj : j + 1 = p ∧ 0 < p % w ∧ (gAt l j).1.2 = 1
   ·exact absurd ⟨hj.2.1,by rw [show p - 1 = j by omega]; exact hj.2.2⟩ k
   ·rw [if_neg hj]
 have len1 : (if 0 < p % w ∧ (gAt l (p - 1)).1.2 = 1 then l.set (p - 1) xw else l).length = l.length:=by split <;> simp
 unfold yi
 simp only
 generalize (if 0 < p % w ∧ (gAt l (p - 1)).1.2 = 1 then l.set (p - 1) xw else l) = l1 at *
 have e2 : ∀ j,gAt (if 0 < (p + cs.length) % w ∧ (gAt l (p + cs.length)).1.2 = 2 then l1.set (p + cs.length) xw else l1) j = if j = p + cs.length ∧ 0 < (p + cs.length) % w ∧ (gAt l j).1.2 = 2 then xw else gAt l1 j:=fun j=>by
  by_cases k : 0 < (p + cs.length) % w ∧ (gAt l (p + cs.length)).1.2 = 2
  ·have:=h2 k.1
   rw [if_pos k,znn _ _ _ _ (by omega)]
   by_cases hj : j = p + cs.length
   ·rw [if_pos hj,if_pos ⟨hj,k.1,by rw [hj]; exact k.2⟩]
   ·rw [if_neg hj,if_neg (fun x=>hj x.1)]
  ·rw [if_neg k,if_neg]
   rintro ⟨a,b,c⟩; exact k ⟨b,by rw [← a]; exact c⟩
 have len2 : (if 0 < (p + cs.length) % w ∧ (gAt l (p + cs.length)).1.2 = 2 then l1.set (p + cs.length) xw else l1).length = l.length:=by split <;> simp [len1]
 rw [zux (by rw [len2,List.length_map]; exact h),e2,e1,List.length_map]
 by_cases q1 : i < p
 ·rw [if_pos q1,if_pos q1,if_neg (by omega)]
 ·rw [if_neg q1,if_neg q1]
  by_cases q2 : i < p + cs.length
  ·rw [if_pos q2,if_pos q2,zuy (by omega)]
  ·rw [if_neg q2,if_neg q2]
   by_cases q3 : i = p + cs.length ∧ 0 < (p + cs.length) % w ∧ (gAt l i).1.2 = 2
   ·rw [if_pos q3,if_pos q3]
   ·rw [if_neg q3,if_neg q3,if_neg (by omega)]
def GOk (w : Nat) (l : List zj) : Prop := ∀ i,i < l.length → zzs w l i = true
theorem zcv {w : Nat} {l : List zj} {i : Nat} : zzs w l i = true ↔ ((gAt l i).2 = false → gAt l i = zcx) ∧ ((gAt l i).2 = true → xv (gAt l i).1 = true ∧ ((gAt l i).1.2 = 1 → i % w < w - 1 ∧ ((gAt l (i + 1)).2 = true → gAt l (i + 1) = (((gAt l i).1.1,2),true))) ∧ ((gAt l i).1.2 = 2 → 0 < i % w ∧ ((gAt l (i - 1)).2 = true → gAt l (i - 1) = (((gAt l i).1.1,1),true)))):=by
 unfold zzs
 cases h : (gAt l i).2 with
 |false=>simp
 |true =>
  simp only [Bool.true_eq_false,if_false,Bool.and_eq_true,forall_const,false_implies,true_and,and_congr_right_iff]
  intro hc
  by_cases h1 : (gAt l i).1.2 = 1
  ·rw [if_pos h1]
   cases h3 : (gAt l (i + 1)).2 <;> simp [h1]
  ·rw [if_neg h1]
   by_cases h2 : (gAt l i).1.2 = 2
   ·rw [if_pos h2]
    cases h3 : (gAt l (i - 1)).2 <;> simp [h2]
   ·simp [h1,h2]
theorem GOk.zero {w : Nat} {l : List zj} (h : GOk w l) {i : Nat} (hi : (gAt l i).2 = false) : gAt l i = zcx:=by
 by_cases hl : i < l.length
 ·exact (zcv.1 (h i hl)).1 hi
 ·exact zuw (by omega)
theorem GOk.half {w : Nat} {l : List zj} (h : GOk w l) {i : Nat} (hi : (gAt l i).1.2 ≠ 0) : (gAt l i).2 = true:=by
 cases e : (gAt l i).2 with
 |true=>rfl
 |false=>rw [h.zero e] at hi; exact absurd rfl hi
theorem GOk.left {w : Nat} {l : List zj} (h : GOk w l) {i : Nat} (hi : (gAt l i).1.2 = 1) : i % w < w - 1 ∧ ((gAt l (i + 1)).2 = true → gAt l (i + 1) = (((gAt l i).1.1,2),true)):=by
 by_cases hl : i < l.length
 ·exact ((zcv.1 (h i hl)).2 (h.half (by rw [hi]; decide))).2.1 hi
 ·rw [zuw (by omega)] at hi; simp at hi
theorem GOk.right {w : Nat} {l : List zj} (h : GOk w l) {i : Nat} (hi : (gAt l i).1.2 = 2) : 0 < i % w ∧ ((gAt l (i - 1)).2 = true → gAt l (i - 1) = (((gAt l i).1.1,1),true)):=by
 by_cases hl : i < l.length
 ·exact ((zcv.1 (h i hl)).2 (h.half (by rw [hi]; decide))).2.2 hi
 ·rw [zuw (by omega)] at hi; simp at hi
theorem GOk.cell {w : Nat} {l : List zj} (h : GOk w l) {i : Nat} (hi : (gAt l i).2 = true) : xv (gAt l i).1 = true:=by
 by_cases hl : i < l.length
 ·exact ((zcv.1 (h i hl)).2 hi).1
 ·rw [zuw (by omega)] at hi; simp at hi
theorem zlr {w : Nat} {l : List zj} (h : ∀ i,i < l.length → ((gAt l i).2 = false → gAt l i = zcx) ∧ ((gAt l i).2 = true → xv (gAt l i).1 = true) ∧ ((gAt l i).1.2 = 1 → i % w < w - 1 ∧ ((gAt l (i + 1)).2 = true → gAt l (i + 1) = (((gAt l i).1.1,2),true))) ∧ ((gAt l i).1.2 = 2 → 0 < i % w ∧ ((gAt l (i - 1)).2 = true → gAt l (i - 1) = (((gAt l i).1.1,1),true)))) : GOk w l:=fun i hi =>
 zcv.2 ⟨(h i hi).1,fun k=>⟨(h i hi).2.1 k,(h i hi).2.2.1,(h i hi).2.2.2⟩⟩
theorem zjr {w i : Nat} (hw : 1 ≤ w) (h : (i + 1) % w = 0) : i % w = w - 1:=by
 have h1:=Nat.mod_lt i (show 0 < w by omega)
 have h2:=Nat.add_mod i 1 w
 rw [h] at h2
 by_cases e : i % w + 1 < w
 ·have h3 : (i % w + 1 % w) % w = i % w + 1:=by
   rcases Nat.lt_or_ge 1 w with k | k
   ·rw [Nat.mod_eq_of_lt k,Nat.mod_eq_of_lt e]
   ·exfalso; omega
  omega
 ·omega
theorem znh {w h : Nat} {l : List zj} {p : Nat} {cs : List zp} (hw : 2 ≤ w) (hl : l.length = w * h) (hk : GOk w l) (hp : p + cs.length ≤ l.length) (hc : ∀ j,j < cs.length → xv (cAt cs j) = true) (hW : zhu w p cs) : GOk w (yi w l p cs):=by
 have h2 : 0 < (p + cs.length) % w → p + cs.length < l.length:=fun k=>by
  rcases Nat.lt_or_ge (p + cs.length) l.length with e | e
  ·exact e
  ·rw [show p + cs.length = w * h by omega,Nat.mul_mod_right] at k; omega
 have at_:=zgs (w:=w) hp h2
 generalize hL : yi w l p cs = L at *
 have hLl : L.length = l.length:=by rw [← hL]; exact zcu hp
 have blk : ∀ i,gAt L i = xw → ((gAt L i).2 = false → gAt L i = zcx) ∧ ((gAt L i).2 = true → xv (gAt L i).1 = true) ∧ ((gAt L i).1.2 = 1 → i % w < w - 1 ∧ ((gAt L (i + 1)).2 = true → gAt L (i + 1) = (((gAt L i).1.1,2),true))) ∧ ((gAt L i).1.2 = 2 → 0 < i % w ∧ ((gAt L (i - 1)).2 = true → gAt L (i - 1) = (((gAt L i).1.1,1),true))):=fun i e=>by
  rw [e]; exact ⟨fun h=>(by simp at h),fun _=>ka,fun h=>(by simp at h),fun h=>(by simp at h)⟩
 refine zlr fun i hi => ?_
 rw [hLl] at hi
 by_cases q1 : i < p
 ·by_cases q : i + 1 = p ∧ 0 < p % w ∧ (gAt l i).1.2 = 1
  ·exact blk i (by rw [at_,if_pos q1,if_pos q])
  ·have e : gAt L i = gAt l i:=by rw [at_,if_pos q1,if_neg q]
   rw [e]
   refine ⟨fun h=>hk.zero h,fun h=>hk.cell h,fun h => ?_,fun h => ?_⟩
   ·obtain ⟨a1,a2⟩:=hk.left h
    refine ⟨a1, ?_⟩
    rw [at_]
    have hne : i + 1 ≠ p:=fun hne=>by
     refine q ⟨hne, ?_,h⟩
     rcases Nat.eq_zero_or_pos (p % w) with z | z
     ·have:=zjr (w:=w) (i:=i) (by omega) (by rw [hne]; exact z); omega
     ·exact z
    rw [if_pos (show i + 1 < p by omega),if_neg]
    ·exact a2
    ·rintro ⟨_,_,b3⟩
     have:=a2 (hk.half (by rw [b3]; decide)); rw [this] at b3; simp at b3
   ·obtain ⟨a1,a2⟩:=hk.right h
    refine ⟨a1, ?_⟩
    have h1i : 1 ≤ i:=by
     rcases Nat.eq_zero_or_pos i with z | z
     ·subst z; simp at a1
     ·exact z
    rw [at_,if_pos (show i - 1 < p by omega),if_neg (fun k=>by have:=k.1; omega)]
    exact a2
 ·by_cases q2 : i < p + cs.length
  ·have e : gAt L i = (cAt cs (i - p),true):=by rw [at_,if_neg q1,if_pos q2]
   have hW':=hW (i - p) (by omega)
   rw [e]
   refine ⟨fun h=>(by simp at h),fun _=>hc _ (by omega),fun h => ?_,fun h => ?_⟩
   ·obtain ⟨b1,b2,b3⟩:=hW'.1 h
    rw [show p + (i - p) = i by omega] at b3
    have:=Nat.mod_lt i (show 0 < w by omega)
    refine ⟨by omega,fun _ => ?_⟩
    rw [at_,if_neg (by omega),if_pos (by omega),show i + 1 - p = i - p + 1 by omega,b2]
   ·obtain ⟨b1,b2,b3⟩:=hW'.2 h
    rw [show p + (i - p) = i by omega] at b3
    refine ⟨by omega,fun _ => ?_⟩
    rw [at_,if_neg (by omega),if_pos (by omega),show i - 1 - p = i - p - 1 by omega,b2]
  ·by_cases q : i = p + cs.length ∧ 0 < (p + cs.length) % w ∧ (gAt l i).1.2 = 2
   ·exact blk i (by rw [at_,if_neg q1,if_neg q2,if_pos q])
   ·have e : gAt L i = gAt l i:=by rw [at_,if_neg q1,if_neg q2,if_neg q]
    rw [e]
    refine ⟨fun h=>hk.zero h,fun h=>hk.cell h,fun h => ?_,fun h => ?_⟩
    ·obtain ⟨a1,a2⟩:=hk.left h
     refine ⟨a1, ?_⟩
     rw [at_,if_neg (by omega),if_neg (by omega),if_neg (by omega)]
     exact a2
    ·obtain ⟨a1,a2⟩:=hk.right h
     refine ⟨a1, ?_⟩
     have hne : i ≠ p + cs.length:=fun hne=>q ⟨hne,by rw [← hne]; exact a1,h⟩
     rw [at_,if_neg (by omega),if_neg (by omega),if_neg]
     ·exact a2
     ·rintro ⟨_,_,b3⟩
      have:=a2 (hk.half (by rw [b3]; decide)); rw [this] at b3; simp at b3
def upB (w : Nat) (l : List zj) : List zj:=l.drop w ++ List.replicate w xw
theorem zi8 {w : Nat} {l : List zj} (h : w ≤ l.length) : (upB w l).length = l.length:=by simp [upB]; omega
theorem zoj {w : Nat} {l : List zj} (h : w ≤ l.length) {i : Nat} (hi : i < l.length) : gAt (upB w l) i = if i + w < l.length then gAt l (i + w) else xw:=by
 unfold upB
 rw [z30,List.length_drop]
 by_cases e : i + w < l.length
 ·rw [if_pos (by omega),if_pos e,zpg,Nat.add_comm]
 ·rw [if_neg (by omega),if_neg e,zjx (by omega)]
theorem zsv {w h : Nat} {l : List zj} (hw : 2 ≤ w) (hh : 1 ≤ h) (hl : l.length = w * h) (hk : GOk w l) : GOk w (upB w l):=by
 have hwl : w ≤ l.length:=by rw [hl]; exact Nat.le_mul_of_pos_right w hh
 obtain ⟨k,rfl⟩ : ∃ k,h = k + 1:=⟨h - 1,by omega⟩
 rw [Nat.mul_add,Nat.mul_one] at hl
 refine zlr fun i hi => ?_
 rw [zi8 hwl] at hi
 rw [zoj hwl hi]
 by_cases e : i + w < l.length
 ·rw [if_pos e]
  refine ⟨fun h=>hk.zero h,fun h=>hk.cell h,fun h => ?_,fun h => ?_⟩
  ·obtain ⟨a1,a2⟩:=hk.left h
   rw [Nat.add_mod_right] at a1
   have : i + 1 + w < l.length:=by
    rcases Nat.lt_or_ge (i + 1 + w) l.length with z | z
    ·exact z
    ·have:=zjr (w:=w) (i:=i) (by omega) (by rw [show i + 1 = w * k by omega,Nat.mul_mod_right]); omega
   refine ⟨a1, ?_⟩
   rw [zoj hwl (by omega),if_pos this,show i + 1 + w = i + w + 1 by omega]; exact a2
  ·obtain ⟨a1,a2⟩:=hk.right h
   rw [Nat.add_mod_right] at a1
   have h1 : 1 ≤ i:=by
    rcases Nat.eq_zero_or_pos i with z | z
    ·subst z; simp at a1
    ·exact z
   refine ⟨a1, ?_⟩
   rw [zoj hwl (by omega),if_pos (by omega),show i - 1 + w = i + w - 1 by omega]; exact a2
 ·rw [if_neg e]
  exact ⟨fun h=>(by simp at h),fun _=>ka,fun h=>(by simp at h),fun h=>(by simp at h)⟩
def zj0 (l : List zj) (a b : Nat) : List zj:=ovr l a (List.replicate (b - a) zcx)
theorem zjz {l : List zj} {a b : Nat} (h1 : a ≤ b) (h2 : b ≤ l.length) : (zj0 l a b).length = l.length:=j7 (by simp; omega)
theorem zno {l : List zj} {a b : Nat} (h1 : a ≤ b) (h2 : b ≤ l.length) (i : Nat) : gAt (zj0 l a b) i = if a ≤ i ∧ i < b then zcx else gAt l i:=by
 unfold zj0
 rw [zux (by simp; omega),List.length_replicate]
 by_cases q1 : i < a
 ·rw [if_pos q1,if_neg (by omega)]
 ·rw [if_neg q1]
  by_cases q2 : i < a + (b - a)
  ·rw [if_pos q2,zjx (by omega),if_pos ⟨by omega,by omega⟩]
  ·rw [if_neg q2,if_neg (by omega)]
theorem z36 {w : Nat} {l : List zj} {a b : Nat} (h1 : a ≤ b) (h2 : b ≤ l.length) (hk : GOk w l) : GOk w (zj0 l a b):=by
 have at_:=zno h1 h2
 refine zlr fun i hi => ?_
 rw [at_ i]
 by_cases q : a ≤ i ∧ i < b
 ·rw [if_pos q]; exact ⟨fun _=>rfl,fun h=>(by simp at h),fun h=>(by simp at h),fun h=>(by simp at h)⟩
 ·rw [if_neg q]
  refine ⟨fun h=>hk.zero h,fun h=>hk.cell h,fun h=>⟨(hk.left h).1, ?_⟩,fun h=>⟨(hk.right h).1, ?_⟩⟩
  ·rw [at_ (i + 1)]
   split
   ·intro k; simp at k
   ·exact (hk.left h).2
  ·rw [at_ (i - 1)]
   split
   ·intro k; simp at k
   ·exact (hk.right h).2
theorem z6k (w n : Nat) : GOk w (List.replicate n zcx):=by
 have at_ : ∀ i,gAt (List.replicate n zcx) i = zcx:=fun i=>by
  by_cases h : i < n
  ·exact zjx h
  ·exact zuw (by simp; omega)
 refine zlr fun i hi => ?_
 rw [at_]; exact ⟨fun _=>rfl,fun h=>(by simp at h),fun h=>(by simp at h),fun h=>(by simp at h)⟩
def Agr (l : List zj) (t : List zp) : Prop := ∀ i,i < l.length → (gAt l i).2 = true → (gAt l i).1 = cAt t i
theorem z5i {w h : Nat} {l : List zj} {t : List zp} {p : Nat} {cs : List zp} (hw : 2 ≤ w) (hh : 1 ≤ h) (hl : l.length = w * h) (ht : t.length = w * h) (hk : GOk w l) (hok : ∀ i,i < t.length → xv (cAt t i) = true ∧ wy w t i = false) (hp : p + cs.length ≤ l.length) (hne : cs ≠ []) (ha : Agr l t) : Agr (yi w l p cs) (zbq t p cs):=by
 have h2 : 0 < (p + cs.length) % w → p + cs.length < l.length:=fun k=>by
  rcases Nat.lt_or_ge (p + cs.length) l.length with e | e
  ·exact e
  ·rw [show p + cs.length = w * h by omega,Nat.mul_mod_right] at k; omega
 have hpos:=List.length_pos_iff.2 hne
 intro i hi hs
 rw [zcu hp] at hi
 rw [zgs hp h2] at hs ⊢
 rw [zng hne (by omega) (fun k=>zjp (hok p (by omega)).2 k) (fun k=>by
  have:=zco (h:=h) (by omega) hh ht (by omega) (hok (p + cs.length - 1) (by omega)).2 k; omega)]
 by_cases q1 : i < p
 ·rw [if_pos q1] at hs ⊢
  rw [if_pos q1]
  by_cases q : i + 1 = p ∧ 0 < p % w ∧ (gAt l i).1.2 = 1
  ·rw [if_pos q]
   have hg:=ha i hi (hk.half (by rw [q.2.2]; decide))
   have hm:=((zq.1 (hok i (by omega)).2).1 (by rw [← hg]; exact q.2.2)).2
   rw [q.1] at hm
   rw [if_pos ⟨q.1,by rw [hm]⟩]
  ·rw [if_neg q] at hs ⊢
   have hg:=ha i hi hs
   rw [if_neg,hg]
   rintro ⟨k1,k2⟩
   have hm:=(zq.1 (hok p (by omega)).2).2 k2
   rw [show p - 1 = i by omega] at hm
   refine q ⟨k1,by omega, ?_⟩
   rw [hg,hm.2]
 ·rw [if_neg q1] at hs ⊢
  rw [if_neg q1]
  by_cases q2 : i < p + cs.length
  ·rw [if_pos q2,if_pos q2]
  ·rw [if_neg q2] at hs ⊢
   rw [if_neg q2]
   by_cases q : i = p + cs.length ∧ 0 < (p + cs.length) % w ∧ (gAt l i).1.2 = 2
   ·rw [if_pos q]
    have hg:=ha i hi (hk.half (by rw [q.2.2]; decide))
    have hm:=((zq.1 (hok i (by omega)).2).2 (by rw [← hg]; exact q.2.2)).2
    rw [show i - 1 = p + cs.length - 1 by omega] at hm
    rw [if_pos ⟨q.1,by rw [hm]⟩]
   ·rw [if_neg q] at hs ⊢
    have hg:=ha i hi hs
    rw [if_neg,hg]
    rintro ⟨k1,k2⟩
    have hm:=(zq.1 (hok (p + cs.length - 1) (by omega)).2).1 k2
    rw [show p + cs.length - 1 + 1 = i by omega] at hm
    refine q ⟨k1, ?_,by rw [hg,hm.2]⟩
    rcases Nat.eq_zero_or_pos ((p + cs.length) % w) with z | z
    ·exact absurd (zjr (w:=w) (i:=p + cs.length - 1) (by omega) (by rw [show p + cs.length - 1 + 1 = p + cs.length by omega]; exact z)) hm.1
    ·exact z
theorem z88 {w h : Nat} {l : List zj} {t : List zp} (hw : 2 ≤ w) (hh : 1 ≤ h) (hl : l.length = w * h) (ht : t.length = w * h) (ha : Agr l t) : Agr (upB w l) (t.drop w ++ List.replicate w (32,0)):=by
 have hwl : w ≤ l.length:=by rw [hl]; exact Nat.le_mul_of_pos_right w hh
 intro i hi hs
 rw [zi8 hwl] at hi
 rw [zoj hwl hi] at hs ⊢
 have ec : cAt (t.drop w ++ List.replicate w (32,0)) i = if i + w < t.length then cAt t (i + w) else (32,0):=by
  unfold cAt
  by_cases e : i + w < t.length
  ·rw [if_pos e,List.getElem?_append_left (by simp; omega),List.getElem?_drop,Nat.add_comm]
  ·rw [if_neg e,List.getElem?_append_right (by simp; omega),List.getElem?_replicate,if_pos (by simp; omega)]; rfl
 rw [ec,ht,← hl]
 by_cases e : i + w < l.length
 ·rw [if_pos e] at hs ⊢; rw [if_pos e]; exact ha _ e hs
 ·rw [if_neg e,if_neg e]
theorem z5j {l : List zj} {t : List zp} {a b : Nat} (h1 : a ≤ b) (h2 : b ≤ l.length) (ha : Agr l t) : Agr (zj0 l a b) t:=by
 intro i hi hs
 rw [zjz h1 h2] at hi
 rw [zno h1 h2] at hs ⊢
 split at hs
 ·simp at hs
 ·rename_i q; rw [if_neg q]; exact ha i hi hs
theorem zxd (n : Nat) (t : List zp) : Agr (List.replicate n zcx) t:=fun i hi hs=>by
 rw [zjx (by simpa using hi)] at hs; simp at hs
end Go.Proofs.YtgfmjmfphmjdkaaGreatDoor
namespace Go.Proofs.YtgfmjmfphmjdkaaGreatDoor
set_option maxHeartbeats 4000000
open Go Go.RowKit
set_option maxRecDepth 100000
def noB : Bel:=(0,0,[],0,0,false,false)
def ye (w h : Int) : Bel × Int:=if xl w h then ((w,h,List.replicate (w.toNat * h.toNat) zcx,0,0,false,false),0) else (noB,4)
noncomputable abbrev ub (b : Bel) : Bool:=yx b.1 b.2.1 b.2.2.1 b.2.2.2.1 b.2.2.2.2.1 b.2.2.2.2.2.1 b.2.2.2.2.2.2
def chg (k : Int) : Bool:=decide (k = 1) || decide (k = 7) || decide (k = 8) || decide (k = 10)
noncomputable def yj (w h x y : Int) (b : Bool) (c : Cmd) : Int × Int × Bool:=(doK w h [] x y b c).2.2.2
theorem zjv {α : Type} {R : α → α → Prop} {p : Prop} [Decidable p] {a b a' b' : α} (h1 : R a a') (h2 : R b b') : R (if p then a else b) (if p then a' else b'):=by
 split
 ·exact h1
 ·exact h2
theorem zv6 (w h : Int) (l l' : List zp) (y : Int) : (kj w h l y).2 = (kj w h l' y).2:=by
 unfold kj; split <;> rfl
theorem zn0 (w h : Int) (l l' : List zp) (x y : Int) (b : Bool) (c : Cmd) : (fun t t' : Tm=>t.1 = w ∧ t.2.1 = h ∧ t.2.2.2 = t'.2.2.2) (doK w h l x y b c) (doK w h l' x y b c):=by
 unfold doK
 refine zjv (R:=fun t t' : Tm=>t.1 = w ∧ t.2.1 = h ∧ t.2.2.2 = t'.2.2.2) ?_ ?_
 ·unfold v_
  refine zjv (R:=fun t t' : Tm=>t.1 = w ∧ t.2.1 = h ∧ t.2.2.2 = t'.2.2.2) ?_ ⟨rfl,rfl,rfl⟩
  rw [zv6 w h l l' y]; exact ⟨rfl,rfl,rfl⟩
 ·refine zjv (R:=fun t t' : Tm=>t.1 = w ∧ t.2.1 = h ∧ t.2.2.2 = t'.2.2.2) ⟨rfl,rfl,rfl⟩ ?_
  repeat' (refine zjv (R:=fun t t' : Tm=>t.1 = w ∧ t.2.1 = h ∧ t.2.2.2 = t'.2.2.2) ?_ ?_)
  all_goals first | exact ⟨rfl,rfl,rfl⟩ | skip
  rw [zv6 w h l l' y]; exact ⟨rfl,rfl,rfl⟩
theorem zv8 (w h : Int) (l : List zp) (x y : Int) (b : Bool) (c : Cmd) : (doK w h l x y b c).2.2.2 = yj w h x y b c:=(zn0 w h l [] x y b c).2.2
theorem zay (w h : Int) (l : List zp) (x y : Int) (b : Bool) (c : Cmd) : (doK w h l x y b c).1 = w ∧ (doK w h l x y b c).2.1 = h:=⟨(zn0 w h l [] x y b c).1,(zn0 w h l [] x y b c).2.1⟩
def zf8 (w h : Nat) (l : List zj) (x y : Nat) (b : Bool) (cs : List zp) : List zj :=
 if b = true ∨ w < x + cs.length then (if y + 1 < h then yi w l ((y + 1) * w) cs else yi w (upB w l) (y * w) cs) else yi w l (y * w + x) cs
def j_ (w h : Nat) (l : List zj) (x y : Nat) (b : Bool) (c : Cmd) : List zj :=
 if c.1 = 1 then zf8 w h l x y b (zh c.2.2.2)
 else if c.1 = 7 then yi w l (y * w + x) (List.replicate (w - x) (32,0))
 else if c.1 = 8 then yi w l (y * w + x) (List.replicate (l.length - (y * w + x)) (32,0))
 else if c.1 = 10 then (if y + 1 < h then l else upB w l)
 else l
noncomputable def zry (w h : Int) (l : List zj) (x y : Int) (b : Bool) (c : Cmd) : Bel :=
 (w,h,j_ w.toNat h.toNat l x.toNat y.toNat b c,(yj w h x y b c).1,(yj w h x y b c).2.1,(yj w h x y b c).2.2,true)
noncomputable def doB (b : Bel) (c : Cmd) : Bel × Int :=
 if ub b = true ∧ z9 c = true then
  if b.2.2.2.2.2.2 = false ∧ chg c.1 = true then ye b.1 b.2.1
  else if (b.2.2.2.2.2.2 = false ∧ c.1 ≠ 2) ∨ c.1 = 12 then (b,0)
  else (zry b.1 b.2.1 b.2.2.1 b.2.2.2.1 b.2.2.2.2.1 b.2.2.2.2.2.1 c,0)
 else (noB,1)
theorem qn {w h : Int} {l : List zj} {x y : Int} {b s : Bool} : yx w h l x y b s = true ↔ ∃ w' h' : Nat,w = w' ∧ h = h' ∧ 2 ≤ w' ∧ w' ≤ 80 ∧ 1 ≤ h' ∧ h' ≤ 24 ∧ l.length = w' * h' ∧ GOk w' l ∧ (s = true → 0 ≤ x ∧ x < w' ∧ 0 ≤ y ∧ y < h' ∧ (b = true → x = w' - 1)) ∧ (s = false → x = 0 ∧ y = 0 ∧ b = false):=by
 have hcur : ∀ w' h' : Nat,z8n w' h' x y b s = true ↔ (s = true → 0 ≤ x ∧ x < w' ∧ 0 ≤ y ∧ y < h' ∧ (b = true → x = w' - 1)) ∧ (s = false → x = 0 ∧ y = 0 ∧ b = false):=fun w' h'=>by
  unfold z8n
  cases s <;> cases b <;> simp [and_assoc]
 unfold yx
 rw [Bool.and_eq_true,decide_eq_true_eq]
 constructor
 ·rintro ⟨h1,h2⟩
  obtain ⟨w',h',rfl,rfl,a,b',c,d,e,f,g⟩:=z3n h1
  exact ⟨w',h',rfl,rfl,a,b',c,d,e,g,(hcur w' h').1 h2⟩
 ·rintro ⟨w',h',rfl,rfl,a,b',c,d,e,g,k⟩
  exact ⟨⟨⟨by omega,by omega,by omega,by omega⟩,by rw [e]; exact Int.natCast_mul w' h',by simpa [GOk] using g⟩,(hcur w' h').2 k⟩
theorem yg {w h : Nat} (hw : w ≤ 80) (hh : h ≤ 24) : w * h ≤ 1920:=Nat.mul_le_mul hw hh
theorem zt_ {w h : Int} (hs : xl w h = true) : ub (ye w h).1 = true:=by
 obtain ⟨w,h,rfl,rfl,h1,h2,h3,h4⟩:=wt hs
 rw [ye,if_pos hs]
 exact qn.2 ⟨w,h,rfl,rfl,h1,h2,h3,h4,by simp,z6k _ _,fun h=>(by cases h),fun _=>⟨rfl,rfl,rfl⟩⟩
theorem zbt {w h x y n : Nat} (hy : y < h) (hx : x + n ≤ w) : y * w + x + n ≤ w * h:=by
 have h1 : (y + 1) * w ≤ h * w:=Nat.mul_le_mul_right w hy
 rw [Nat.add_mul,Nat.one_mul,Nat.mul_comm h w] at h1
 omega
theorem zi7 {w h : Nat} {l : List zj} (hh : 1 ≤ h) (hl : l.length = w * h) : (upB w l).length = w * h:=by
 rw [zi8 (by rw [hl]; exact Nat.le_mul_of_pos_right w hh),hl]
theorem zx6 {w h : Nat} {l : List zj} {x y : Nat} {b : Bool} {r : Int} (hw : 2 ≤ w) (hl : l.length = w * h) (hk : GOk w l) (hx : x < w) (hy : y < h) (hs : ja r = true) : (zf8 w h l x y b (zh r)).length = w * h ∧ GOk w (zf8 w h l x y b (zh r)):=by
 have hn:=j5 hs
 have hc:=zeg hs
 have go : ∀ (m : List zj) (X Y : Nat),m.length = w * h → GOk w m → Y < h → X + (zh r).length ≤ w → (yi w m (Y * w + X) (zh r)).length = w * h ∧ GOk w (yi w m (Y * w + X) (zh r)):=fun m X Y h1 h2 h3 h4=>by
  have:=zbt h3 h4
  exact ⟨by rw [zcu (by omega),h1],znh hw h1 h2 (by omega) hc (zhl w Y X r hs h4)⟩
 unfold zf8
 split
 ·split
  ·exact go l 0 (y + 1) hl hk (by omega) (by omega)
  ·exact go (upB w l) 0 y (zi7 (by omega) hl) (zsv hw (by omega) hl hk) hy (by omega)
 ·exact go l x y hl hk hy (by omega)
theorem zzh {w h : Nat} {l : List zj} {x y : Nat} {b : Bool} {c : Cmd} (hw : 2 ≤ w) (hl : l.length = w * h) (hk : GOk w l) (hx : x < w) (hy : y < h) (hc : z9 c = true) : (j_ w h l x y b c).length = w * h ∧ GOk w (j_ w h l x y b c):=by
 have ha:=zbt (n:=w - x) hy (show x + (w - x) ≤ w by omega)
 rcases u5 hc with ⟨r,rfl,hs⟩ | ⟨a,d,rfl,_⟩ | ⟨k,a,rfl,hk',_⟩ | ⟨k,rfl,hk'⟩
 ·exact zx6 hw hl hk hx hy hs
 ·exact ⟨hl,hk⟩
 ·rcases hk' with rfl | rfl | rfl | rfl <;> exact ⟨hl,hk⟩
 ·rcases hk' with rfl | rfl | rfl | rfl | rfl | rfl
  ·show (yi w l (y * w + x) (List.replicate (w - x) (32,0))).length = w * h ∧ GOk w (yi w l (y * w + x) (List.replicate (w - x) (32,0)))
   exact ⟨by rw [zcu (by simp; omega),hl],znh hw hl hk (by simp; omega) (zd0 _) (zf5 _ _ _)⟩
  ·show (yi w l (y * w + x) (List.replicate (l.length - (y * w + x)) (32,0))).length = w * h ∧ GOk w (yi w l (y * w + x) (List.replicate (l.length - (y * w + x)) (32,0)))
   exact ⟨by rw [zcu (by simp; omega),hl],znh hw hl hk (by simp; omega) (zd0 _) (zf5 _ _ _)⟩
  ·exact ⟨hl,hk⟩
  ·show (if y + 1 < h then l else upB w l).length = w * h ∧ GOk w (if y + 1 < h then l else upB w l)
   split
   ·exact ⟨hl,hk⟩
   ·exact ⟨zi7 (by omega) hl,zsv hw (by omega) hl hk⟩
  ·exact ⟨hl,hk⟩
  ·exact ⟨hl,hk⟩
theorem z40 {w h x y : Int} {b : Bool} {c : Cmd} (hw : 2 ≤ w ∧ w ≤ 80 ∧ 1 ≤ h ∧ h ≤ 24) (hx : 0 ≤ x ∧ x < w) (hy : 0 ≤ y ∧ y < h) (hb : b = true → x = w - 1) (hc : z9 c = true) : (0 ≤ (yj w h x y b c).1 ∧ (yj w h x y b c).1 < w ∧ 0 ≤ (yj w h x y b c).2.1 ∧ (yj w h x y b c).2.1 < h) ∧ ((yj w h x y b c).2.2 = true → (yj w h x y b c).1 = w - 1):=by
 obtain ⟨w',rfl⟩:=Int.eq_ofNat_of_zero_le (show 0 ≤ w by omega)
 obtain ⟨h',rfl⟩:=Int.eq_ofNat_of_zero_le (show 0 ≤ h by omega)
 have hn : okT w' h' (List.replicate (w' * h') (32,0)) x y b = true:=qp.2 ⟨zt9 (by omega) (by omega) (by omega) (by omega),⟨hx.1,hx.2,hy.1,hy.2⟩,hb⟩
 have h1:=zhe hn hc
 have h2:=zv8 w' h' (List.replicate (w' * h') (32,0)) x y b c
 have h3:=zay w' h' (List.replicate (w' * h') (32,0)) x y b c
 obtain ⟨_,k2,k3⟩:=qp.1 h1
 rw [h3.1,h3.2,h2] at k2
 rw [h3.1,h2] at k3
 exact ⟨k2,k3⟩
theorem zuf {w h : Nat} {l : List zj} {t : List zp} {x y : Nat} {b : Bool} {c : Cmd} (hl : l.length = w * h) (hk : GOk w l) (hok : okT w h t x y b = true) (hc : z9 c = true) (ha : Agr l t) : Agr (j_ w h l x y b c) (doK w h t x y b c).2.2.1:=by
 obtain ⟨h1,⟨h2,h3,h4,h5⟩,h6⟩:=qp.1 hok
 obtain ⟨w',h',e1,e2,w2,w3,w4,w5,tl,tok⟩:=x9 h1
 obtain rfl : w = w':=by omega
 obtain rfl : h = h':=by omega
 have hg:=xk h1
 have hx : x < w:=by omega
 have hy : y < h:=by omega
 have hr:=zbt (n:=w - x) hy (show x + (w - x) ≤ w by omega)
 have lay : ∀ (m : List zj) (s : List zp) (p : Nat) (cs : List zp),m.length = w * h → s.length = w * h → GOk w m → okG w h s = true → p + cs.length ≤ m.length → cs ≠ [] → Agr m s → Agr (yi w m p cs) (zbq s p cs):=fun m s p cs a1 a2 a3 a4 a5 a6 a7=>by
  obtain ⟨w',h',e1,e2,_,_,_,_,tl',tok'⟩:=x9 a4
  obtain rfl : w = w':=by omega
  exact z5i w2 w4 a1 a2 a3 tok' a5 a6 a7
 have txt : ∀ (m : List zj) (s : List zp) (X Y : Nat) (r : Int),m.length = w * h → s.length = w * h → GOk w m → okG w h s = true → Y < h → X + (zh r).length ≤ w → ja r = true → Agr m s → Agr (yi w m (Y * w + X) (zh r)) (zbs w h s X Y r).2.2.1:=fun m s X Y r a1 a2 a3 a4 a5 a6 a7 a8=>by
  have hn:=j5 a7
  have:=zbt a5 a6
  have e:=(y8 (x:=X) (y:=Y) a4 ⟨by omega,by omega⟩ ⟨by omega,by omega⟩ a7 (by omega)).1
  show Agr _ (zm_ w h s X Y r).1.2.2
  rw [e]
  exact lay _ _ _ _ a1 a2 a3 a4 (by first | omega | (simp only [Int.toNat_natCast]; omega)) (by intro hnil; rw [hnil] at hn; simp at hn) a8
 have up : Agr (upB w l) (wc w h t):=by
  rw [wc,if_pos h1]
  exact z88 w2 w4 hl tl ha
 have upk:=(ur w h t h1).2
 rcases u5 hc with ⟨r,rfl,hs⟩ | ⟨a,d,rfl,_⟩ | ⟨k,a,rfl,hk',_⟩ | ⟨k,rfl,hk'⟩
 ·have hn:=j5 hs
  show Agr (zf8 w h l x y b (zh r)) (v_ w h t x y b r).2.2.1
  unfold zf8 v_
  by_cases e : b = true ∨ w < x + (zh r).length
  ·have e' : b = true ∨ (w : Int) < x + (zh r).length:=by rcases e with e | e; exact .inl e; exact .inr (by omega)
   rw [if_pos e,if_pos e']
   by_cases q : y + 1 < h
   ·rw [if_pos q,kj,if_neg (by omega)]
    exact txt l t 0 (y + 1) r hl tl hk h1 q (by omega) hs ha
   ·rw [if_neg q,kj,if_pos (by omega)]
    exact txt (upB w l) (wc w h t) 0 y r (zi7 w4 hl) ((ur w h t h1).1.trans tl) (zsv w2 w4 hl hk) upk hy (by omega) hs up
  ·have e' : ¬ (b = true ∨ (w : Int) < x + (zh r).length):=fun z=>e (by rcases z with z | z; exact .inl z; exact .inr (by omega))
   rw [if_neg e,if_neg e']
   exact txt l t x y r hl tl hk h1 hy (by omega) hs ha
 ·exact ha
 ·rcases hk' with rfl | rfl | rfl | rfl <;> exact ha
 ·rcases hk' with rfl | rfl | rfl | rfl | rfl | rfl
  ·show Agr (yi w l (y * w + x) (List.replicate (w - x) (32,0))) (jq w h t (y * w + x) ((y + 1) * w)).1.2.2
   have e0 : ((y : Int) * w + x) = ((y * w + x : Nat) : Int):=by simp
   have e1 : (((y : Int) + 1) * w) = (((y + 1) * w : Nat) : Int):=by simp
   have e2 : (y + 1) * w = y * w + w:=Nat.succ_mul y w
   rw [e0,e1,(w_ h1 (by omega) (by omega) (by omega)).1]
   have e3 : (((y + 1) * w : Nat) - ((y * w + x : Nat) : Int)).toNat = w - x:=by omega
   simp only [Int.toNat_natCast,e3]
   exact lay _ _ _ _ hl tl hk h1 (by simp; omega) (by intro hnil; have:=congrArg List.length hnil; simp at this; omega) ha
  ·show Agr (yi w l (y * w + x) (List.replicate (l.length - (y * w + x)) (32,0))) (jq w h t (y * w + x) t.length).1.2.2
   have e0 : ((y : Int) * w + x) = ((y * w + x : Nat) : Int):=by simp
   rw [e0,(w_ h1 (by omega) (by omega) (by omega)).1]
   have e3 : ((t.length : Int) - ((y * w + x : Nat) : Int)).toNat = l.length - (y * w + x):=by omega
   simp only [Int.toNat_natCast,e3]
   exact lay _ _ _ _ hl tl hk h1 (by simp; omega) (by intro hnil; have:=congrArg List.length hnil; simp at this; omega) ha
  ·exact ha
  ·show Agr (if y + 1 < h then l else upB w l) (kj w h t y).1
   unfold kj
   by_cases q : y + 1 < h
   ·rw [if_pos q,if_neg (by omega)]; exact ha
   ·rw [if_neg q,if_pos (by omega)]; exact up
  ·exact ha
  ·exact ha
def zkw (b : Bel) (t : Tm) : Prop:=ub b = true ∧ yt t = true ∧ b.1 = t.1 ∧ b.2.1 = t.2.1 ∧ Agr b.2.2.1 t.2.2.1 ∧ (b.2.2.2.2.2.2 = true → b.2.2.2.1 = t.2.2.2.1 ∧ b.2.2.2.2.1 = t.2.2.2.2.1 ∧ b.2.2.2.2.2.1 = t.2.2.2.2.2)
noncomputable instance (b : Bel) (t : Tm) : Decidable (zkw b t):=Classical.propDecidable _
noncomputable def zxr (b : Bel) (t : Tm) : Bool:=decide (zkw b t)
theorem z8h {b : Bel} {c : Cmd} (h : ¬ (ub b = true ∧ z9 c = true)) : doB b c = (noB,1):=if_neg h
theorem z4v {b : Bel} {c : Cmd} (h1 : ub b = true) (h2 : z9 c = true) : (doB b c).2 = 0:=by
 obtain ⟨w,h,l,x,y,bb,s⟩:=b
 rw [doB,if_pos ⟨h1,h2⟩]
 obtain ⟨w',h',rfl,rfl,a1,a2,a3,a4,_⟩:=qn.1 h1
 split
 ·show (ye w' h').2 = 0
  rw [ye,if_pos (by simp [xl]; omega)]
 ·split <;> rfl
theorem z4w {w h : Int} {l : List zj} {x y : Int} {b s : Bool} {c : Cmd} (h1 : yx w h l x y b s = true) (hc : z9 c = true) : ub (zry w h l x y b c) = true:=by
 obtain ⟨w,h,rfl,rfl,w2,w3,w4,w5,hl,hk,p1,p2⟩:=qn.1 h1
 obtain ⟨hx,hy,hb⟩ : (0 ≤ x ∧ x < w) ∧ (0 ≤ y ∧ y < h) ∧ (b = true → x = w - 1):=by
  cases s with
  |true=>obtain ⟨a,b,c,d,e⟩:=p1 rfl; exact ⟨⟨a,b⟩,⟨c,d⟩,e⟩
  |false=>obtain ⟨rfl,rfl,rfl⟩:=p2 rfl; exact ⟨⟨by omega,by omega⟩,⟨by omega,by omega⟩,fun h=>by cases h⟩
 obtain ⟨k1,k2⟩:=zzh (b:=b) (x:=x.toNat) (y:=y.toNat) w2 hl hk (by omega) (by omega) hc
 obtain ⟨c1,c2⟩:=z40 (w:=w) (h:=h) (x:=x) (y:=y) (b:=b) ⟨by omega,by omega,by omega,by omega⟩ hx hy hb hc
 refine qn.2 ⟨w,h,rfl,rfl,w2,w3,w4,w5, ?_, ?_,fun _=>⟨c1.1,c1.2.1,c1.2.2.1,c1.2.2.2,c2⟩,fun h=>by cases h⟩
 ·show (j_ (w : Int).toNat (h : Int).toNat l x.toNat y.toNat b c).length = w * h
  simpa using k1
 ·show GOk w (j_ (w : Int).toNat (h : Int).toNat l x.toNat y.toNat b c)
  simpa using k2
theorem zv_ {b : Bel} {c : Cmd} (h1 : ub b = true) (h2 : z9 c = true) : ub (doB b c).1 = true:=by
 obtain ⟨w,h,l,x,y,bb,s⟩:=b
 rw [doB,if_pos ⟨h1,h2⟩]
 split
 ·obtain ⟨w',h',rfl,rfl,a1,a2,a3,a4,_⟩:=qn.1 h1
  exact zt_ (by simp [xl]; omega)
 ·split
  ·exact h1
  ·exact z4w h1 h2
theorem zv9 {b : Bel} {c : Cmd} (h1 : ub b = true) (h2 : z9 c = true) : (doB b c).1.1 = b.1 ∧ (doB b c).1.2.1 = b.2.1:=by
 obtain ⟨w,h,l,x,y,bb,s⟩:=b
 rw [doB,if_pos ⟨h1,h2⟩]
 obtain ⟨w',h',rfl,rfl,a1,a2,a3,a4,_⟩:=qn.1 h1
 split
 ·show (ye w' h').1.1 = w' ∧ (ye w' h').1.2.1 = h'
  rw [ye,if_pos (by simp [xl]; omega)]; exact ⟨rfl,rfl⟩
 ·split <;> exact ⟨rfl,rfl⟩
theorem zxe {b : Bel} {t : Tm} {c : Cmd} (ha : zkw b t) (hc : z9 c = true) : zkw (doB b c).1 (doT t c).1:=by
 obtain ⟨h1,h2,h3,h4,h5,h6⟩:=ha
 have k1:=zv_ h1 hc
 have k3:=zv9 h1 hc
 have ht:=zc5 h2 hc
 have k2:=zhe h2 hc
 rw [ht]
 simp only
 obtain ⟨w,h,l,x,y,bb,s⟩:=b
 obtain ⟨W,H,tl,X,Y,tb⟩:=t
 simp only at h3 h4 h5 h6 k1 k3 ⊢
 subst h3 h4
 have s1:=zay w h tl X Y tb c
 refine ⟨k1,k2,by rw [k3.1,s1.1],by rw [k3.2,s1.2], ?_, ?_⟩
 ·obtain ⟨w,h,rfl,rfl,w2,w3,w4,w5,hl,hk,p1,p2⟩:=qn.1 h1
  rw [doB,if_pos ⟨h1,hc⟩]
  split
  ·show Agr (ye w h).1.2.2.1 _
   rw [ye,if_pos (by simp [xl]; omega)]
   exact zxd _ _
  ·rename_i q1
   have same : ∀ bb' x' y' : _,chg c.1 = false → j_ w h l x' y' bb' c = l:=fun bb' x' y' q=>by
    simp only [chg,Bool.or_eq_false_iff,decide_eq_false_iff_not] at q
    simp [j_,q.1.1.1,q.1.1.2,q.1.2,q.2]
   have sameT : chg c.1 = false → (doK w h tl X Y tb c).2.2.1 = tl:=fun q=>by
    simp only [chg,Bool.or_eq_false_iff,decide_eq_false_iff_not] at q
    unfold doK goK
    simp only [q.1.1.1,q.1.1.2,q.1.2,q.2,if_false]
    repeat' split
    all_goals rfl
   split
   ·rename_i q2
    show Agr l _
    have : chg c.1 = false:=by
     rcases q2 with q2 | q2
     ·cases e : chg c.1 with
      |false=>rfl
      |true=>exact absurd ⟨q2.1,e⟩ q1
     ·simp [chg,q2]
    rw [sameT this]; exact h5
   ·rename_i q2
    show Agr (j_ (w : Int).toNat (h : Int).toNat l x.toNat y.toNat bb c) _
    simp only [Int.toNat_natCast]
    cases s with
    |false =>
     have : chg c.1 = false:=by
      cases e : chg c.1 with
      |false=>rfl
      |true=>exact absurd ⟨rfl,e⟩ q1
     rw [same _ _ _ this,sameT this]; exact h5
    |true =>
     obtain ⟨rfl,rfl,rfl⟩:=h6 rfl
     obtain ⟨a1,a2,a3,a4,a5⟩:=p1 rfl
     obtain ⟨x,rfl⟩:=Int.eq_ofNat_of_zero_le a1
     obtain ⟨y,rfl⟩:=Int.eq_ofNat_of_zero_le a3
     exact zuf hl hk h2 hc h5
 ·rw [doB,if_pos ⟨h1,hc⟩]
  split
  ·obtain ⟨w,h,rfl,rfl,w2,w3,w4,w5,_⟩:=qn.1 h1
   show (ye w h).1.2.2.2.2.2.2 = true → _
   rw [ye,if_pos (by simp [xl]; omega)]
   intro z; cases z
  ·rename_i q1
   split
   ·rename_i q2
    intro hs
    obtain ⟨rfl,rfl,rfl⟩:=h6 hs
    have : c.1 = 12:=by
     rcases q2 with q2 | q2
     ·have:=q2.1; simp only at this hs; rw [hs] at this; cases this
     ·exact q2
    rw [doK,if_neg (by omega),if_pos this]; exact ⟨rfl,rfl,rfl⟩
   ·rename_i q2
    intro _
    have hcur:=zv8 w h tl X Y tb c
    show (yj w h x y bb c).1 = _ ∧ (yj w h x y bb c).2.1 = _ ∧ (yj w h x y bb c).2.2 = _
    cases s with
    |true =>
     obtain ⟨rfl,rfl,rfl⟩:=h6 rfl
     rw [hcur]; exact ⟨rfl,rfl,rfl⟩
    |false =>
     have : c.1 = 2:=Classical.byContradiction fun z=>q2 (.inl ⟨rfl,z⟩)
     have e : ∀ x' y' b',yj w h x' y' b' c = (inM c.2.2.1 (w - 1),inM c.2.1 (h - 1),false):=fun x' y' b'=>by
      unfold yj doK; rw [if_neg (by omega),if_neg (by omega),if_pos this]; rfl
     rw [hcur,e,e]; exact ⟨rfl,rfl,rfl⟩
end Go.Proofs.YtgfmjmfphmjdkaaGreatDoor
namespace Go.Proofs.YtgfmjmfphmjdkaaGreatDoor
set_option maxHeartbeats 4000000
open Go Go.RowKit
set_option maxRecDepth 100000
def qc (w x : Int) (b : Bool) (c : Cmd) : Bool:=decide (c.1 = 10) || (decide (c.1 = 1) && (b || decide (w < x + (zh c.2.2.2).length)))
noncomputable def jh (b : Bel) (c : Cmd) : Int × Int :=
 if ¬ (ub b = true ∧ z9 c = true ∧ chg c.1 = true) then (0,0)
 else if b.2.2.2.2.2.2 = false ∨ (qc b.1 b.2.2.2.1 b.2.2.2.2.2.1 c = true ∧ b.2.2.2.2.1 = b.2.1 - 1) then (0,b.1 * b.2.1)
 else if c.1 = 10 then (0,0)
 else
  let y:=if qc b.1 b.2.2.2.1 b.2.2.2.2.2.1 c = true then b.2.2.2.2.1 + 1 else b.2.2.2.2.1
  let x:=if qc b.1 b.2.2.2.1 b.2.2.2.2.2.1 c = true then 0 else b.2.2.2.1
  (y * b.1 + max (x - 1) 0,if c.1 = 7 then (y + 1) * b.1 else if c.1 = 8 then b.1 * b.2.1 else y * b.1 + min b.1 (x + (zh c.2.2.2).length + 1))
theorem zuh {w h : Nat} {t : List zp} {Y X : Nat} {cs : List zp} (hok : okG w h t = true) (hy : Y < h) (hne : cs ≠ []) (hp : Y * w + X + cs.length ≤ w * h) (hX : X < w) {f g : Nat} (hf : f ≤ Y * w + X) (hf2 : 1 ≤ X → f + 1 ≤ Y * w + X) (hg : Y * w + X + cs.length ≤ g) (hg2 : (Y * w + X + cs.length - 1) % w ≠ w - 1 → Y * w + X + cs.length + 1 ≤ g) (i : Nat) (hi : i < f ∨ g ≤ i) : cAt (zbq t (Y * w + X) cs) i = cAt t i:=by
 obtain ⟨w',h',e1,e2,h1,h2,h3,h4,hlen,hall⟩:=x9 hok
 obtain rfl : w = w':=by omega
 obtain rfl : h = h':=by omega
 have hpos:=List.length_pos_iff.2 hne
 have hm:=zdw (y:=Y) hX
 rw [zng hne (by omega) (fun k=>zjp (hall _ (by omega)).2 k) (fun k=>by
  have:=zco (h:=h) (by omega) h3 hlen (by omega) (hall (Y * w + X + cs.length - 1) (by omega)).2 k; omega)]
 by_cases q1 : i < Y * w + X
 ·rw [if_pos q1,if_neg]
  rintro ⟨k1,k2⟩
  have:=((zq.1 (hall (Y * w + X) (by omega)).2).2 k2).1
  rw [hm] at this
  have:=hf2 (by omega)
  omega
 ·rw [if_neg q1,if_neg (by omega),if_neg]
  rintro ⟨k1,k2⟩
  have:=hg2 ((zq.1 (hall (Y * w + X + cs.length - 1) (by omega)).2).1 k2).1
  omega
def vp (t : List zp) (ft : Int × Int) (L : List zp) : Prop:=0 ≤ ft.1 ∧ ft.1 ≤ ft.2 ∧ ft.2 ≤ t.length ∧ L.length = t.length ∧ ∀ i : Nat,i < t.length → ((i : Int) < ft.1 ∨ ft.2 ≤ (i : Int)) → cAt L i = cAt t i
theorem zeb {t : List zp} : vp t (0,0) t:=⟨by simp,by simp,by simp,rfl,fun _ _ _=>rfl⟩
theorem zmx {t L : List zp} {n : Int} (h1 : L.length = t.length) (h2 : n = t.length) : vp t (0,n) L:=⟨by simp,by simp; omega,by simp; omega,h1,fun i hi h=>by simp only at h; omega⟩
theorem zx2 {b : Bel} {t : Tm} {c : Cmd} (ha : zkw b t) (hc : z9 c = true) : vp t.2.2.1 (jh b c) (doT t c).1.2.2.1:=by
 obtain ⟨h1,h2,h3,h4,h5,h6⟩:=ha
 have hok:=zhe h2 hc
 rw [zc5 h2 hc]
 obtain ⟨w,h,l,x,y,bb,s⟩:=b
 obtain ⟨W,H,tl,X,Y,tb⟩:=t
 simp only at h3 h4 h5 h6 ⊢
 subst h3 h4
 have s1:=zay w h tl X Y tb c
 have hL : (doK w h tl X Y tb c).2.2.1.length = tl.length:=by
  have a1:=(xk (qp.1 hok).1).1
  have a2:=(xk (qp.1 h2).1).1
  rw [s1.1,s1.2] at a1
  exact Int.ofNat_inj.1 (a1.trans a2.symm)
 obtain ⟨w,h,rfl,rfl,w2,w3,w4,w5,hl,hk,p1,p2⟩:=qn.1 h1
 obtain ⟨g1,⟨g2,g3,g4,g5⟩,g6⟩:=qp.1 h2
 simp only at g1 g2 g3 g4 g5 g6
 have tlen:=(xk g1).1
 by_cases q0 : chg c.1 = true
 ·by_cases q1 : s = false ∨ (qc w x bb c = true ∧ y = (h : Int) - 1)
  ·have e : jh (w,h,l,x,y,bb,s) c = (0,(w : Int) * h):=by
    unfold jh; rw [if_neg (fun z=>z ⟨h1,hc,q0⟩),if_pos q1]
   rw [e]; exact zmx hL tlen.symm
  ·have hs : s = true:=by cases s with | true=>rfl | false=>exact absurd (.inl rfl) q1
   subst hs
   obtain ⟨rfl,rfl,rfl⟩:=h6 rfl
   have q2 : qc w x bb c = true → y + 1 < (h : Int):=fun z=>by
    have : ¬ y = (h : Int) - 1:=fun z2=>q1 (.inr ⟨z,z2⟩)
    omega
   have te : jh (w,h,l,x,y,bb,true) c = if c.1 = 10 then (0,0) else
     ((if qc w x bb c = true then y + 1 else y) * w + max ((if qc w x bb c = true then 0 else x) - 1) 0,if c.1 = 7 then ((if qc w x bb c = true then y + 1 else y) + 1) * w else if c.1 = 8 then (w : Int) * h else (if qc w x bb c = true then y + 1 else y) * w + min (w : Int) ((if qc w x bb c = true then 0 else x) + (zh c.2.2.2).length + 1)):=by
    unfold jh; rw [if_neg (fun z=>z ⟨h1,hc,q0⟩),if_neg q1]
   rw [te]
   obtain ⟨x,rfl⟩:=Int.eq_ofNat_of_zero_le g2
   obtain ⟨y,rfl⟩:=Int.eq_ofNat_of_zero_le g4
   have hx : x < w:=by omega
   have hy : y < h:=by omega
   have lay : ∀ (Y X : Nat) (cs : List zp) (g : Nat),Y < h → X < w → cs ≠ [] → Y * w + X + cs.length ≤ w * h → g ≤ w * h → Y * w + X + cs.length ≤ g → ((Y * w + X + cs.length - 1) % w ≠ w - 1 → Y * w + X + cs.length + 1 ≤ g) → vp tl ((Y : Int) * w + max ((X : Int) - 1) 0,(g : Int)) (zbq tl (Y * w + X) cs):=fun Y X cs g a1 a2 a3 a4 a5 a6 a7=>by
    have e : ((Y : Int) * w + max ((X : Int) - 1) 0) = ((Y * w + (X - 1) : Nat) : Int):=by rw [Int.natCast_add,Int.natCast_mul]; omega
    rw [e]
    have hwh : ((w * h : Nat) : Int) = (w : Int) * h:=Int.natCast_mul w h
    refine ⟨Int.natCast_nonneg _,by simp only; omega,by simp only; omega,zpa (by omega),fun i hi hh => ?_⟩
    refine zuh g1 a1 a3 a4 a2 (f:=Y * w + (X - 1)) (g:=g) (by omega) (by omega) a6 a7 i ?_
    simp only at hh; omega
   have hwh : ((w * h : Nat) : Int) = (w : Int) * h:=Int.natCast_mul w h
   rcases u5 hc with ⟨r,rfl,hs⟩ | ⟨a,d,rfl,_⟩ | ⟨k,a,rfl,hk',_⟩ | ⟨k,rfl,hk'⟩
   ·have hn:=j5 hs
    have hne : zh r ≠ []:=fun z=>by rw [z] at hn; simp at hn
    have txt : ∀ (Y X : Nat),Y < h → X + (zh r).length ≤ w → X < w → vp tl ((Y : Int) * w + max ((X : Int) - 1) 0,(Y : Int) * w + min (w : Int) ((X : Int) + (zh r).length + 1)) (zbs w h tl X Y r).2.2.1:=fun Y X a1 a2 a3=>by
     have e:=(y8 (x:=X) (y:=Y) g1 ⟨by omega,by omega⟩ ⟨by omega,by omega⟩ hs (by omega)).1
     show vp tl _ (zm_ w h tl X Y r).1.2.2
     rw [e]
     have e2 : ((Y : Int) * w + min (w : Int) ((X : Int) + (zh r).length + 1)) = ((Y * w + min w (X + (zh r).length + 1) : Nat) : Int):=by rw [Int.natCast_add,Int.natCast_mul]; omega
     rw [e2]
     have hr:=zbt a1 a2
     have hr2:=zbt (n:=0) a1 (show w + 0 ≤ w by omega)
     refine lay Y X (zh r) _ a1 a3 hne hr (by omega) (by omega) fun z => ?_
     have : X + (zh r).length ≠ w:=fun z2=>z (by
      rw [show Y * w + X + (zh r).length - 1 = Y * w + (w - 1) by omega]; exact zdw (by omega))
     omega
    show vp tl _ (v_ w h tl x y bb r).2.2.1
    unfold v_
    have gd : qc w x bb (1,0,0,r) = true ↔ (bb = true ∨ (w : Int) < x + (zh r).length):=by simp [qc]
    by_cases e : bb = true ∨ (w : Int) < x + (zh r).length
    ·have:=q2 (gd.2 e)
     simp only [if_pos (gd.2 e),if_pos e,show ((1 : Int) = 7) = False by simp,show ((1 : Int) = 8) = False by simp,show ((1 : Int) = 10) = False by simp,if_false]
     unfold kj
     rw [if_neg (show ¬ ((y : Int) = (h : Int) - 1) by omega)]
     exact txt (y + 1) 0 (by omega) (by omega) (by omega)
    ·have e' : ¬ qc w x bb (1,0,0,r) = true:=fun z=>e (gd.1 z)
     simp only [if_neg e',if_neg e,show ((1 : Int) = 7) = False by simp,show ((1 : Int) = 8) = False by simp,show ((1 : Int) = 10) = False by simp,if_false]
     exact txt y x hy (by omega) hx
   ·simp [chg] at q0
   ·simp [chg] at q0; omega
   ·have gd : k ≠ 10 → qc w x bb (k,0,0,0) = false:=fun z=>by
     simp [qc,z]; omega
    have hr:=zbt (n:=w - x) hy (show x + (w - x) ≤ w by omega)
    have h2' : (y + 1) * w = y * w + w:=Nat.succ_mul y w
    have e0 : ((y : Int) * w + x) = ((y * w + x : Nat) : Int):=by simp
    have e1 : (((y : Int) + 1) * w) = (((y + 1) * w : Nat) : Int):=by simp
    rcases hk' with rfl | rfl | rfl | rfl | rfl | rfl
    ·have gd:=gd (by decide)
     simp only [gd,Bool.false_eq_true,if_false]
     rw [if_neg (by decide),if_pos trivial]
     show vp tl _ (jq w h tl (y * w + x) ((y + 1) * w)).1.2.2
     rw [e0,e1,(w_ g1 (by omega) (by omega) (by omega)).1]
     have e3 : (((y + 1) * w : Nat) - ((y * w + x : Nat) : Int)).toNat = w - x:=by omega
     simp only [Int.toNat_natCast,e3]
     refine lay y x _ _ hy hx (by intro hnil; have:=congrArg List.length hnil; simp at this; omega) (by simp; omega) (by omega) (by simp; omega) fun z=>absurd ?_ z
     rw [List.length_replicate,show y * w + x + (w - x) - 1 = y * w + (w - 1) by omega]; exact zdw (by omega)
    ·have gd:=gd (by decide)
     simp only [gd,Bool.false_eq_true,if_false]
     rw [if_neg (by decide),if_neg (by decide),if_pos trivial]
     show vp tl _ (jq w h tl (y * w + x) tl.length).1.2.2
     rw [e0,(w_ g1 (by omega) (by omega) (by omega)).1]
     have e3 : ((tl.length : Int) - ((y * w + x : Nat) : Int)).toNat = w * h - (y * w + x):=by omega
     simp only [Int.toNat_natCast,e3]
     rw [← hwh]
     refine lay y x _ _ hy hx (by intro hnil; have:=congrArg List.length hnil; simp at this; omega) (by simp; omega) (by omega) (by simp; omega) fun z=>absurd ?_ z
     rw [List.length_replicate,show y * w + x + (w * h - (y * w + x)) - 1 = w * h - 1 by omega]
     exact zju (h:=h) (by omega) w4 (by omega)
    ·simp [chg] at q0
    ·rw [if_pos (by rfl)]
     show vp tl (0,0) (kj w h tl y).1
     unfold kj
     have:=q2 (by simp [qc])
     rw [if_neg (by omega)]; exact zeb
    ·simp [chg] at q0
    ·simp [chg] at q0
 ·have e : jh (w,h,l,x,y,bb,s) c = (0,0):=by
   unfold jh; rw [if_pos (fun z=>q0 z.2.2)]
  have e2 : (doK w h tl X Y tb c).2.2.1 = tl:=by
   have q:=q0
   simp only [chg,Bool.or_eq_true,decide_eq_true_eq,not_or] at q
   unfold doK goK
   simp only [q.1.1.1,q.1.1.2,q.1.2,q.2,if_false]
   repeat' split
   all_goals rfl
  rw [e,e2]; exact zeb
noncomputable def xb (b : Bel) (f t : Int) (cur : Bool) : Bel :=
 if ¬ (ub b = true ∧ 0 ≤ f ∧ f ≤ t ∧ t ≤ b.2.2.1.length) then b
 else if cur then (b.1,b.2.1,zj0 b.2.2.1 f.toNat t.toNat,0,0,false,false)
 else (b.1,b.2.1,zj0 b.2.2.1 f.toNat t.toNat,b.2.2.2.1,b.2.2.2.2.1,b.2.2.2.2.2.1,b.2.2.2.2.2.2)
theorem zlx {b : Bel} {f t : Int} {cur : Bool} (h : ub b = true) : ub (xb b f t cur) = true:=by
 unfold xb
 by_cases q : ub b = true ∧ 0 ≤ f ∧ f ≤ t ∧ t ≤ b.2.2.1.length
 ·rw [if_neg (fun z=>z q)]
  obtain ⟨w,h',l,x,y,bb,s⟩:=b
  obtain ⟨_,q1,q2,q3⟩:=q
  obtain ⟨w,h',rfl,rfl,w2,w3,w4,w5,hl,hk,p1,p2⟩:=qn.1 h
  simp only at q3
  have f1 : (zj0 l f.toNat t.toNat).length = w * h':=by rw [zjz (by omega) (by omega),hl]
  have f2 : GOk w (zj0 l f.toNat t.toNat):=z36 (by omega) (by omega) hk
  cases cur with
  |true=>exact qn.2 ⟨w,h',rfl,rfl,w2,w3,w4,w5,f1,f2,fun z=>(by cases z),fun _=>⟨rfl,rfl,rfl⟩⟩
  |false=>exact qn.2 ⟨w,h',rfl,rfl,w2,w3,w4,w5,f1,f2,p1,p2⟩
 ·rw [if_pos q]; exact h
theorem zre {b : Bel} {tm : Tm} {f t : Int} {cur : Bool} (ha : zkw b tm) : zkw (xb b f t cur) tm:=by
 have k:=zlx (f:=f) (t:=t) (cur:=cur) ha.1
 obtain ⟨h1,h2,h3,h4,h5,h6⟩:=ha
 unfold xb at k ⊢
 by_cases q : ub b = true ∧ 0 ≤ f ∧ f ≤ t ∧ t ≤ b.2.2.1.length
 ·rw [if_neg (fun z=>z q)] at k ⊢
  have f3 : Agr (zj0 b.2.2.1 f.toNat t.toNat) tm.2.2.1:=z5j (by omega) (by omega) h5
  cases cur with
  |true=>exact ⟨k,h2,h3,h4,f3,fun z=>(by cases z)⟩
  |false=>exact ⟨k,h2,h3,h4,f3,h6⟩
 ·rw [if_pos q] at k ⊢; exact ⟨h1,h2,h3,h4,h5,h6⟩
def ofL (l : List zp) : List zj:=l.map fun c=>(c,true)
noncomputable def ofB (t : Tm) : Bel × Int:=if yt t = true then ((t.1,t.2.1,ofL t.2.2.1,t.2.2.2.1,t.2.2.2.2.1,t.2.2.2.2.2,true),0) else (noB,1)
theorem zar {l : List zp} {i : Nat} (h : i < l.length) : gAt (ofL l) i = (cAt l i,true):=zuy h
theorem zdx (l : List zp) : (ofL l).length = l.length:=by simp [ofL]
theorem z6v {t : Tm} (h : yt t = true) : ub (ofB t).1 = true:=by
 obtain ⟨w,h',l,x,y,b⟩:=t
 rw [ofB,if_pos h]
 obtain ⟨g1,⟨g2,g3,g4,g5⟩,g6⟩:=qp.1 h
 obtain ⟨w,h',rfl,rfl,w2,w3,w4,w5,hlen,hall⟩:=x9 g1
 refine qn.2 ⟨w,h',rfl,rfl,w2,w3,w4,w5,by rw [zdx]; exact hlen,zlr fun i hi => ?_,fun _=>⟨g2,g3,g4,g5,g6⟩,fun z=>(by cases z)⟩
 rw [zdx] at hi
 have hc:=hall i hi
 have hm:=Nat.mod_lt i (show 0 < w by omega)
 have hlo:=zq.1 hc.2
 rw [zar hi]
 refine ⟨fun z=>(by simp at z),fun _=>hc.1,fun z => ?_,fun z => ?_⟩
 ·obtain ⟨a1,a2⟩:=hlo.1 z
  refine ⟨by omega,fun _ => ?_⟩
  rw [zar (zco (h:=h') (by omega) w4 hlen hi hc.2 z),a2]
 ·obtain ⟨a1,a2⟩:=hlo.2 z
  refine ⟨by omega,fun _ => ?_⟩
  rw [zar (by omega),a2]
theorem znc {t : Tm} (h : yt t = true) : zkw (ye t.1 t.2.1).1 t ∧ (ye t.1 t.2.1).2 = 0:=by
 obtain ⟨w,h',l,x,y,b⟩:=t
 obtain ⟨g1,_,_⟩:=qp.1 h
 have hg:=xk g1
 have hs : xl w h' = true:=by simp only at hg; simp [xl]; omega
 have k:=zt_ hs
 simp only at k ⊢
 rw [ye,if_pos hs] at k ⊢
 exact ⟨⟨k,h,rfl,rfl,zxd _ _,fun z=>(by cases z)⟩,rfl⟩
theorem z6x {t u : Tm} (h : yt t = true) : zkw (ofB t).1 u ↔ t = u:=by
 have k:=z6v h
 rw [ofB,if_pos h] at k ⊢
 constructor
 ·rintro ⟨_,h2,h3,h4,h5,h6⟩
  simp only at h3 h4 h5 h6
  obtain ⟨e1,e2,e3⟩:=h6 trivial
  have a1:=(xk (qp.1 h).1).1
  have a2:=(xk (qp.1 h2).1).1
  rw [← h3,← h4] at a2
  have el : t.2.2.1 = u.2.2.1:=by
   refine zhm (by omega) fun i hi => ?_
   have:=h5 i (by rw [zdx]; exact hi)
   rw [zar hi] at this
   exact this rfl
  exact Prod.ext h3 (Prod.ext h4 (Prod.ext el (Prod.ext e1 (Prod.ext e2 e3))))
 ·rintro rfl
  refine ⟨k,h,rfl,rfl,fun i hi _ => ?_,fun _=>⟨rfl,rfl,rfl⟩⟩
  rw [show ((t.1,t.2.1,ofL t.2.2.1,t.2.2.2.1,t.2.2.2.2.1,t.2.2.2.2.2,true) : Bel).2.2.1 = ofL t.2.2.1 from rfl] at hi ⊢
  rw [zdx] at hi
  rw [zar hi]
end Go.Proofs.YtgfmjmfphmjdkaaGreatDoor
