/- Layer 27 (belief): guesses and beliefs, as types; what a right belief is, plainly. No condition. -/
import Derived.Test.YtgfmjmfphmjdkaaGreatDoorR1ZT
import Derived.Test.YtgfmjmfphmjdkaaGreatDoorR1ZG
import Derived.Test.YtgfmjmfphmjdkaaGreatDoorR1ZV
import Derived.Test.YtgfmjmfphmjdkaaGreatDoorR1ZM
set_option linter.unusedSimpArgs false
set_option linter.unusedVariables false
set_option linter.unusedSectionVars false
namespace Go.Proofs.YtgfmjmfphmjdkaaGreatDoor
set_option maxHeartbeats 4000000
open Go Go.RowKit
set_option maxRecDepth 100000
abbrev zi:=zp × Bool
def guT : Ty zi:={ enc:=fun g=>[.int .i32 g.1.1,.int .i64 g.1.2,.bool g.2],k:=3,len:=fun _=>rfl }
def guA (g : zi) : AV:=z0 [R g.1.1,I g.1.2,B g.2]
theorem zzk : Tryz.prog.underlying 96 = some (.struct #[{ name := "C",type:=87,offset:=0,embedded:=false,tag := "",pkgPath := "",byteOffset:=0 },{ name := "Sure",type:=4,offset:=2,embedded:=false,tag := "",pkgPath := "",byteOffset:=16 }]):=Tryz.underlying96
instance qer : StC 96 [R 0,I 0,B false] [(0,2),(2,1)]:=⟨StT.mk' _ [.int .i32 0,.int .i64 0,.bool false] zzk (by kernel_rfl) (by kernel_rfl)⟩
instance qc3 : FldC 96 0 0 87:=⟨_,_,zzk,rfl,rfl,rfl⟩
instance qc2 : FldC 96 1 2 4:=⟨_,_,zzk,rfl,rfl,rfl⟩
instance qft : AggC 96 true:=⟨ku (by kernel_rfl)⟩
instance qeg : SzC 96 3:=⟨xc (by kernel_rfl)⟩
instance qey : SpC 87:=⟨jo (n:=1) (by kernel_rfl)⟩
instance qfm : AlC 96 (.agg #[.int .i32 0,.int .i64 0,.bool false]) [.int .i32 0,.int .i64 0,.bool false] [R 0,I 0,B false]:=⟨by kernel_rfl,rfl,rfl⟩
theorem qba : El Tryz.prog guT 96 ((0,0),false) 24 guA:=⟨⟨.agg #[.int .i32 0,.int .i64 0,.bool false],by kernel_rfl,rfl⟩,by decide,fun x v hv=>by simp [guT] at hv; rcases hv with rfl | rfl | rfl <;> rfl,.inl ⟨ku (by kernel_rfl),fun x=>rfl⟩⟩
instance qff : ElC 96 guT ((0,0),false) 24 guA:=⟨qba⟩
theorem z2m : Tryz.prog.underlying 22 = some (.slice 96):=Tryz.underlying22
instance qce : UnC 22 (.slice 96):=⟨z2m⟩
instance qdf : AggC 22 false:=⟨yt (by kernel_rfl)⟩
instance qci : SzC 22 1:=⟨xc (by kernel_rfl)⟩
instance qcm : SpC 22:=⟨jo (n:=0) (by kernel_rfl)⟩
instance qei : SzC 4 1:=⟨xc (by kernel_rfl)⟩
theorem zjo : Tryz.prog.underlying 24 = some (.struct #[{ name := "W",type:=3,offset:=0,embedded:=false,tag := "",pkgPath := "",byteOffset:=0 },{ name := "H",type:=3,offset:=1,embedded:=false,tag := "",pkgPath := "",byteOffset:=8 },{ name := "L",type:=22,offset:=2,embedded:=false,tag := "",pkgPath := "",byteOffset:=16 },{ name := "X",type:=3,offset:=3,embedded:=false,tag := "",pkgPath := "",byteOffset:=40 },{ name := "Y",type:=3,offset:=4,embedded:=false,tag := "",pkgPath := "",byteOffset:=48 },{ name := "Wrap",type:=4,offset:=5,embedded:=false,tag := "",pkgPath := "",byteOffset:=56 },{ name := "Sure",type:=4,offset:=6,embedded:=false,tag := "",pkgPath := "",byteOffset:=57 }]):=Tryz.underlying24
abbrev jb (w h : Int) (l : List zi) (x y : Int) (b s : Bool) : AV:=z0 [I w,I h,slA guT l,I x,I y,B b,B s]
instance qes : StC 24 [I 0,I 0,vA (.slice none 0 0),I 0,I 0,B false,B false] [(0,1),(1,1),(2,1),(3,1),(4,1),(5,1),(6,1)]:=⟨StT.mk' _ [.int .i64 0,.int .i64 0,.slice none 0 0,.int .i64 0,.int .i64 0,.bool false,.bool false] zjo (by kernel_rfl) (by kernel_rfl)⟩
instance qc_ : FldC 24 0 0 3:=⟨_,_,zjo,rfl,rfl,rfl⟩
instance qc9 : FldC 24 1 1 3:=⟨_,_,zjo,rfl,rfl,rfl⟩
instance qc8 : FldC 24 2 2 22:=⟨_,_,zjo,rfl,rfl,rfl⟩
instance qc7 : FldC 24 3 3 3:=⟨_,_,zjo,rfl,rfl,rfl⟩
instance qc6 : FldC 24 4 4 3:=⟨_,_,zjo,rfl,rfl,rfl⟩
instance qc5 : FldC 24 5 5 4:=⟨_,_,zjo,rfl,rfl,rfl⟩
instance qc4 : FldC 24 6 6 4:=⟨_,_,zjo,rfl,rfl,rfl⟩
instance qfw : AggC 24 true:=⟨ku (by kernel_rfl)⟩
instance qej : SzC 24 7:=⟨xc (by kernel_rfl)⟩
instance qez : SpC 24:=⟨jo (n:=6) (by kernel_rfl)⟩
instance qfo : AlC 24 (.agg #[.int .i64 0,.int .i64 0,.slice none 0 0,.int .i64 0,.int .i64 0,.bool false,.bool false]) [.int .i64 0,.int .i64 0,.slice none 0 0,.int .i64 0,.int .i64 0,.bool false,.bool false] [I 0,I 0,vA (.slice none 0 0),I 0,I 0,B false,B false]:=⟨by kernel_rfl,rfl,rfl⟩
theorem qa1 : (Tryz.prog.fieldsOf 96).toList = [{ name := "C",type:=87,offset:=0,embedded:=false,tag := "",pkgPath := "",byteOffset:=0 },{ name := "Sure",type:=4,offset:=2,embedded:=false,tag := "",pkgPath := "",byteOffset:=16 }]:=by kernel_rfl
theorem z1q (d : Nat) (a b : Bool) (w : World) : (Op.equalIn (d + 1) 4 (.bool a) (.bool b)).run Tryz.prog w = .ok (a == b) w:=run_equalIn_bool w d _ a b Tryz.underlying4
theorem zlm (d : Nat) (a b : zi) (w : World) : (Op.equalIn (d + 3) 96 (.agg #[.int .i32 a.1.1,.int .i64 a.1.2,.bool a.2]) (.agg #[.int .i32 b.1.1,.int .i64 b.1.2,.bool b.2])).run Tryz.prog w = .ok (decide (a = b)) w:=by
 rw [run_equalIn_agg _ _ _ _ _ (by kernel_rfl) (by kernel_rfl),qa1]
 obtain ⟨⟨a1,a2⟩,a3⟩:=a
 obtain ⟨⟨b1,b2⟩,b3⟩:=b
 have hc:=zbs d (a1,a2) (b1,b2) w
 simp [Op.eqFields,part,zn2,z1q,zuh,zuv,hc]
 by_cases h1 : a1 = b1 <;> by_cases h2 : a2 = b2 <;> by_cases h3 : a3 = b3 <;> simp [h1,h2,h3]
theorem z3a (op : BinOp) (x y : Operand) (xs ys : Array Value) (w : World) : (eqGuard op 96 x y (.agg xs) (.agg ys)).run Tryz.prog w = .ok () w:=run_eqGuard_agg w op _ x y xs ys (by kernel_rfl)
section
variable {T0 : Gh} {fr : Fr} {M : List Own} {ops : Array Oper} {o : Oper}
theorem zyo {x y : Operand} {a b : zi} {t' : TypeId} (ho : o.op = .binOp .eql 96 x y t') (hx : Opd T0 fr x (z0 [R a.1.1,I a.1.2,B a.2])) (hy : Opd T0 fr y (z0 [R b.1.1,I b.1.2,B b.2])) : AY Tryz.prog T0 ops o fr M (B (decide (a = b))):=xl fun w0 G F a' w hs hf=>by
 obtain ⟨us,h1,r1⟩:=(hx.use (o:=o) (ops:=ops) (by simp [ho,Op.operands]) hs.tab hf).agg
 obtain ⟨vs,h2,r2⟩:=(hy.use (o:=o) (ops:=ops) (by simp [ho,Op.operands]) hs.tab hf).agg
 obtain rfl:=xz (zs:=[.int .i32 a.1.1,.int .i64 a.1.2,.bool a.2]) r1
 obtain rfl:=xz (zs:=[.int .i32 b.1.1,.int .i64 b.1.2,.bool b.2]) r2
 have h3:=zlm 9997 a b w
 refine ⟨_, ?_,Rep.va _ _⟩
 simp only [execOp,ho,h1,h2,Sem.run_bind,z3a,Result.andThen_ok,run_eql_struct,h3,Sem.run_pure]
theorem zyi {x y : Operand} {a b : zi} {t' : TypeId} (ho : o.op = .binOp .neq 96 x y t') (hx : Opd T0 fr x (z0 [R a.1.1,I a.1.2,B a.2])) (hy : Opd T0 fr y (z0 [R b.1.1,I b.1.2,B b.2])) : AY Tryz.prog T0 ops o fr M (B (!decide (a = b))):=xl fun w0 G F a' w hs hf=>by
 obtain ⟨us,h1,r1⟩:=(hx.use (o:=o) (ops:=ops) (by simp [ho,Op.operands]) hs.tab hf).agg
 obtain ⟨vs,h2,r2⟩:=(hy.use (o:=o) (ops:=ops) (by simp [ho,Op.operands]) hs.tab hf).agg
 obtain rfl:=xz (zs:=[.int .i32 a.1.1,.int .i64 a.1.2,.bool a.2]) r1
 obtain rfl:=xz (zs:=[.int .i32 b.1.1,.int .i64 b.1.2,.bool b.2]) r2
 have h3:=zlm 9997 a b w
 refine ⟨_, ?_,Rep.va _ _⟩
 simp only [execOp,ho,h1,h2,Sem.run_bind,z3a,Result.andThen_ok,run_neq_struct,h3,Sem.run_pure]
theorem zie {a1 a2 b1 b2 : Int} {a3 b3 : Bool} : EqK Tryz.prog 96 (z0 [R a1,I a2,B a3]) (z0 [R b1,I b2,B b3]) (decide ((((a1,a2),a3) : zi) = ((b1,b2),b3))):=fun _ _ _ _ _ _ _ _ hx hy=>⟨fun ho=>zyo (a:=((a1,a2),a3)) (b:=((b1,b2),b3)) ho hx hy,fun ho=>zyi (a:=((a1,a2),a3)) (b:=((b1,b2),b3)) ho hx hy⟩
end
def gAt (l : List zi) (i : Nat) : zi:=l[i]?.getD ((0,0),false)
theorem znd {l : List zi} {i : Nat} (h : i < l.length) : l[i]? = some (gAt l i):=by simp [gAt,h]
theorem zwe {l : List zi} {i : Nat} (h : l.length ≤ i) : gAt l i = ((0,0),false):=by simp [gAt,h]
theorem zwf {a b : List zi} (hl : a.length = b.length) (h : ∀ i,i < a.length → gAt a i = gAt b i) : a = b:=by
 apply List.ext_getElem? ; intro i
 by_cases hi : i < a.length
 ·rw [znd hi,znd (l:=b) (by omega),h i hi]
 ·rw [List.getElem?_eq_none (by omega),List.getElem?_eq_none (by omega)]
theorem zqs (l : List zi) (a i : Nat) : gAt (l.drop a) i = gAt l (a + i):=by simp [gAt,List.getElem?_drop]
theorem z00 {l : List zi} {n i : Nat} (h : i < n) : gAt (l.take n) i = gAt l i:=by simp [gAt,List.getElem?_take,h]
theorem zg0 (l : List zi) (j i : Nat) (c : zi) (hj : j < l.length) : gAt (l.set j c) i = if i = j then c else gAt l i:=by
 unfold gAt; rw [List.getElem?_set]
 by_cases h : j = i
 ·subst h; simp [hj]
 ·simp [h,Ne.symm h]
theorem zoa {n i : Nat} {c : zi} (h : i < n) : gAt (List.replicate n c) i = c:=by simp [gAt,List.getElem?_replicate,h]
theorem z5f {a b : List zi} {i : Nat} : gAt (a ++ b) i = if i < a.length then gAt a i else gAt b (i - a.length):=by
 unfold gAt
 split
 ·rename_i h; rw [List.getElem?_append_left h]
 ·rename_i h; rw [List.getElem?_append_right (by omega)]
theorem zoc {l : List zp} {i : Nat} (h : i < l.length) : gAt (l.map fun c=>(c,true)) i = (cAt l i,true):=by simp [gAt,cAt,h]
theorem zob {l c : List zi} {off i : Nat} (h : off + c.length ≤ l.length) : gAt (ovr l off c) i = if i < off then gAt l i else if i < off + c.length then gAt c (i - off) else gAt l i:=by
 unfold gAt ovr
 have h1 : (l.take off).length = off:=by rw [List.length_take]; omega
 by_cases h2 : i < off
 ·rw [if_pos h2,List.append_assoc,List.getElem?_append_left (by omega),List.getElem?_take,if_pos h2]
 ·rw [if_neg h2]
  by_cases h3 : i < off + c.length
  ·rw [if_pos h3,List.getElem?_append_left (by rw [List.length_append]; omega),List.getElem?_append_right (by omega),h1]
  ·rw [if_neg h3,List.getElem?_append_right (by rw [List.length_append]; omega),List.getElem?_drop,List.length_append,h1]
   congr 2; omega
def zt9 (l : List zi) (i : Nat) : Bool :=
 if (gAt l i).2 = false then decide (gAt l i = ((0,0),false))
 else xo (gAt l i).1 && (if (gAt l i).1.2 = 1 then decide (i + 1 < l.length) && (!(gAt l (i + 1)).2 || decide (gAt l (i + 1) = (((gAt l i).1.1,2),true))) else if (gAt l i).1.2 = 2 then decide (1 ≤ i) && (!(gAt l (i - 1)).2 || decide (gAt l (i - 1) = (((gAt l i).1.1,1),true))) else true)
def ze2 (l : List zi) : Bool:=(List.range l.length).all (zt9 l)
theorem zco {l : List zi} : ze2 l = true ↔ ∀ i,i < l.length → zt9 l i = true:=by simp [ze2]
def znc (w : Nat) (l : List zi) (i : Nat) : Bool :=
 if (gAt l i).2 = false then decide (gAt l i = ((0,0),false))
 else xo (gAt l i).1 && (if (gAt l i).1.2 = 1 then decide (i % w < w - 1) && (!(gAt l (i + 1)).2 || decide (gAt l (i + 1) = (((gAt l i).1.1,2),true))) else if (gAt l i).1.2 = 2 then decide (0 < i % w) && (!(gAt l (i - 1)).2 || decide (gAt l (i - 1) = (((gAt l i).1.1,1),true))) else true)
abbrev zdx (w : Nat) (l : List zi) (y : Nat) : List zi:=(l.drop (y * w)).take w
theorem zcn {w h y : Nat} {l : List zi} (hl : l.length = w * h) (hy : y < h) : (zdx w l y).length = w:=by
 have h1 : (y + 1) * w ≤ h * w:=Nat.mul_le_mul_right _ hy
 rw [Nat.add_mul,Nat.one_mul] at h1
 rw [List.length_take,List.length_drop,hl,Nat.mul_comm w h]; omega
theorem zjz {w y x : Nat} {l : List zi} (hx : x < w) : gAt (zdx w l y) x = gAt l (y * w + x):=by rw [z00 hx,zqs]
theorem zu8 {w h y x : Nat} {l : List zi} (hl : l.length = w * h) (hy : y < h) (hx : x < w) : zt9 (zdx w l y) x = znc w l (y * w + x):=by
 have hm : (y * w + x) % w = x:=by rw [Nat.add_comm,Nat.add_mul_mod_self_right,Nat.mod_eq_of_lt hx]
 unfold zt9 znc
 rw [zjz hx,hm,zcn hl hy]
 split
 ·rfl
 ·congr 1
  split
  ·by_cases h1 : x + 1 < w
   ·rw [zjz h1,← Nat.add_assoc,show decide (x + 1 < w) = decide (x < w - 1) by congr 1; simp; omega]
   ·rw [show decide (x + 1 < w) = false by simpa using h1,show decide (x < w - 1) = false by simp; omega]; rfl
  ·split
   ·by_cases h1 : 1 ≤ x
    ·rw [zjz (show x - 1 < w by omega),show y * w + (x - 1) = y * w + x - 1 by omega]; rfl
    ·rw [show decide (1 ≤ x) = false by simpa using h1,show decide (0 < x) = false by simp; omega]; rfl
   ·rfl
theorem z4l {w h : Nat} {l : List zi} (hw : 1 ≤ w) (hl : l.length = w * h) : (∀ y,y < h → ze2 (zdx w l y) = true) ↔ ∀ i,i < l.length → znc w l i = true:=by
 constructor
 ·intro H i hi
  have hy : i / w < h:=by rw [Nat.div_lt_iff_lt_mul (by omega),Nat.mul_comm]; omega
  have hx : i % w < w:=Nat.mod_lt _ (by omega)
  have hd : i / w * w + i % w = i:=by rw [Nat.mul_comm]; exact Nat.div_add_mod i w
  have:=zco.1 (H _ hy) (i % w) (by rw [zcn hl hy]; exact hx)
  rwa [zu8 hl hy hx,hd] at this
 ·intro H y hy
  rw [zco,zcn hl hy]
  intro x hx
  rw [zu8 hl hy hx]
  refine H _ ?_
  have h1 : (y + 1) * w ≤ h * w:=Nat.mul_le_mul_right _ hy
  rw [Nat.add_mul,Nat.one_mul] at h1
  rw [hl,Nat.mul_comm w h]; omega
abbrev Bel:=Int × Int × List zi × Int × Int × Bool × Bool
abbrev blA (b : Bel) : AV:=jb b.1 b.2.1 b.2.2.1 b.2.2.2.1 b.2.2.2.2.1 b.2.2.2.2.2.1 b.2.2.2.2.2.2
def z7d (w h x y : Int) (b s : Bool) : Bool:=if s then decide (0 ≤ x) && decide (x < w) && decide (0 ≤ y) && decide (y < h) && (!b || decide (x = w - 1)) else decide (x = 0) && decide (y = 0) && !b
def OkL (w h : Int) (l : List zi) : Prop:=(2 ≤ w ∧ w ≤ 80 ∧ 1 ≤ h ∧ h ≤ 24) ∧ (l.length : Int) = w * h ∧ ∀ i,i < l.length → znc w.toNat l i = true
noncomputable instance (w h : Int) (l : List zi) : Decidable (OkL w h l):=Classical.propDecidable _
noncomputable def vr (w h : Int) (l : List zi) (x y : Int) (b s : Bool) : Bool:=decide (OkL w h l) && z7d w h x y b s
theorem z40 {w h : Int} {l : List zi} (hs : OkL w h l) : ∃ w' h' : Nat,w = w' ∧ h = h' ∧ 2 ≤ w' ∧ w' ≤ 80 ∧ 1 ≤ h' ∧ h' ≤ 24 ∧ l.length = w' * h' ∧ l.length ≤ 1920 ∧ ∀ i,i < l.length → znc w' l i = true:=by
 obtain ⟨⟨a,b,c,d⟩,e,f⟩:=hs
 obtain ⟨w',rfl⟩:=Int.eq_ofNat_of_zero_le (show 0 ≤ w by omega)
 obtain ⟨h',rfl⟩:=Int.eq_ofNat_of_zero_le (show 0 ≤ h by omega)
 have hl : l.length = w' * h':=by rw [← Int.natCast_mul] at e; omega
 exact ⟨w',h',rfl,rfl,by omega,by omega,by omega,by omega,hl,by have:=ks (w:=w') (h:=h') (by omega) (by omega); omega,by simpa using f⟩
end Go.Proofs.YtgfmjmfphmjdkaaGreatDoor
namespace Go.Proofs.YtgfmjmfphmjdkaaGreatDoor
set_option maxHeartbeats 4000000
open Go Go.RowKit
variable {T0 : Gh} [TabS T0]
attribute [local irreducible] z_ zg AW AL AO QY qd zx rsA Opd xi vA gvA zt z0 slA jc ipA rpA EqK LnK IxK LdK FaK FdK
set_option maxRecDepth 100000
theorem yp (c : zp) : AP Tryz.prog T0 115 [zhr c] (guA (c,true)):=by
 refine za Tryz.func115 rfl (by decide) Tryz.ntmps115 rfl ?_
 repeat' (first
 |refine g6_ ?_ | (refine zb ?_ ?_ <;> intro hb <;> try exact no_) | (refine sx_ ?_ <;> intro bb) | (refine su_ ?_ <;> intro u hu1 hu2) | fail)
 exact ⟨_,[],rs_,List.nil_sublist _,Sub.refl _,rfl⟩
theorem za_ : AP Tryz.prog T0 121 [] (zhr (32,0)):=by
 refine za Tryz.func121 rfl (by decide) Tryz.ntmps121 rfl ?_
 repeat' (first
 |refine g6_ ?_ | (refine zb ?_ ?_ <;> intro hb <;> try exact no_) | (refine sx_ ?_ <;> intro bb) | (refine su_ ?_ <;> intro u hu1 hu2) | fail)
 exact ⟨_,[],rs_,List.nil_sublist _,Sub.refl _,rfl⟩
theorem z3o {fr : Fr} {M : List Own} {ops : Array Oper} {o : Oper} {x y : Operand} {k : Bool} (ho : o.op = .indexAddr 22 x y) (hk : k = true) (h0 : k = false) : AY Tryz.prog T0 ops o fr M (ipA (guT.enc ((0,0),false))):=by rw [h0] at hk; cases hk
theorem zxm (l : List zi) (hl : l.length ≤ 100000) : AP Tryz.prog T0 117 [slA guT l] (B (ze2 l)):=by
 have bad : ∀ k,k < l.length → zt9 l k = false → ze2 l = false:=fun k hk h=>by
  cases e : ze2 l with
  |false=>rfl
  |true=>rw [zco.1 e k hk] at h; cases h
 refine za Tryz.func117 rfl (by decide) Tryz.ntmps117 rfl ?_
 repeat' (first
 |refine zuc ?_ | (refine zb ?_ ?_ <;> intro hb <;> try exact no_) | (refine sx_ ?_ <;> intro bb) | (refine su_ ?_ <;> intro u hu1 hu2) | fail)
 refine yk (fun k : Nat=>[(9,I k)]) (fun k=>k ≤ l.length ∧ ∀ j,j < k → zt9 l j = true) (fun k=>l.length - k) 0 ⟨Nat.zero_le _,fun j hj=>absurd hj (Nat.not_lt_zero _)⟩ ?_
 rintro k ⟨h1,h2⟩
 by_cases hlt : k < l.length
 ·have hat:=znd hlt
  have hb0:=bad k hlt
  have nxt : zt9 l k = true → ∀ j,j < k + 1 → zt9 l j = true:=fun h j hj=>by
   by_cases e : j = k
   ·subst e; exact h
   ·exact h2 j (by omega)
  have hr : zt9 l k = zt9 l k:=rfl
  conv at hr=>rhs; unfold zt9
  have gn : k + 1 < l.length → l[k + 1]? = some (gAt l (k + 1)):=fun h=>znd h
  have gp : 1 ≤ k → l[k - 1]? = some (gAt l (k - 1)):=fun h=>znd (by omega)
  generalize gAt l (k + 1) = gx at *
  generalize gAt l (k - 1) = gy at *
  generalize zt9 l k = rk at *
  generalize ze2 l = rl at *
  generalize gAt l k = g at *
  clear bad
  obtain ⟨⟨x1,x2⟩,x3⟩:=gx
  obtain ⟨⟨y1,y2⟩,y3⟩:=gy
  obtain ⟨⟨c1,c2⟩,s⟩:=g
  cases s with
  |false =>
   repeat' (first
   |refine zuc ?_ | (refine zb ?_ ?_ <;> intro hb <;> try exact no_) | (refine sx_ ?_ <;> intro bb) | (refine su_ ?_ <;> intro u hu1 hu2) | fail)
   all_goals first | exact e3_ | skip
  |true =>
   by_cases hK1 : c2 = 1
   ·subst hK1
    by_cases hn : k + 1 < l.length
    ·have gn:=gn hn
     cases x3 with
     |false =>
      repeat' (first
      |refine zuc ?_ | (refine zb ?_ ?_ <;> intro hb <;> try exact no_) | (refine sx_ ?_ <;> intro bb) | (refine su_ ?_ <;> intro u hu1 hu2) | fail)
      all_goals first | exact e3_ | skip
     |true =>
      by_cases he : x1 = c1 ∧ x2 = 2
      ·obtain ⟨rfl,rfl⟩:=he
       repeat' (first
       |refine zuc ?_ | (refine zb ?_ ?_ <;> intro hb <;> try exact no_) | (refine sx_ ?_ <;> intro bb) | (refine su_ ?_ <;> intro u hu1 hu2) | fail)
       all_goals first | exact e3_ | skip
      ·repeat' (first
       |refine zuc ?_ | (refine zb ?_ ?_ <;> intro hb <;> try exact no_) | (refine sx_ ?_ <;> intro bb) | (refine su_ ?_ <;> intro u hu1 hu2) | fail)
       all_goals first | exact e3_ | skip
    ·have he : l.length = k + 1:=by omega
     repeat' (first
     |refine zuc ?_ | (refine zb ?_ ?_ <;> intro hb <;> try exact no_) | (refine sx_ ?_ <;> intro bb) | (refine su_ ?_ <;> intro u hu1 hu2) | fail)
     all_goals first | exact e3_ | skip
   ·by_cases hK2 : c2 = 2
    ·subst hK2
     by_cases h0 : 1 ≤ k
     ·have gp:=gp h0
      cases y3 with
      |false =>
       repeat' (first
       |refine zuc ?_ | (refine zb ?_ ?_ <;> intro hb <;> try exact no_) | (refine sx_ ?_ <;> intro bb) | (refine su_ ?_ <;> intro u hu1 hu2) | fail)
       all_goals first | exact e3_ | skip
      |true =>
       by_cases he : y1 = c1 ∧ y2 = 1
       ·obtain ⟨rfl,rfl⟩:=he
        repeat' (first
        |refine zuc ?_ | (refine zb ?_ ?_ <;> intro hb <;> try exact no_) | (refine sx_ ?_ <;> intro bb) | (refine su_ ?_ <;> intro u hu1 hu2) | fail)
        all_goals first | exact e3_ | skip
       ·repeat' (first
        |refine zuc ?_ | (refine zb ?_ ?_ <;> intro hb <;> try exact no_) | (refine sx_ ?_ <;> intro bb) | (refine su_ ?_ <;> intro u hu1 hu2) | fail)
        all_goals first | exact e3_ | skip
     ·obtain rfl : k = 0:=by omega
      repeat' (first
      |refine zuc ?_ | (refine zb ?_ ?_ <;> intro hb <;> try exact no_) | (refine sx_ ?_ <;> intro bb) | (refine su_ ?_ <;> intro u hu1 hu2) | fail)
      all_goals first | exact ⟨_,[],rl_,List.nil_sublist _,Sub.eq (congrArg B (hb0 (by rw [hr]; simp_all)).symm),rfl⟩ | exact ⟨0 + 1,⟨by omega,nxt (by rw [hr]; simp_all)⟩,by omega,wx_,sl_⟩ | skip
    ·repeat' (first
     |refine zuc ?_ | (refine zb ?_ ?_ <;> intro hb <;> try exact no_) | (refine sx_ ?_ <;> intro bb) | (refine su_ ?_ <;> intro u hu1 hu2) | fail)
     all_goals first | exact e3_ | skip
 ·repeat' (first
  |refine zuc ?_ | (refine zb ?_ ?_ <;> intro hb <;> try exact no_) | (refine sx_ ?_ <;> intro bb) | (refine su_ ?_ <;> intro u hu1 hu2) | fail)
  refine ⟨_,[],rl_,List.nil_sublist _,Sub.eq (congrArg B ?_),rfl⟩
  exact (zco.2 fun i hi=>h2 i (by omega)).symm
end Go.Proofs.YtgfmjmfphmjdkaaGreatDoor
namespace Go.Proofs.YtgfmjmfphmjdkaaGreatDoor
set_option maxHeartbeats 4000000
open Go Go.RowKit
section
variable {T0 : Gh} {N : Fz} {Q : kw} {fr : Fr} {M : List Own} {ops : Array Oper} {o : Oper} {rest : List Oper} {x0 : Nat}
theorem zyl {P : Program} {f : FuncId} {caps : Array Operand} {As : List AV} (ho : o.op = .makeFunc (.func f) #[] caps) (hx : OpdAll T0 fr caps.toList As) : AY P T0 ops o fr M (fnA f As):=xl fun w0 G F a w hs hf=>by
 have hr:=hx.use (o:=o) (ops:=ops) hs.tab (fun x hx=>by simp only [ho,Op.operands]; simpa using hx) hf
 refine ⟨.func (.func f) #[] (caps.map a.eval), ?_,.of ⟨caps.toList.map a.eval, ?_,hr⟩⟩
 ·simp only [execOp,ho,Sem.run_bind,show ∀ (fn : Fn) (first cap : Array Value),(Instr.makeFunc fn first cap).run P w = .ok (.func fn first cap) w from fun _ _ _=>rfl,Result.andThen_ok,Sem.run_pure]
  simp
 ·rw [← Array.toList_map,Array.toArray_toList]
theorem z7p {A : AV} (h : ALi Tryz.prog T0 N ops Q rest ((x0,A) :: fr) M) (hg : GK Tryz.prog T0 ops o fr true:=by first | exact z8g | fail) (hy : AY Tryz.prog T0 ops o fr M A:=by first | exact y_ | fail) (hx : o.dst = some x0:=by rfl) (hd : Nat.blt x0 N.n = true:=by rfl) (hn : zel [o] = true:=by rfl) : ALi Tryz.prog T0 N ops Q (o :: rest) fr M :=
 z9w (OutK.t.qy (hg M A fun _=>hy)) hx hd hn h
theorem znr {A : AV} (h : ALi Tryz.prog T0 N ops Q rest ((x0,A) :: fr) M) (hg : GK Tryz.prog T0 ops o fr true:=by first | exact z8g | fail) (hy : AY Tryz.prog T0 ops o fr M A) (hx : o.dst = some x0:=by rfl) (hd : Nat.blt x0 N.n = true:=by rfl) (hn : zel [o] = true:=by rfl) : ALi Tryz.prog T0 N ops Q (o :: rest) fr M :=
 z9w (OutK.t.qy (hg M A fun _=>hy)) hx hd hn h
end
variable {T0 : Gh} [TabS T0]
attribute [local irreducible] z_ zg AW AL AO QY qd zx rsA Opd xi vA gvA zt z0 slA jc ipA rpA EqK LnK IxK LdK FaK FdK
set_option maxRecDepth 100000
abbrev bx (b : Nat) : AV:=vA (.pointer (some ⟨b,0,none⟩))
theorem zhf (l : List zi) (n : Nat) (hn : 1 ≤ n) : AF Tryz.prog T0 116 [slA guT l,I n] [] (fun A M' => ∃ b2 b3,A = fnA 156 [bx b2,bx b3] ∧ M' = [qd b3 3 [I n],qd b2 22 [slA guT l]]):=by
 refine za Tryz.func116 rfl (by decide) Tryz.ntmps116 rfl ?_
 repeat' (first
 |refine qb2 ?_ | (refine zb ?_ ?_ <;> intro hb <;> try exact no_) | (refine sx_ ?_ <;> intro bb) | (refine su_ ?_ <;> intro u hu1 hu2) | fail)
 all_goals first | exact e1_ | skip
 exact ⟨_,_,rl_,List.Sublist.refl _,_,_,rfl,rfl⟩
theorem zh6 {α : Type} (f : Nat → α) {k h : Nat} (hk : k < h) : ((List.range h).map f).take k ++ f k :: ((List.range h).map f).drop (k + 1) = (List.range h).map f:=by
 have e : ((List.range h).map f)[k]? = some (f k):=by simp [hk]
 have hlt : k < ((List.range h).map f).length:=by simpa using hk
 have e2 : ((List.range h).map f)[k] = f k:=by simp
 rw [← e2,← List.drop_eq_getElem_cons hlt,List.take_append_drop]
theorem zcj {α : Type} (f : Nat → α) {k h : Nat} (hk : k < h) : ((List.range h).map f).take (k + 1) = ((List.range h).map f).take k ++ [f k]:=by
 rw [List.take_add_one]; simp [hk]
theorem z31 (l : List zi) (w h b2 b3 : Nat) (hw1 : 1 ≤ w) (hw : w ≤ 80) (hl : l.length = w * h) (hl2 : l.length ≤ 1920) : IterC Tryz.prog 156 [bx b2,bx b3] [qd b3 3 [I w],qd b2 22 [slA guT l]] (slA guT) ((List.range h).map (zdx w l)):=by
 refine zqm Tryz.func156 rfl (by decide) Tryz.ntmps156 rfl rfl fun T1 lo Y X hY => ?_
 refine zey ?_
 repeat' (first
 |refine ui (id:=4) ?_ | refine z7p ?_ | refine znr ?_ (hy:=by first | (apply kr rfl; exact oo_; exact v1_ (List.Mem.head _) rfl) | (apply kr rfl; exact oo_; exact v1_ (List.Mem.tail _ (List.Mem.head _)) rfl) | (apply vq rfl un_ el_; exact oo_; exact lo_; exact on_; exact on_; exact le_; exact le_; done) | fail) | refine zh1 ?_ | refine zav _ _ _ [qd b3 3 [I w],qd b2 22 [slA guT l]] rfl rfl rfl (zdr rfl) rfl rfl hA hY hf ?_ ?_ | refine qaw ?_ | (refine zb ?_ ?_ <;> intro hb <;> try exact no_) | (refine sx_ ?_ <;> intro bb) | (refine su_ ?_ <;> intro u hu1 hu2) | fail)
 refine zee (fun k : Nat=>[(0,yA lo),(1,bx b2),(2,bx b3),(4,I (k * w : Nat))]) (fun k=>[qd b3 3 [I w],qd b2 22 [slA guT l]] ++ Y (((List.range h).map (zdx w l)).take k)) (fun k=>k ≤ h) (fun k=>h - k) 0 (Nat.zero_le _) (by rw [Nat.zero_mul]; exact wk_) (List.Sublist.refl _) ?_
 rintro k h1
 obtain ⟨p,hp⟩ : ∃ p,p = k * w:=⟨_,rfl⟩
 have hp1 : (k + 1) * w = p + w:=by rw [Nat.add_mul,Nat.one_mul,hp]
 rw [← hp]
 simp only [List.cons_append,List.nil_append]
 by_cases hlt : k < h
 ·have hle : (k + 1) * w ≤ h * w:=Nat.mul_le_mul_right _ hlt
  rw [hp1,Nat.mul_comm h w,← hl] at hle
  have hf:=zh6 (zdx w l) hlt
  have hlen : ((l.drop p).take (l.length - p)).length = l.length - p:=by simp
  have hA : Sub (jc guT ((l.drop p).take (p + min w ((l.drop p).take (l.length - p)).length - p))) (slA guT (zdx w l k)):=by
   rw [hlen,show min w (l.length - p) = w by omega,Nat.add_sub_cancel_left,hp]; exact qw
  repeat' (first
  |refine ui (id:=4) ?_ | refine z7p ?_ | refine znr ?_ (hy:=by first | (apply kr rfl; exact oo_; exact v1_ (List.Mem.head _) rfl) | (apply kr rfl; exact oo_; exact v1_ (List.Mem.tail _ (List.Mem.head _)) rfl) | (apply vq rfl un_ el_; exact oo_; exact lo_; exact on_; exact on_; exact le_; exact le_; done) | fail) | refine zh1 ?_ | refine zav _ _ _ [qd b3 3 [I w],qd b2 22 [slA guT l]] rfl rfl rfl (zdr rfl) rfl rfl hA hY hf ?_ ?_ | refine z26 ?_ | (apply zm (by rfl) (by kernel_rfl) (by kernel_rfl)) | refine qaw ?_ | refine w_fzg ?_ | (refine zb ?_ ?_ <;> intro hb <;> try exact no_) | (refine sx_ ?_ <;> intro bb) | (refine su_ ?_ <;> intro u hu1 hu2) | fail)
  all_goals first | (exfalso; omega) | (exfalso; simp at hb; done) | skip
  ·exact ⟨k + 1,by omega,by omega,by rw [hp1]; exact wk_,by rw [zcj _ hlt]; exact List.Sublist.refl _⟩
  ·exact .inr ⟨_,_,List.take_append_drop (k + 1) _,by rw [zcj _ hlt]; exact List.Sublist.cons _ (List.Sublist.cons _ (List.Sublist.refl _))⟩
 ·have hke : k = h:=by omega
  have hpe : p = l.length:=by rw [hp,hke,hl,Nat.mul_comm]
  repeat' (first
  |refine ui (id:=4) ?_ | refine z7p ?_ | refine znr ?_ (hy:=by first | (apply kr rfl; exact oo_; exact v1_ (List.Mem.head _) rfl) | (apply kr rfl; exact oo_; exact v1_ (List.Mem.tail _ (List.Mem.head _)) rfl) | (apply vq rfl un_ el_; exact oo_; exact lo_; exact on_; exact on_; exact le_; exact le_; done) | fail) | refine zh1 ?_ | refine zav _ _ _ [qd b3 3 [I w],qd b2 22 [slA guT l]] rfl rfl rfl (zdr rfl) rfl rfl hA hY hf ?_ ?_ | refine qaw ?_ | (refine zb ?_ ?_ <;> intro hb <;> try exact no_) | (refine sx_ ?_ <;> intro bb) | (refine su_ ?_ <;> intro u hu1 hu2) | fail)
  all_goals first | exact e1_ | skip
  exact .inl (by rw [List.take_of_length_le (by simp; omega)]; exact List.Sublist.cons _ (List.Sublist.cons _ (List.Sublist.refl _)))
end Go.Proofs.YtgfmjmfphmjdkaaGreatDoor
namespace Go.Proofs.YtgfmjmfphmjdkaaGreatDoor
set_option maxHeartbeats 4000000
open Go Go.RowKit
theorem zcq {T0 : Gh} {fr : Fr} {M : List Own} {P : Program} {fn : Func} {s t e b : Nat} {A : AV} (h : fn.results = #[.cell s t]) (ha : ∀ w,(isAgg t).run P w = .ok false w) (hs : fr.get s = some (vA (.pointer (some ⟨b,0,none⟩)))) (hM : qd b e [A] ∈ M) : zjl P T0 fn fr M A:=fun w0 G F tmps w st hr=>by
 obtain ⟨cs,h3,h4⟩:=st.own _ (List.mem_append_left F hM)
 obtain ⟨u,rfl⟩ : ∃ u,cs = [u]:=List.length_eq_one_iff.1 h4.len
 have h5:=(kj hr hs).eq
 have h6:=zei ha h3
 refine ⟨u, ?_,h4.1⟩
 have h' : fn.results = [ResultVar.cell s t].toArray:=by rw [h]
 rw [zin,h',List.mapM_toArray]
 simp only [List.mapM_cons,List.mapM_nil,z4i,Sem.run_bind,map_eq_pure_bind,bind_assoc,Sem.run_pure,h5,asAddr,h6,Result.andThen_ok,pure_bind]
 simp
theorem z8c {id : Nat} {f : List Deferred → Fr → List Own → Prop} {Q : zeg} {D : List Deferred} {fr : Fr} {M : List Own} (h : f D fr M) : zg id (z37 f Q D) .normal fr M:=h
theorem qal {id : Nat} {f : List Deferred → Fr → List Own → Prop} {Q : zeg} {D : List Deferred} {fr : Fr} {M : List Own} (h : Q D .ret fr M) : zg id (z37 f Q D) .ret fr M:=h
variable {T0 : Gh} [TabS T0]
attribute [local irreducible] z_ zg AW AL AO QY qd zx rsA Opd xi vA gvA zt z0 slA jc ipA rpA EqK LnK IxK LdK FaK FdK
set_option maxRecDepth 100000
instance qfv : AggC 4 false:=⟨zn2⟩
instance qfn : AlC 4 (.bool false) [.bool false] [B false]:=⟨by kernel_rfl,rfl,rfl⟩
theorem z_5 {α : Type _} (r a b c d : α) : List.Perm [r,a,b,c,d] [a,b,c,r,d]:=(List.perm_middle (l₁:=[a,b,c]) (a:=r) (l₂:=[d])).symm
theorem zj6 {w h x y : Int} {l : List zi} {b s : Bool} (hn : ¬ (qu w h = true ∧ (l.length : Int) = w * h)) : vr w h l x y b s = false:=by
 unfold vr
 rw [show decide (OkL w h l) = false from decide_eq_false_iff_not.2 fun ⟨a,c,_⟩=>hn ⟨by simpa [qu,and_assoc] using a,c⟩]; rfl
theorem z52 (w h : Int) (l : List zi) (x y : Int) (b s : Bool) (hs : qu w h ≠ true) : AP Tryz.prog T0 63 [jb w h l x y b s] (B (vr w h l x y b s)):=by
 rw [zj6 (fun h=>hs h.1)]
 have c1 : AP Tryz.prog T0 114 [I w,I h] (zt [qp 0 0 [],I 4]):=(ztn w h).to (by simp only [zb_,hs,yi]; rfl)
 refine za Tryz.func63 rfl (by decide) Tryz.ntmps63 rfl ?_
 repeat' (first
 |refine zl5 ?_ | (refine zb ?_ ?_ <;> intro hb <;> try exact no_) | (refine sx_ ?_ <;> intro bb) | (refine su_ ?_ <;> intro u hu1 hu2) | fail)
 all_goals first | exact ⟨_,[],zcq rfl zfb rfl vh,List.nil_sublist _,Sub.refl _,rfl⟩ | skip
theorem z51 (w h : Nat) (l : List zi) (x y : Int) (b s : Bool) (h1 : 2 ≤ w) (h2 : w ≤ 80) (h3 : 1 ≤ h) (h4 : h ≤ 24) (hl : l.length ≠ w * h) : AP Tryz.prog T0 63 [jb w h l x y b s] (B (vr w h l x y b s)):=by
 have hb:=ks h2 h4
 have hnn : (0 : Int) ≤ ((w * h : Nat) : Int):=Int.natCast_nonneg _
 rw [zj6 (fun h=>hl (by have:=h.2; rw [← Int.natCast_mul] at this; omega))]
 have c1 : AP Tryz.prog T0 114 [I w,I h] (zt [qp w h (List.replicate (w * h) (32,0)),I 0]):=(ztn w h).to (by rw [zb_,if_pos (by simp [qu]; omega)]; rfl)
 generalize List.replicate (w * h) ((32,0) : zp) = g0 at *
 refine za Tryz.func63 rfl (by decide) Tryz.ntmps63 rfl ?_
 repeat' (first
 |refine zl5 ?_ | (refine zb ?_ ?_ <;> intro hb <;> try exact no_) | (refine sx_ ?_ <;> intro bb) | (refine su_ ?_ <;> intro u hu1 hu2) | fail)
 all_goals first | exact ⟨_,[],zcq rfl zfb rfl vh,List.nil_sublist _,Sub.refl _,rfl⟩ | skip
theorem z50 (w h : Nat) (l : List zi) (x y : Int) (b s : Bool) (h1 : 2 ≤ w) (h2 : w ≤ 80) (h3 : 1 ≤ h) (h4 : h ≤ 24) (hl : l.length = w * h) : AP Tryz.prog T0 63 [jb w h l x y b s] (B (vr w h l x y b s)):=by
 have hb:=ks h2 h4
 have hnn : (0 : Int) ≤ ((w * h : Nat) : Int):=Int.natCast_nonneg _
 have c1 : AP Tryz.prog T0 114 [I w,I h] (zt [qp w h (List.replicate (w * h) (32,0)),I 0]):=(ztn w h).to (by rw [zb_,if_pos (by simp [qu]; omega)]; rfl)
 generalize List.replicate (w * h) ((32,0) : zp) = g0 at *
 have hall : vr w h l x y b s = ((decide (∀ y,y < h → ze2 (zdx w l y) = true)) && z7d w h x y b s):=by
  unfold vr; congr 1
  rw [decide_eq_decide,z4l (by omega) hl]
  exact ⟨fun k=>by simpa using k.2.2,fun k=>⟨⟨by omega,by omega,by omega,by omega⟩,by rw [hl]; exact Int.natCast_mul w h,by simpa using k⟩⟩
 generalize vr w h l x y b s = ok at *
 have hx:=fun b2 b3=>z31 l w h b2 b3 (by omega) h2 hl (by omega)
 refine zm9 Tryz.func63 rfl (by decide) Tryz.ntmps63 rfl ?_
 refine zb9 ?_
 repeat' (first
 |(apply zj rfl rfl rfl rfl (c:=zhf l w (by omega))
   case ha=>exact os_
   rintro _ _ ⟨b2,b3,rfl,rfl⟩)
 |refine z8n ?_ | (refine zb ?_ ?_ <;> intro hb <;> try exact no_) | (refine sx_ ?_ <;> intro bb) | (refine su_ ?_ <;> intro u hu1 hu2) | fail)
 refine zb9 ?_
 repeat' (first
 |(apply zj rfl rfl rfl rfl (c:=zhf l w (by omega))
   case ha=>exact os_
   rintro _ _ ⟨b2,b3,rfl,rfl⟩)
 |refine z8n ?_ | (refine zb ?_ ?_ <;> intro hb <;> try exact no_) | (refine sx_ ?_ <;> intro bb) | (refine su_ ?_ <;> intro u hu1 hu2) | fail)
 all_goals first | (exfalso; omega) | (exfalso; simp at hb; omega) | skip
 refine zrv ?_
 refine zb9 ?_
 repeat' (first
 |(apply zj rfl rfl rfl rfl (c:=zhf l w (by omega))
   case ha=>exact os_
   rintro _ _ ⟨b2,b3,rfl,rfl⟩)
 |refine z8n ?_ | (refine zb ?_ ?_ <;> intro hb <;> try exact no_) | (refine sx_ ?_ <;> intro bb) | (refine su_ ?_ <;> intro u hu1 hu2) | fail)
 refine zm4 ?_
 rename_i a1 a2 a3 
 refine zm3 (fun pre => ∀ r ∈ pre,ze2 r = true) (fun pre => ∃ r ∈ pre,ze2 r = false) (fun _=>[qd a3 4 [B false]]) (fun _=>[qd a3 4 [B false]]) [_,_] [_,_] (fun _ hr=>by cases hr) (z_5 _ _ _ _ _) rfl (hx _ _) rfl ?_ ?_ ?_
 ·intro lo pre r t hpr hpre
  have hr : r.length ≤ 100000:=by
   have : r ∈ (List.range h).map (zdx w l):=by rw [← hpr]; simp
   obtain ⟨yy,hy,rfl⟩:=List.mem_map.1 this
   rw [zcn hl (by simpa using hy)]; omega
  repeat' (first
  |(apply zj rfl rfl rfl rfl (c:=zhf l w (by omega))
    case ha=>exact os_
    rintro _ _ ⟨b2,b3,rfl,rfl⟩)
  |refine zpd ?_ | refine zhw ?_ | refine zb8 rfl (by (repeat' (first | refine zsk ?_ | refine zsl ?_)); first | exact uc | exact zit) ?_ | refine zb7 rfl (by kernel_rfl) rfl (by (repeat' (first | refine zsk ?_ | refine zsl ?_)); first | exact uc | exact zit) ?_ | refine zky ?_ | refine zpe ?_ | (refine zkz rfl ?_ ?_ <;> intro hb) | refine z8n ?_ | (refine zb ?_ ?_ <;> intro hb <;> try exact no_) | (refine sx_ ?_ <;> intro bb) | (refine su_ ?_ <;> intro u hu1 hu2) | fail)
  ·exact ⟨⟨r,by simp,by simpa using hb⟩,List.Sublist.refl _⟩
  ·refine ⟨fun r' hr' => ?_,List.Sublist.refl _⟩
   rcases List.mem_append.1 hr' with h | h
   ·exact hpre r' h
   ·rw [List.mem_singleton.1 h]; simpa using hb
 ·intro d hok
  have h0 : decide (∀ y,y < h → ze2 (zdx w l y) = true) = true:=decide_eq_true fun y hy=>hok _ (List.mem_map.2 ⟨y,by simpa using hy,rfl⟩)
  rw [h0,Bool.true_and] at hall
  refine z8c (z3t ?_)
  repeat' (first
  |(apply zj rfl rfl rfl rfl (c:=zhf l w (by omega))
    case ha=>exact os_
    rintro _ _ ⟨b2,b3,rfl,rfl⟩)
  |refine z8n ?_ | (refine zb ?_ ?_ <;> intro hb <;> try exact no_) | (refine sx_ ?_ <;> intro bb) | (refine su_ ?_ <;> intro u hu1 hu2) | fail)
  ·have hs : s = false:=by simpa using hb
   refine zcp (zcq rfl zfb rfl (List.Mem.head _)) (List.nil_sublist _) ⟨Sub.eq (congrArg B ?_),rfl⟩
   rw [hall,hs]; rfl
  ·have hs : s = true:=by simpa using hb
   refine zcp (zcq rfl zfb rfl (List.Mem.head _)) (List.nil_sublist _) ⟨Sub.eq (congrArg B ?_),rfl⟩
   rw [hall,hs,show (((w - 1 : Nat) : Int)) = (w : Int) - 1 by omega]; rfl
 ·intro d pre t hpr hbad
  obtain ⟨r,hr,hr2⟩:=hbad
  have h0 : decide (∀ y,y < h → ze2 (zdx w l y) = true) = false:=decide_eq_false fun k=>by
   have : r ∈ (List.range h).map (zdx w l):=by rw [← hpr]; exact List.mem_append_left _ hr
   obtain ⟨yy,hy,rfl⟩:=List.mem_map.1 this
   rw [k yy (by simpa using hy)] at hr2; cases hr2
  rw [h0,Bool.false_and] at hall
  refine qal ?_
  refine zcp (zcq rfl zfb rfl (List.Mem.head _)) (List.nil_sublist _) ⟨Sub.eq (congrArg B ?_),rfl⟩
  exact hall.symm
theorem wu (w h : Int) (l : List zi) (x y : Int) (b s : Bool) : AP Tryz.prog T0 63 [jb w h l x y b s] (B (vr w h l x y b s)):=by
 by_cases hs : qu w h = true
 ·obtain ⟨w,h,rfl,rfl,h1,h2,h3,h4⟩:=kx hs
  by_cases hl : l.length = w * h
  ·exact z50 w h l x y b s h1 h2 h3 h4 hl
  ·exact z51 w h l x y b s h1 h2 h3 h4 hl
 ·exact z52 w h l x y b s hs
end Go.Proofs.YtgfmjmfphmjdkaaGreatDoor
namespace Go.Proofs.YtgfmjmfphmjdkaaGreatDoor
set_option maxHeartbeats 4000000
open Go Go.RowKit
set_option maxRecDepth 100000
abbrev qr : zi:=((32,0),true)
abbrev wg : zi:=((0,0),false)
def wq (w : Nat) (l : List zi) (p : Nat) (cs : List zp) : List zi :=
 let l1:=if 0 < p % w ∧ (gAt l (p - 1)).1.2 = 1 then l.set (p - 1) qr else l
 let l2:=if 0 < (p + cs.length) % w ∧ (gAt l (p + cs.length)).1.2 = 2 then l1.set (p + cs.length) qr else l1
 ovr l2 p (cs.map fun c=>(c,true))
theorem zcy {w : Nat} {l : List zi} {p : Nat} {cs : List zp} (h : p + cs.length ≤ l.length) : (wq w l p cs).length = l.length:=by
 have e : ∀ (c : Prop) [Decidable c] (m : List zi) (j : Nat),(if c then m.set j qr else m).length = m.length:=fun c _ m j=>by split <;> simp
 unfold wq
 simp only
 rw [qz (by rw [List.length_map,e,e]; exact h),e,e]
theorem zgw {w : Nat} {l : List zi} {p : Nat} {cs : List zp} (h : p + cs.length ≤ l.length) (h2 : 0 < (p + cs.length) % w → p + cs.length < l.length) (i : Nat) :
  gAt (wq w l p cs) i = if i < p then (if i + 1 = p ∧ 0 < p % w ∧ (gAt l i).1.2 = 1 then qr else gAt l i) else if i < p + cs.length then (cAt cs (i - p),true) else if i = p + cs.length ∧ 0 < (p + cs.length) % w ∧ (gAt l i).1.2 = 2 then qr else gAt l i:=by
 have hp : 0 < p % w → 1 ≤ p:=fun k=>by
  rcases Nat.eq_zero_or_pos p with h | h
  ·subst h; simp at k
  ·exact h
 have e1 : ∀ j,gAt (if 0 < p % w ∧ (gAt l (p - 1)).1.2 = 1 then l.set (p - 1) qr else l) j = if j + 1 = p ∧ 0 < p % w ∧ (gAt l j).1.2 = 1 then qr else gAt l j:=fun j=>by
  by_cases k : 0 < p % w ∧ (gAt l (p - 1)).1.2 = 1
  ·have:=hp k.1
   rw [if_pos k,zg0 _ _ _ _ (by omega)]
   by_cases hj : j = p - 1
   ·rw [if_pos hj,if_pos ⟨by omega,k.1,by rw [hj]; exact k.2⟩]
   ·rw [if_neg hj,if_neg (by omega)]
  ·rw [if_neg k]
   by_cases hj : j + 1 = p ∧ 0 < p % w ∧ (gAt l j).1.2 = 1
   ·exact absurd ⟨hj.2.1,by rw [show p - 1 = j by omega]; exact hj.2.2⟩ k
   ·rw [if_neg hj]
 have len1 : (if 0 < p % w ∧ (gAt l (p - 1)).1.2 = 1 then l.set (p - 1) qr else l).length = l.length:=by split <;> simp
 unfold wq
 simp only
 generalize (if 0 < p % w ∧ (gAt l (p - 1)).1.2 = 1 then l.set (p - 1) qr else l) = l1 at *
 have e2 : ∀ j,gAt (if 0 < (p + cs.length) % w ∧ (gAt l (p + cs.length)).1.2 = 2 then l1.set (p + cs.length) qr else l1) j = if j = p + cs.length ∧ 0 < (p + cs.length) % w ∧ (gAt l j).1.2 = 2 then qr else gAt l1 j:=fun j=>by
  by_cases k : 0 < (p + cs.length) % w ∧ (gAt l (p + cs.length)).1.2 = 2
  ·have:=h2 k.1
   rw [if_pos k,zg0 _ _ _ _ (by omega)]
   by_cases hj : j = p + cs.length
   ·rw [if_pos hj,if_pos ⟨hj,k.1,by rw [hj]; exact k.2⟩]
   ·rw [if_neg hj,if_neg (fun x=>hj x.1)]
  ·rw [if_neg k,if_neg]
   rintro ⟨a,b,c⟩; exact k ⟨b,by rw [← a]; exact c⟩
 have len2 : (if 0 < (p + cs.length) % w ∧ (gAt l (p + cs.length)).1.2 = 2 then l1.set (p + cs.length) qr else l1).length = l.length:=by split <;> simp [len1]
 rw [zob (by rw [len2,List.length_map]; exact h),e2,e1,List.length_map]
 by_cases q1 : i < p
 ·rw [if_pos q1,if_pos q1,if_neg (by omega)]
 ·rw [if_neg q1,if_neg q1]
  by_cases q2 : i < p + cs.length
  ·rw [if_pos q2,if_pos q2,zoc (by omega)]
  ·rw [if_neg q2,if_neg q2]
   by_cases q3 : i = p + cs.length ∧ 0 < (p + cs.length) % w ∧ (gAt l i).1.2 = 2
   ·rw [if_pos q3,if_pos q3]
   ·rw [if_neg q3,if_neg q3,if_neg (by omega)]
def GOk (w : Nat) (l : List zi) : Prop := ∀ i,i < l.length → znc w l i = true
theorem zc1 {w : Nat} {l : List zi} {i : Nat} : znc w l i = true ↔ ((gAt l i).2 = false → gAt l i = wg) ∧ ((gAt l i).2 = true → xo (gAt l i).1 = true ∧ ((gAt l i).1.2 = 1 → i % w < w - 1 ∧ ((gAt l (i + 1)).2 = true → gAt l (i + 1) = (((gAt l i).1.1,2),true))) ∧ ((gAt l i).1.2 = 2 → 0 < i % w ∧ ((gAt l (i - 1)).2 = true → gAt l (i - 1) = (((gAt l i).1.1,1),true)))):=by
 unfold znc
 cases h : (gAt l i).2 with
 |false=>simp
 |true =>
  simp only [Bool.true_eq_false,if_false,Bool.and_eq_true,forall_const,false_implies,true_and,and_congr_right_iff]
  intro hc
  by_cases h1 : (gAt l i).1.2 = 1
  ·rw [if_pos h1]
   cases h3 : (gAt l (i + 1)).2 <;> simp [h1]
  ·rw [if_neg h1]
   by_cases h2 : (gAt l i).1.2 = 2
   ·rw [if_pos h2]
    cases h3 : (gAt l (i - 1)).2 <;> simp [h2]
   ·simp [h1,h2]
theorem GOk.zero {w : Nat} {l : List zi} (h : GOk w l) {i : Nat} (hi : (gAt l i).2 = false) : gAt l i = wg:=by
 by_cases hl : i < l.length
 ·exact (zc1.1 (h i hl)).1 hi
 ·exact zwe (by omega)
theorem GOk.half {w : Nat} {l : List zi} (h : GOk w l) {i : Nat} (hi : (gAt l i).1.2 ≠ 0) : (gAt l i).2 = true:=by
 cases e : (gAt l i).2 with
 |true=>rfl
 |false=>rw [h.zero e] at hi; exact absurd rfl hi
theorem GOk.left {w : Nat} {l : List zi} (h : GOk w l) {i : Nat} (hi : (gAt l i).1.2 = 1) : i % w < w - 1 ∧ ((gAt l (i + 1)).2 = true → gAt l (i + 1) = (((gAt l i).1.1,2),true)):=by
 by_cases hl : i < l.length
 ·exact ((zc1.1 (h i hl)).2 (h.half (by rw [hi]; decide))).2.1 hi
 ·rw [zwe (by omega)] at hi; simp at hi
theorem GOk.right {w : Nat} {l : List zi} (h : GOk w l) {i : Nat} (hi : (gAt l i).1.2 = 2) : 0 < i % w ∧ ((gAt l (i - 1)).2 = true → gAt l (i - 1) = (((gAt l i).1.1,1),true)):=by
 by_cases hl : i < l.length
 ·exact ((zc1.1 (h i hl)).2 (h.half (by rw [hi]; decide))).2.2 hi
 ·rw [zwe (by omega)] at hi; simp at hi
theorem GOk.cell {w : Nat} {l : List zi} (h : GOk w l) {i : Nat} (hi : (gAt l i).2 = true) : xo (gAt l i).1 = true:=by
 by_cases hl : i < l.length
 ·exact ((zc1.1 (h i hl)).2 hi).1
 ·rw [zwe (by omega)] at hi; simp at hi
theorem zl3 {w : Nat} {l : List zi} (h : ∀ i,i < l.length → ((gAt l i).2 = false → gAt l i = wg) ∧ ((gAt l i).2 = true → xo (gAt l i).1 = true) ∧ ((gAt l i).1.2 = 1 → i % w < w - 1 ∧ ((gAt l (i + 1)).2 = true → gAt l (i + 1) = (((gAt l i).1.1,2),true))) ∧ ((gAt l i).1.2 = 2 → 0 < i % w ∧ ((gAt l (i - 1)).2 = true → gAt l (i - 1) = (((gAt l i).1.1,1),true)))) : GOk w l:=fun i hi =>
 zc1.2 ⟨(h i hi).1,fun k=>⟨(h i hi).2.1 k,(h i hi).2.2.1,(h i hi).2.2.2⟩⟩
theorem zqj {w i : Nat} (hw : 1 ≤ w) (h : (i + 1) % w = 0) : i % w = w - 1:=by
 have h1:=Nat.mod_lt i (show 0 < w by omega)
 have h2:=Nat.add_mod i 1 w
 rw [h] at h2
 by_cases e : i % w + 1 < w
 ·have h3 : (i % w + 1 % w) % w = i % w + 1:=by
   rcases Nat.lt_or_ge 1 w with k | k
   ·rw [Nat.mod_eq_of_lt k,Nat.mod_eq_of_lt e]
   ·exfalso; omega
  omega
 ·omega
theorem zn5 {w h : Nat} {l : List zi} {p : Nat} {cs : List zp} (hw : 2 ≤ w) (hl : l.length = w * h) (hk : GOk w l) (hp : p + cs.length ≤ l.length) (hc : ∀ j,j < cs.length → xo (cAt cs j) = true) (hW : zh2 w p cs) : GOk w (wq w l p cs):=by
 have h2 : 0 < (p + cs.length) % w → p + cs.length < l.length:=fun k=>by
  rcases Nat.lt_or_ge (p + cs.length) l.length with e | e
  ·exact e
  ·rw [show p + cs.length = w * h by omega,Nat.mul_mod_right] at k; omega
 have at_:=zgw (w:=w) hp h2
 generalize hL : wq w l p cs = L at *
 have hLl : L.length = l.length:=by rw [← hL]; exact zcy hp
 have blk : ∀ i,gAt L i = qr → ((gAt L i).2 = false → gAt L i = wg) ∧ ((gAt L i).2 = true → xo (gAt L i).1 = true) ∧ ((gAt L i).1.2 = 1 → i % w < w - 1 ∧ ((gAt L (i + 1)).2 = true → gAt L (i + 1) = (((gAt L i).1.1,2),true))) ∧ ((gAt L i).1.2 = 2 → 0 < i % w ∧ ((gAt L (i - 1)).2 = true → gAt L (i - 1) = (((gAt L i).1.1,1),true))):=fun i e=>by
  rw [e]; exact ⟨fun h=>(by simp at h),fun _=>kb,fun h=>(by simp at h),fun h=>(by simp at h)⟩
 refine zl3 fun i hi => ?_
 rw [hLl] at hi
 by_cases q1 : i < p
 ·by_cases q : i + 1 = p ∧ 0 < p % w ∧ (gAt l i).1.2 = 1
  ·exact blk i (by rw [at_,if_pos q1,if_pos q])
  ·have e : gAt L i = gAt l i:=by rw [at_,if_pos q1,if_neg q]
   rw [e]
   refine ⟨fun h=>hk.zero h,fun h=>hk.cell h,fun h => ?_,fun h => ?_⟩
   ·obtain ⟨a1,a2⟩:=hk.left h
    refine ⟨a1, ?_⟩
    rw [at_]
    have hne : i + 1 ≠ p:=fun hne=>by
     refine q ⟨hne, ?_,h⟩
     rcases Nat.eq_zero_or_pos (p % w) with z | z
     ·have:=zqj (w:=w) (i:=i) (by omega) (by rw [hne]; exact z); omega
     ·exact z
    rw [if_pos (show i + 1 < p by omega),if_neg]
    ·exact a2
    ·rintro ⟨_,_,b3⟩
     have:=a2 (hk.half (by rw [b3]; decide)); rw [this] at b3; simp at b3
   ·obtain ⟨a1,a2⟩:=hk.right h
    refine ⟨a1, ?_⟩
    have h1i : 1 ≤ i:=by
     rcases Nat.eq_zero_or_pos i with z | z
     ·subst z; simp at a1
     ·exact z
    rw [at_,if_pos (show i - 1 < p by omega),if_neg (fun k=>by have:=k.1; omega)]
    exact a2
 ·by_cases q2 : i < p + cs.length
  ·have e : gAt L i = (cAt cs (i - p),true):=by rw [at_,if_neg q1,if_pos q2]
   have hW':=hW (i - p) (by omega)
   rw [e]
   refine ⟨fun h=>(by simp at h),fun _=>hc _ (by omega),fun h => ?_,fun h => ?_⟩
   ·obtain ⟨b1,b2,b3⟩:=hW'.1 h
    rw [show p + (i - p) = i by omega] at b3
    have:=Nat.mod_lt i (show 0 < w by omega)
    refine ⟨by omega,fun _ => ?_⟩
    rw [at_,if_neg (by omega),if_pos (by omega),show i + 1 - p = i - p + 1 by omega,b2]
   ·obtain ⟨b1,b2,b3⟩:=hW'.2 h
    rw [show p + (i - p) = i by omega] at b3
    refine ⟨by omega,fun _ => ?_⟩
    rw [at_,if_neg (by omega),if_pos (by omega),show i - 1 - p = i - p - 1 by omega,b2]
  ·by_cases q : i = p + cs.length ∧ 0 < (p + cs.length) % w ∧ (gAt l i).1.2 = 2
   ·exact blk i (by rw [at_,if_neg q1,if_neg q2,if_pos q])
   ·have e : gAt L i = gAt l i:=by rw [at_,if_neg q1,if_neg q2,if_neg q]
    rw [e]
    refine ⟨fun h=>hk.zero h,fun h=>hk.cell h,fun h => ?_,fun h => ?_⟩
    ·obtain ⟨a1,a2⟩:=hk.left h
     refine ⟨a1, ?_⟩
     rw [at_,if_neg (by omega),if_neg (by omega),if_neg (by omega)]
     exact a2
    ·obtain ⟨a1,a2⟩:=hk.right h
     refine ⟨a1, ?_⟩
     have hne : i ≠ p + cs.length:=fun hne=>q ⟨hne,by rw [← hne]; exact a1,h⟩
     rw [at_,if_neg (by omega),if_neg (by omega),if_neg]
     ·exact a2
     ·rintro ⟨_,_,b3⟩
      have:=a2 (hk.half (by rw [b3]; decide)); rw [this] at b3; simp at b3
def upB (w : Nat) (l : List zi) : List zi:=l.drop w ++ List.replicate w qr
theorem zge {w : Nat} {l : List zi} (h : w ≤ l.length) : (upB w l).length = l.length:=by simp [upB]; omega
theorem zpr {w : Nat} {l : List zi} (h : w ≤ l.length) {i : Nat} (hi : i < l.length) : gAt (upB w l) i = if i + w < l.length then gAt l (i + w) else qr:=by
 unfold upB
 rw [z5f,List.length_drop]
 by_cases e : i + w < l.length
 ·rw [if_pos (by omega),if_pos e,zqs,Nat.add_comm]
 ·rw [if_neg (by omega),if_neg e,zoa (by omega)]
theorem zun {w h : Nat} {l : List zi} (hw : 2 ≤ w) (hh : 1 ≤ h) (hl : l.length = w * h) (hk : GOk w l) : GOk w (upB w l):=by
 have hwl : w ≤ l.length:=by rw [hl]; exact Nat.le_mul_of_pos_right w hh
 obtain ⟨k,rfl⟩ : ∃ k,h = k + 1:=⟨h - 1,by omega⟩
 rw [Nat.mul_add,Nat.mul_one] at hl
 refine zl3 fun i hi => ?_
 rw [zge hwl] at hi
 rw [zpr hwl hi]
 by_cases e : i + w < l.length
 ·rw [if_pos e]
  refine ⟨fun h=>hk.zero h,fun h=>hk.cell h,fun h => ?_,fun h => ?_⟩
  ·obtain ⟨a1,a2⟩:=hk.left h
   rw [Nat.add_mod_right] at a1
   have : i + 1 + w < l.length:=by
    rcases Nat.lt_or_ge (i + 1 + w) l.length with z | z
    ·exact z
    ·have:=zqj (w:=w) (i:=i) (by omega) (by rw [show i + 1 = w * k by omega,Nat.mul_mod_right]); omega
   refine ⟨a1, ?_⟩
   rw [zpr hwl (by omega),if_pos this,show i + 1 + w = i + w + 1 by omega]; exact a2
  ·obtain ⟨a1,a2⟩:=hk.right h
   rw [Nat.add_mod_right] at a1
   have h1 : 1 ≤ i:=by
    rcases Nat.eq_zero_or_pos i with z | z
    ·subst z; simp at a1
    ·exact z
   refine ⟨a1, ?_⟩
   rw [zpr hwl (by omega),if_pos (by omega),show i - 1 + w = i + w - 1 by omega]; exact a2
 ·rw [if_neg e]
  exact ⟨fun h=>(by simp at h),fun _=>kb,fun h=>(by simp at h),fun h=>(by simp at h)⟩
def zd7 (l : List zi) (a b : Nat) : List zi:=ovr l a (List.replicate (b - a) wg)
theorem zke {l : List zi} {a b : Nat} (h1 : a ≤ b) (h2 : b ≤ l.length) : (zd7 l a b).length = l.length:=qz (by simp; omega)
theorem zwo {l : List zi} {a b : Nat} (h1 : a ≤ b) (h2 : b ≤ l.length) (i : Nat) : gAt (zd7 l a b) i = if a ≤ i ∧ i < b then wg else gAt l i:=by
 unfold zd7
 rw [zob (by simp; omega),List.length_replicate]
 by_cases q1 : i < a
 ·rw [if_pos q1,if_neg (by omega)]
 ·rw [if_neg q1]
  by_cases q2 : i < a + (b - a)
  ·rw [if_pos q2,zoa (by omega),if_pos ⟨by omega,by omega⟩]
  ·rw [if_neg q2,if_neg (by omega)]
theorem z5n {w : Nat} {l : List zi} {a b : Nat} (h1 : a ≤ b) (h2 : b ≤ l.length) (hk : GOk w l) : GOk w (zd7 l a b):=by
 have at_:=zwo h1 h2
 refine zl3 fun i hi => ?_
 rw [at_ i]
 by_cases q : a ≤ i ∧ i < b
 ·rw [if_pos q]; exact ⟨fun _=>rfl,fun h=>(by simp at h),fun h=>(by simp at h),fun h=>(by simp at h)⟩
 ·rw [if_neg q]
  refine ⟨fun h=>hk.zero h,fun h=>hk.cell h,fun h=>⟨(hk.left h).1, ?_⟩,fun h=>⟨(hk.right h).1, ?_⟩⟩
  ·rw [at_ (i + 1)]
   split
   ·intro k; simp at k
   ·exact (hk.left h).2
  ·rw [at_ (i - 1)]
   split
   ·intro k; simp at k
   ·exact (hk.right h).2
theorem z2p (w n : Nat) : GOk w (List.replicate n wg):=by
 have at_ : ∀ i,gAt (List.replicate n wg) i = wg:=fun i=>by
  by_cases h : i < n
  ·exact zoa h
  ·exact zwe (by simp; omega)
 refine zl3 fun i hi => ?_
 rw [at_]; exact ⟨fun _=>rfl,fun h=>(by simp at h),fun h=>(by simp at h),fun h=>(by simp at h)⟩
end Go.Proofs.YtgfmjmfphmjdkaaGreatDoor
namespace Go.Proofs.YtgfmjmfphmjdkaaGreatDoor
set_option maxHeartbeats 4000000
open Go Go.RowKit
set_option maxRecDepth 100000
def noB : Bel:=(0,0,[],0,0,false,false)
def yg (w h : Int) : Bel × Int:=if qu w h then ((w,h,List.replicate (w.toNat * h.toNat) wg,0,0,false,false),0) else (noB,4)
noncomputable abbrev yv (b : Bel) : Bool:=vr b.1 b.2.1 b.2.2.1 b.2.2.2.1 b.2.2.2.2.1 b.2.2.2.2.2.1 b.2.2.2.2.2.2
def chg (k : Int) : Bool:=decide (k = 1) || decide (k = 7) || decide (k = 8) || decide (k = 10)
noncomputable def yh (w h x y : Int) (b : Bool) (c : Cmd) : Int × Int × Bool:=(doK w h [] x y b c).2.2.2
theorem zka {α : Type} {R : α → α → Prop} {p : Prop} [Decidable p] {a b a' b' : α} (h1 : R a a') (h2 : R b b') : R (if p then a else b) (if p then a' else b'):=by
 split
 ·exact h1
 ·exact h2
theorem zxv (w h : Int) (l l' : List zp) (y : Int) : (kg w h l y).2 = (kg w h l' y).2:=by
 unfold kg; split <;> rfl
theorem zo7 (w h : Int) (l l' : List zp) (x y : Int) (b : Bool) (c : Cmd) : (fun t t' : Tm=>t.1 = w ∧ t.2.1 = h ∧ t.2.2.2 = t'.2.2.2) (doK w h l x y b c) (doK w h l' x y b c):=by
 unfold doK
 refine zka (R:=fun t t' : Tm=>t.1 = w ∧ t.2.1 = h ∧ t.2.2.2 = t'.2.2.2) ?_ ?_
 ·unfold v9
  refine zka (R:=fun t t' : Tm=>t.1 = w ∧ t.2.1 = h ∧ t.2.2.2 = t'.2.2.2) ?_ ⟨rfl,rfl,rfl⟩
  rw [zxv w h l l' y]; exact ⟨rfl,rfl,rfl⟩
 ·refine zka (R:=fun t t' : Tm=>t.1 = w ∧ t.2.1 = h ∧ t.2.2.2 = t'.2.2.2) ⟨rfl,rfl,rfl⟩ ?_
  repeat' (refine zka (R:=fun t t' : Tm=>t.1 = w ∧ t.2.1 = h ∧ t.2.2.2 = t'.2.2.2) ?_ ?_)
  all_goals first | exact ⟨rfl,rfl,rfl⟩ | skip
  rw [zxv w h l l' y]; exact ⟨rfl,rfl,rfl⟩
theorem zxy (w h : Int) (l : List zp) (x y : Int) (b : Bool) (c : Cmd) : (doK w h l x y b c).2.2.2 = yh w h x y b c:=(zo7 w h l [] x y b c).2.2
theorem zmk (w h : Int) (l : List zp) (x y : Int) (b : Bool) (c : Cmd) : (doK w h l x y b c).1 = w ∧ (doK w h l x y b c).2.1 = h:=⟨(zo7 w h l [] x y b c).1,(zo7 w h l [] x y b c).2.1⟩
def zgf (w h : Nat) (l : List zi) (x y : Nat) (b : Bool) (cs : List zp) : List zi :=
 if b = true ∨ w < x + cs.length then (if y + 1 < h then wq w l ((y + 1) * w) cs else wq w (upB w l) (y * w) cs) else wq w l (y * w + x) cs
def kp (w h : Nat) (l : List zi) (x y : Nat) (b : Bool) (c : Cmd) : List zi :=
 if c.1 = 1 then zgf w h l x y b (zh c.2.2.2)
 else if c.1 = 7 then wq w l (y * w + x) (List.replicate (w - x) (32,0))
 else if c.1 = 8 then wq w l (y * w + x) (List.replicate (l.length - (y * w + x)) (32,0))
 else if c.1 = 10 then (if y + 1 < h then l else upB w l)
 else l
noncomputable def znf (w h : Int) (l : List zi) (x y : Int) (b : Bool) (c : Cmd) : Bel :=
 (w,h,kp w.toNat h.toNat l x.toNat y.toNat b c,(yh w h x y b c).1,(yh w h x y b c).2.1,(yh w h x y b c).2.2,true)
noncomputable def doB (b : Bel) (c : Cmd) : Bel × Int :=
 if yv b = true ∧ z9 c = true then
  if b.2.2.2.2.2.2 = false ∧ chg c.1 = true then yg b.1 b.2.1
  else if (b.2.2.2.2.2.2 = false ∧ c.1 ≠ 2) ∨ c.1 = 12 then (b,0)
  else (znf b.1 b.2.1 b.2.2.1 b.2.2.2.1 b.2.2.2.2.1 b.2.2.2.2.2.1 c,0)
 else (noB,1)
theorem qn {w h : Int} {l : List zi} {x y : Int} {b s : Bool} : vr w h l x y b s = true ↔ ∃ w' h' : Nat,w = w' ∧ h = h' ∧ 2 ≤ w' ∧ w' ≤ 80 ∧ 1 ≤ h' ∧ h' ≤ 24 ∧ l.length = w' * h' ∧ GOk w' l ∧ (s = true → 0 ≤ x ∧ x < w' ∧ 0 ≤ y ∧ y < h' ∧ (b = true → x = w' - 1)) ∧ (s = false → x = 0 ∧ y = 0 ∧ b = false):=by
 have hcur : ∀ w' h' : Nat,z7d w' h' x y b s = true ↔ (s = true → 0 ≤ x ∧ x < w' ∧ 0 ≤ y ∧ y < h' ∧ (b = true → x = w' - 1)) ∧ (s = false → x = 0 ∧ y = 0 ∧ b = false):=fun w' h'=>by
  unfold z7d
  cases s <;> cases b <;> simp [and_assoc]
 unfold vr
 rw [Bool.and_eq_true,decide_eq_true_eq]
 constructor
 ·rintro ⟨h1,h2⟩
  obtain ⟨w',h',rfl,rfl,a,b',c,d,e,f,g⟩:=z40 h1
  exact ⟨w',h',rfl,rfl,a,b',c,d,e,g,(hcur w' h').1 h2⟩
 ·rintro ⟨w',h',rfl,rfl,a,b',c,d,e,g,k⟩
  exact ⟨⟨⟨by omega,by omega,by omega,by omega⟩,by rw [e]; exact Int.natCast_mul w' h',by simpa [GOk] using g⟩,(hcur w' h').2 k⟩
theorem vb {w h : Nat} (hw : w ≤ 80) (hh : h ≤ 24) : w * h ≤ 1920:=Nat.mul_le_mul hw hh
theorem z48 {w h : Int} (hs : qu w h = true) : yv (yg w h).1 = true:=by
 obtain ⟨w,h,rfl,rfl,h1,h2,h3,h4⟩:=kx hs
 rw [yg,if_pos hs]
 exact qn.2 ⟨w,h,rfl,rfl,h1,h2,h3,h4,by simp,z2p _ _,fun h=>(by cases h),fun _=>⟨rfl,rfl,rfl⟩⟩
theorem zgj {w h x y n : Nat} (hy : y < h) (hx : x + n ≤ w) : y * w + x + n ≤ w * h:=by
 have h1 : (y + 1) * w ≤ h * w:=Nat.mul_le_mul_right w hy
 rw [Nat.add_mul,Nat.one_mul,Nat.mul_comm h w] at h1
 omega
theorem zpq {w h : Nat} {l : List zi} (hh : 1 ≤ h) (hl : l.length = w * h) : (upB w l).length = w * h:=by
 rw [zge (by rw [hl]; exact Nat.le_mul_of_pos_right w hh),hl]
theorem zzn {w h : Nat} {l : List zi} {x y : Nat} {b : Bool} {r : Int} (hw : 2 ≤ w) (hl : l.length = w * h) (hk : GOk w l) (hx : x < w) (hy : y < h) (hs : xq r = true) : (zgf w h l x y b (zh r)).length = w * h ∧ GOk w (zgf w h l x y b (zh r)):=by
 have hn:=j6 hs
 have hc:=zem hs
 have go : ∀ (m : List zi) (X Y : Nat),m.length = w * h → GOk w m → Y < h → X + (zh r).length ≤ w → (wq w m (Y * w + X) (zh r)).length = w * h ∧ GOk w (wq w m (Y * w + X) (zh r)):=fun m X Y h1 h2 h3 h4=>by
  have:=zgj h3 h4
  exact ⟨by rw [zcy (by omega),h1],zn5 hw h1 h2 (by omega) hc (zb4 w Y X r hs h4)⟩
 unfold zgf
 split
 ·split
  ·exact go l 0 (y + 1) hl hk (by omega) (by omega)
  ·exact go (upB w l) 0 y (zpq (by omega) hl) (zun hw (by omega) hl hk) hy (by omega)
 ·exact go l x y hl hk hy (by omega)
theorem z0q {w h : Nat} {l : List zi} {x y : Nat} {b : Bool} {c : Cmd} (hw : 2 ≤ w) (hl : l.length = w * h) (hk : GOk w l) (hx : x < w) (hy : y < h) (hc : z9 c = true) : (kp w h l x y b c).length = w * h ∧ GOk w (kp w h l x y b c):=by
 have ha:=zgj (n:=w - x) hy (show x + (w - x) ≤ w by omega)
 rcases wx hc with ⟨r,rfl,hs⟩ | ⟨a,d,rfl,_⟩ | ⟨k,a,rfl,hk',_⟩ | ⟨k,rfl,hk'⟩
 ·exact zzn hw hl hk hx hy hs
 ·exact ⟨hl,hk⟩
 ·rcases hk' with rfl | rfl | rfl | rfl <;> exact ⟨hl,hk⟩
 ·rcases hk' with rfl | rfl | rfl | rfl | rfl | rfl
  ·show (wq w l (y * w + x) (List.replicate (w - x) (32,0))).length = w * h ∧ GOk w (wq w l (y * w + x) (List.replicate (w - x) (32,0)))
   exact ⟨by rw [zcy (by simp; omega),hl],zn5 hw hl hk (by simp; omega) (zd5 _) (zcf _ _ _)⟩
  ·show (wq w l (y * w + x) (List.replicate (l.length - (y * w + x)) (32,0))).length = w * h ∧ GOk w (wq w l (y * w + x) (List.replicate (l.length - (y * w + x)) (32,0)))
   exact ⟨by rw [zcy (by simp; omega),hl],zn5 hw hl hk (by simp; omega) (zd5 _) (zcf _ _ _)⟩
  ·exact ⟨hl,hk⟩
  ·show (if y + 1 < h then l else upB w l).length = w * h ∧ GOk w (if y + 1 < h then l else upB w l)
   split
   ·exact ⟨hl,hk⟩
   ·exact ⟨zpq (by omega) hl,zun hw (by omega) hl hk⟩
  ·exact ⟨hl,hk⟩
  ·exact ⟨hl,hk⟩
theorem z6c {w h x y : Int} {b : Bool} {c : Cmd} (hw : 2 ≤ w ∧ w ≤ 80 ∧ 1 ≤ h ∧ h ≤ 24) (hx : 0 ≤ x ∧ x < w) (hy : 0 ≤ y ∧ y < h) (hb : b = true → x = w - 1) (hc : z9 c = true) : (0 ≤ (yh w h x y b c).1 ∧ (yh w h x y b c).1 < w ∧ 0 ≤ (yh w h x y b c).2.1 ∧ (yh w h x y b c).2.1 < h) ∧ ((yh w h x y b c).2.2 = true → (yh w h x y b c).1 = w - 1):=by
 obtain ⟨w',rfl⟩:=Int.eq_ofNat_of_zero_le (show 0 ≤ w by omega)
 obtain ⟨h',rfl⟩:=Int.eq_ofNat_of_zero_le (show 0 ≤ h by omega)
 have hn : okT w' h' (List.replicate (w' * h') (32,0)) x y b = true:=xe.2 ⟨z47 (by omega) (by omega) (by omega) (by omega),⟨hx.1,hx.2,hy.1,hy.2⟩,hb⟩
 have h1:=z9d hn hc
 have h2:=zxy w' h' (List.replicate (w' * h') (32,0)) x y b c
 have h3:=zmk w' h' (List.replicate (w' * h') (32,0)) x y b c
 obtain ⟨_,k2,k3⟩:=xe.1 h1
 rw [h3.1,h3.2,h2] at k2
 rw [h3.1,h2] at k3
 exact ⟨k2,k3⟩
theorem z3g {b : Bel} {c : Cmd} (h : ¬ (yv b = true ∧ z9 c = true)) : doB b c = (noB,1):=if_neg h
theorem zxz {b : Bel} {c : Cmd} (h1 : yv b = true) (h2 : z9 c = true) : (doB b c).2 = 0:=by
 obtain ⟨w,h,l,x,y,bb,s⟩:=b
 rw [doB,if_pos ⟨h1,h2⟩]
 obtain ⟨w',h',rfl,rfl,a1,a2,a3,a4,_⟩:=qn.1 h1
 split
 ·show (yg w' h').2 = 0
  rw [yg,if_pos (by simp [qu]; omega)]
 ·split <;> rfl
theorem z5_ {w h : Int} {l : List zi} {x y : Int} {b s : Bool} {c : Cmd} (h1 : vr w h l x y b s = true) (hc : z9 c = true) : yv (znf w h l x y b c) = true:=by
 obtain ⟨w,h,rfl,rfl,w2,w3,w4,w5,hl,hk,p1,p2⟩:=qn.1 h1
 obtain ⟨hx,hy,hb⟩ : (0 ≤ x ∧ x < w) ∧ (0 ≤ y ∧ y < h) ∧ (b = true → x = w - 1):=by
  cases s with
  |true=>obtain ⟨a,b,c,d,e⟩:=p1 rfl; exact ⟨⟨a,b⟩,⟨c,d⟩,e⟩
  |false=>obtain ⟨rfl,rfl,rfl⟩:=p2 rfl; exact ⟨⟨by omega,by omega⟩,⟨by omega,by omega⟩,fun h=>by cases h⟩
 obtain ⟨k1,k2⟩:=z0q (b:=b) (x:=x.toNat) (y:=y.toNat) w2 hl hk (by omega) (by omega) hc
 obtain ⟨c1,c2⟩:=z6c (w:=w) (h:=h) (x:=x) (y:=y) (b:=b) ⟨by omega,by omega,by omega,by omega⟩ hx hy hb hc
 refine qn.2 ⟨w,h,rfl,rfl,w2,w3,w4,w5, ?_, ?_,fun _=>⟨c1.1,c1.2.1,c1.2.2.1,c1.2.2.2,c2⟩,fun h=>by cases h⟩
 ·show (kp (w : Int).toNat (h : Int).toNat l x.toNat y.toNat b c).length = w * h
  simpa using k1
 ·show GOk w (kp (w : Int).toNat (h : Int).toNat l x.toNat y.toNat b c)
  simpa using k2
theorem z3f {b : Bel} {c : Cmd} (h1 : yv b = true) (h2 : z9 c = true) : yv (doB b c).1 = true:=by
 obtain ⟨w,h,l,x,y,bb,s⟩:=b
 rw [doB,if_pos ⟨h1,h2⟩]
 split
 ·obtain ⟨w',h',rfl,rfl,a1,a2,a3,a4,_⟩:=qn.1 h1
  exact z48 (by simp [qu]; omega)
 ·split
  ·exact h1
  ·exact z5_ h1 h2
end Go.Proofs.YtgfmjmfphmjdkaaGreatDoor
namespace Go.Proofs.YtgfmjmfphmjdkaaGreatDoor
set_option maxHeartbeats 4000000
open Go Go.RowKit
set_option maxRecDepth 100000
def zq (w x : Int) (b : Bool) (c : Cmd) : Bool:=decide (c.1 = 10) || (decide (c.1 = 1) && (b || decide (w < x + (zh c.2.2.2).length)))
noncomputable def xv (b : Bel) (c : Cmd) : Int × Int :=
 if ¬ (yv b = true ∧ z9 c = true ∧ chg c.1 = true) then (0,0)
 else if b.2.2.2.2.2.2 = false ∨ (zq b.1 b.2.2.2.1 b.2.2.2.2.2.1 c = true ∧ b.2.2.2.2.1 = b.2.1 - 1) then (0,b.1 * b.2.1)
 else if c.1 = 10 then (0,0)
 else
  let y:=if zq b.1 b.2.2.2.1 b.2.2.2.2.2.1 c = true then b.2.2.2.2.1 + 1 else b.2.2.2.2.1
  let x:=if zq b.1 b.2.2.2.1 b.2.2.2.2.2.1 c = true then 0 else b.2.2.2.1
  (y * b.1 + max (x - 1) 0,if c.1 = 7 then (y + 1) * b.1 else if c.1 = 8 then b.1 * b.2.1 else y * b.1 + min b.1 (x + (zh c.2.2.2).length + 1))
noncomputable def qt (b : Bel) (f t : Int) (cur : Bool) : Bel :=
 if ¬ (yv b = true ∧ 0 ≤ f ∧ f ≤ t ∧ t ≤ b.2.2.1.length) then b
 else if cur then (b.1,b.2.1,zd7 b.2.2.1 f.toNat t.toNat,0,0,false,false)
 else (b.1,b.2.1,zd7 b.2.2.1 f.toNat t.toNat,b.2.2.2.1,b.2.2.2.2.1,b.2.2.2.2.2.1,b.2.2.2.2.2.2)
theorem zwk {b : Bel} {f t : Int} {cur : Bool} (h : yv b = true) : yv (qt b f t cur) = true:=by
 unfold qt
 by_cases q : yv b = true ∧ 0 ≤ f ∧ f ≤ t ∧ t ≤ b.2.2.1.length
 ·rw [if_neg (fun z=>z q)]
  obtain ⟨w,h',l,x,y,bb,s⟩:=b
  obtain ⟨_,q1,q2,q3⟩:=q
  obtain ⟨w,h',rfl,rfl,w2,w3,w4,w5,hl,hk,p1,p2⟩:=qn.1 h
  simp only at q3
  have f1 : (zd7 l f.toNat t.toNat).length = w * h':=by rw [zke (by omega) (by omega),hl]
  have f2 : GOk w (zd7 l f.toNat t.toNat):=z5n (by omega) (by omega) hk
  cases cur with
  |true=>exact qn.2 ⟨w,h',rfl,rfl,w2,w3,w4,w5,f1,f2,fun z=>(by cases z),fun _=>⟨rfl,rfl,rfl⟩⟩
  |false=>exact qn.2 ⟨w,h',rfl,rfl,w2,w3,w4,w5,f1,f2,p1,p2⟩
 ·rw [if_pos q]; exact h
def ofL (l : List zp) : List zi:=l.map fun c=>(c,true)
noncomputable def ofB (t : Tm) : Bel × Int:=if znb t = true then ((t.1,t.2.1,ofL t.2.2.1,t.2.2.2.1,t.2.2.2.2.1,t.2.2.2.2.2,true),0) else (noB,1)
theorem zek {l : List zp} {i : Nat} (h : i < l.length) : gAt (ofL l) i = (cAt l i,true):=zoc h
theorem zn0 (l : List zp) : (ofL l).length = l.length:=by simp [ofL]
theorem z_8 {t : Tm} (h : znb t = true) : yv (ofB t).1 = true:=by
 obtain ⟨w,h',l,x,y,b⟩:=t
 rw [ofB,if_pos h]
 obtain ⟨g1,⟨g2,g3,g4,g5⟩,g6⟩:=xe.1 h
 obtain ⟨w,h',rfl,rfl,w2,w3,w4,w5,hlen,hall⟩:=jd g1
 refine qn.2 ⟨w,h',rfl,rfl,w2,w3,w4,w5,by rw [zn0]; exact hlen,zl3 fun i hi => ?_,fun _=>⟨g2,g3,g4,g5,g6⟩,fun z=>(by cases z)⟩
 rw [zn0] at hi
 have hc:=hall i hi
 have hm:=Nat.mod_lt i (show 0 < w by omega)
 have hlo:=ql.1 hc.2
 rw [zek hi]
 refine ⟨fun z=>(by simp at z),fun _=>hc.1,fun z => ?_,fun z => ?_⟩
 ·obtain ⟨a1,a2⟩:=hlo.1 z
  refine ⟨by omega,fun _ => ?_⟩
  rw [zek (zj4 (h:=h') (by omega) w4 hlen hi hc.2 z),a2]
 ·obtain ⟨a1,a2⟩:=hlo.2 z
  refine ⟨by omega,fun _ => ?_⟩
  rw [zek (by omega),a2]
end Go.Proofs.YtgfmjmfphmjdkaaGreatDoor
