/- Layer 30 (pump): spans and pumps, as types. No condition. -/
import Derived.Test.YtgfmjmfphmjdkaaGreatDoorR3KP
import Derived.Test.YtgfmjmfphmjdkaaGreatDoorR3J0
set_option linter.unusedSimpArgs false
set_option linter.unusedVariables false
set_option linter.unusedSectionVars false
namespace Go.Proofs.YtgfmjmfphmjdkaaGreatDoor
set_option maxHeartbeats 4000000
open Go Go.RowKit
set_option maxRecDepth 100000
def spT : Ty (Int × Int):={ enc:=fun s=>[.int .i64 s.1,.int .i64 s.2],k:=2,len:=fun _=>rfl }
def spA (s : Int × Int) : AV:=qb [I s.1,I s.2]
theorem zx0 : Tryz.prog.underlying 117 = some (.struct #[{ name := "From",type:=3,offset:=0,embedded:=false,tag := "",pkgPath := "",byteOffset:=0 },{ name := "To",type:=3,offset:=1,embedded:=false,tag := "",pkgPath := "",byteOffset:=8 }]):=Tryz.underlying117
instance qdr : StC 117 [I 0,I 0] [(0,1),(1,1)]:=⟨StT.mk' _ [.int .i64 0,.int .i64 0] zx0 (by kernel_rfl) (by kernel_rfl)⟩
instance qb5 : FldC 117 0 0 3:=⟨_,_,zx0,rfl,rfl,rfl⟩
instance qb4 : FldC 117 1 1 3:=⟨_,_,zx0,rfl,rfl,rfl⟩
instance qdg : SzC 117 2:=⟨xg (by kernel_rfl)⟩
instance qen : AlC 117 (.agg #[.int .i64 0,.int .i64 0]) [.int .i64 0,.int .i64 0] [I 0,I 0]:=⟨by kernel_rfl,rfl,rfl⟩
theorem z78 : El Tryz.prog spT 117 (0,0) 16 spA:=⟨⟨.agg #[.int .i64 0,.int .i64 0],by kernel_rfl,rfl⟩,by decide,fun x v hv=>by simp [spT] at hv; rcases hv with rfl | rfl <;> rfl,.inl ⟨kf (by kernel_rfl),fun x=>rfl⟩⟩
instance qei : ElC 117 spT (0,0) 16 spA:=⟨z78⟩
theorem z1l : Tryz.prog.underlying 48 = some (.slice 117):=Tryz.underlying48
instance qbg : UnC 48 (.slice 117):=⟨z1l⟩
instance qco : AggC 48 false:=⟨yq (by kernel_rfl)⟩
instance qbo : SzC 48 1:=⟨xg (by kernel_rfl)⟩
instance qbs : SpC 48:=⟨jn (n:=0) (by kernel_rfl)⟩
theorem z7q : (Tryz.prog.fieldsOf 117).toList = [{ name := "From",type:=3,offset:=0,embedded:=false,tag := "",pkgPath := "",byteOffset:=0 },{ name := "To",type:=3,offset:=1,embedded:=false,tag := "",pkgPath := "",byteOffset:=8 }]:=by kernel_rfl
theorem ztc (d : Nat) (a b : Int × Int) (w : World) : (Op.equalIn (d + 2) 117 (.agg #[.int .i64 a.1,.int .i64 a.2]) (.agg #[.int .i64 b.1,.int .i64 b.2])).run Tryz.prog w = .ok (decide (a = b)) w:=by
 rw [run_equalIn_agg _ _ _ _ _ (by kernel_rfl) (by kernel_rfl),z7q]
 obtain ⟨a1,a2⟩:=a
 obtain ⟨b1,b2⟩:=b
 simp [Op.eqFields,part,zo6,zv2]
 by_cases h1 : a1 = b1 <;> by_cases h2 : a2 = b2 <;> simp [h1,h2]
theorem z77 (op : BinOp) (x y : Operand) (xs ys : Array Value) (w : World) : (eqGuard op 117 x y (.agg xs) (.agg ys)).run Tryz.prog w = .ok () w:=run_eqGuard_agg w op _ x y xs ys (by kernel_rfl)
theorem z7_ {a1 a2 b1 b2 : Int} : EqK Tryz.prog 117 (qb [I a1,I a2]) (qb [I b1,I b2]) (decide (((a1,a2) : Int × Int) = (b1,b2))):=fun T0 fr M ops o x y t' hx hy=>by
 refine ⟨fun ho=>xd fun w0 G F a w hs hf => ?_,fun ho=>xd fun w0 G F a w hs hf => ?_⟩
 all_goals
  obtain ⟨us,h1,r1⟩:=(hx.use (o:=o) (ops:=ops) (by simp [ho,Op.operands]) hs.tab hf).agg
  obtain ⟨vs,h2,r2⟩:=(hy.use (o:=o) (ops:=ops) (by simp [ho,Op.operands]) hs.tab hf).agg
  obtain rfl:=x_ (zs:=[.int .i64 a1,.int .i64 a2]) r1
  obtain rfl:=x_ (zs:=[.int .i64 b1,.int .i64 b2]) r2
  have h3:=ztc 9998 (a1,a2) (b1,b2) w
  refine ⟨_, ?_,Rep.va _ _⟩
  simp only [execOp,ho,h1,h2,Sem.run_bind,z77,Result.andThen_ok,run_eql_struct,run_neq_struct,h3,Sem.run_pure]
section
variable {T0 : Gh} {fr : Fr} {M : List Own} {ops : Array Oper} {o : Oper}
theorem z8q {t : TypeId} {x : Operand} {s : Int × Int} (ho : o.op = .buildSlice t 1 #[(0,x)]) (hu : Tryz.prog.underlying t = some (.slice 117)) (hx : Opd T0 fr x (qb [I s.1,I s.2])) : AY Tryz.prog T0 ops o fr M (slA spT [s]):=by
 obtain ⟨a,b⟩:=s
 exact AY.sub (qa (T:=spT) [(a,b)] ho hu z78 rfl (by decide) ⟨_,pk hx zeo rfl (.here (.here z9a)) zgf,rfl⟩) jc
end
theorem zmv : Tryz.prog.underlying 50 = some (.struct #[{ name := "B",type:=24,offset:=0,embedded:=false,tag := "",pkgPath := "",byteOffset:=0 },{ name := "K",type:=47,offset:=7,embedded:=false,tag := "",pkgPath := "",byteOffset:=64 },{ name := "L",type:=48,offset:=12,embedded:=false,tag := "",pkgPath := "",byteOffset:=120 }]):=Tryz.underlying50
instance qdt : StC 50 [I 0,I 0,vA (.slice none 0 0),I 0,I 0,B false,B false,I 0,vA (.slice none 0 0),I 0,I 0,B false,vA (.slice none 0 0)] [(0,7),(7,5),(12,1)]:=⟨StT.mk' _ [.int .i64 0,.int .i64 0,.slice none 0 0,.int .i64 0,.int .i64 0,.bool false,.bool false,.int .i64 0,.slice none 0 0,.int .i64 0,.int .i64 0,.bool false,.slice none 0 0] zmv (by kernel_rfl) (by kernel_rfl)⟩
instance qb9 : FldC 50 0 0 24:=⟨_,_,zmv,rfl,rfl,rfl⟩
instance qb8 : FldC 50 1 7 47:=⟨_,_,zmv,rfl,rfl,rfl⟩
instance qb7 : FldC 50 2 12 48:=⟨_,_,zmv,rfl,rfl,rfl⟩
instance qew : AggC 50 true:=⟨kf (by kernel_rfl)⟩
instance qdi : SzC 50 13:=⟨xg (by kernel_rfl)⟩
instance qdz : SpC 50:=⟨jn (n:=12) (by kernel_rfl)⟩
instance qep : AlC 50 (.agg #[.int .i64 0,.int .i64 0,.slice none 0 0,.int .i64 0,.int .i64 0,.bool false,.bool false,.int .i64 0,.slice none 0 0,.int .i64 0,.int .i64 0,.bool false,.slice none 0 0]) [.int .i64 0,.int .i64 0,.slice none 0 0,.int .i64 0,.int .i64 0,.bool false,.bool false,.int .i64 0,.slice none 0 0,.int .i64 0,.int .i64 0,.bool false,.slice none 0 0] [I 0,I 0,vA (.slice none 0 0),I 0,I 0,B false,B false,I 0,vA (.slice none 0 0),I 0,I 0,B false,vA (.slice none 0 0)]:=⟨by kernel_rfl,rfl,rfl⟩
theorem zxy : Tryz.prog.underlying 123 = some (.struct #[{ name := "Pump",type:=50,offset:=0,embedded:=true,tag := "",pkgPath := "",byteOffset:=0 },{ name := "want",type:=29,offset:=13,embedded:=false,tag := "",pkgPath := "typebar/pump",byteOffset:=144 },{ name := "sent",type:=9,offset:=19,embedded:=false,tag := "",pkgPath := "typebar/pump",byteOffset:=208 }]):=Tryz.underlying123
instance qdp : StC 123 [I 0,I 0,vA (.slice none 0 0),I 0,I 0,B false,B false,I 0,vA (.slice none 0 0),I 0,I 0,B false,vA (.slice none 0 0),I 0,I 0,vA (.slice none 0 0),I 0,I 0,B false,SA []] [(0,13),(13,6),(19,1)]:=⟨StT.mk' _ [.int .i64 0,.int .i64 0,.slice none 0 0,.int .i64 0,.int .i64 0,.bool false,.bool false,.int .i64 0,.slice none 0 0,.int .i64 0,.int .i64 0,.bool false,.slice none 0 0,.int .i64 0,.int .i64 0,.slice none 0 0,.int .i64 0,.int .i64 0,.bool false,.string ⟨#[]⟩] zxy (by kernel_rfl) (by kernel_rfl)⟩
instance qbw : FldC 123 0 0 50:=⟨_,_,zxy,rfl,rfl,rfl⟩
instance qbv : FldC 123 1 13 29:=⟨_,_,zxy,rfl,rfl,rfl⟩
instance qbu : FldC 123 2 19 9:=⟨_,_,zxy,rfl,rfl,rfl⟩
abbrev puC (p : Pu) : List AV:=[I p.1.1,I p.1.2.1,slA guT p.1.2.2.1,I p.1.2.2.2.1,I p.1.2.2.2.2.1,B p.1.2.2.2.2.2.1,B p.1.2.2.2.2.2.2,I p.2.1.1,slA zc7 p.2.1.2.1,I p.2.1.2.2.1,I p.2.1.2.2.2.1,B p.2.1.2.2.2.2,slA spT p.2.2]
abbrev puA (p : Pu) : AV:=qb (puC p)
end Go.Proofs.YtgfmjmfphmjdkaaGreatDoor
