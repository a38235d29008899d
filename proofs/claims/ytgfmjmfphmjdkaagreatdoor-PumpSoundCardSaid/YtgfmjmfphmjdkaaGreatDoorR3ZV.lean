/- Several texts in one: see the comment ahead of each. No condition. -/
import Derived.Test.YtgfmjmfphmjdkaaGreatDoorR3ZW
import Derived.Test.YtgfmjmfphmjdkaaGreatDoorR3ZB
set_option linter.unusedSimpArgs false
set_option linter.unusedVariables false
set_option linter.unusedSectionVars false
namespace Go.Proofs.YtgfmjmfphmjdkaaGreatDoor
set_option maxHeartbeats 4000000
section
open Go Go.RowKit
set_option maxRecDepth 100000
abbrev Cmd:=Int × Int × Int × Int
def zc7 : Ty Cmd:={ enc:=fun c=>[.int .i64 c.1,.int .i64 c.2.1,.int .i64 c.2.2.1,.int .i32 c.2.2.2],k:=4,len:=fun _=>rfl }
def yw (c : Cmd) : AV:=qb [I c.1,I c.2.1,I c.2.2.1,R c.2.2.2]
theorem zia : Tryz.prog.underlying 35 = some (.struct #[{ name := "Kind",type:=3,offset:=0,embedded:=false,tag := "",pkgPath := "",byteOffset:=0 },{ name := "A",type:=3,offset:=1,embedded:=false,tag := "",pkgPath := "",byteOffset:=8 },{ name := "B",type:=3,offset:=2,embedded:=false,tag := "",pkgPath := "",byteOffset:=16 },{ name := "R",type:=21,offset:=3,embedded:=false,tag := "",pkgPath := "",byteOffset:=24 }]):=Tryz.underlying35
instance qfh : StC 35 [I 0,I 0,I 0,R 0] [(0,1),(1,1),(2,1),(3,1)]:=⟨StT.mk' _ [.int .i64 0,.int .i64 0,.int .i64 0,.int .i32 0] zia (by kernel_rfl) (by kernel_rfl)⟩
instance qd9 : FldC 35 0 0 3:=⟨_,_,zia,rfl,rfl,rfl⟩
instance qd8 : FldC 35 1 1 3:=⟨_,_,zia,rfl,rfl,rfl⟩
instance qd7 : FldC 35 2 2 3:=⟨_,_,zia,rfl,rfl,rfl⟩
instance qd6 : FldC 35 3 3 21:=⟨_,_,zia,rfl,rfl,rfl⟩
instance qf7 : AggC 35 true:=⟨kf (by kernel_rfl)⟩
instance qe_ : SzC 35 4:=⟨xg (by kernel_rfl)⟩
instance qfl : SpC 35:=⟨jn (n:=3) (by kernel_rfl)⟩
instance qf2 : AlC 35 (.agg #[.int .i64 0,.int .i64 0,.int .i64 0,.int .i32 0]) [.int .i64 0,.int .i64 0,.int .i64 0,.int .i32 0] [I 0,I 0,I 0,R 0]:=⟨by kernel_rfl,rfl,rfl⟩
theorem z2a : El Tryz.prog zc7 35 (0,0,0,0) 32 yw:=⟨⟨.agg #[.int .i64 0,.int .i64 0,.int .i64 0,.int .i32 0],by kernel_rfl,rfl⟩,by decide,fun x v hv=>by simp [zc7] at hv; rcases hv with rfl | rfl | rfl | rfl <;> rfl,.inl ⟨kf (by kernel_rfl),fun x=>rfl⟩⟩
instance qfz : ElC 35 zc7 (0,0,0,0) 32 yw:=⟨z2a⟩
theorem zsx : Tryz.prog.underlying 45 = some (.slice 35):=Tryz.underlying45
instance qda : UnC 45 (.slice 35):=⟨zsx⟩
instance qex : AggC 45 false:=⟨yq (by kernel_rfl)⟩
instance qdj : SzC 45 1:=⟨xg (by kernel_rfl)⟩
instance qe4 : UnC 9 .string:=⟨Tryz.underlying9⟩
instance qe8 : SzC 9 1:=⟨xg (by kernel_rfl)⟩
theorem z7r : (Tryz.prog.fieldsOf 35).toList = [{ name := "Kind",type:=3,offset:=0,embedded:=false,tag := "",pkgPath := "",byteOffset:=0 },{ name := "A",type:=3,offset:=1,embedded:=false,tag := "",pkgPath := "",byteOffset:=8 },{ name := "B",type:=3,offset:=2,embedded:=false,tag := "",pkgPath := "",byteOffset:=16 },{ name := "R",type:=21,offset:=3,embedded:=false,tag := "",pkgPath := "",byteOffset:=24 }]:=by kernel_rfl
theorem zib (d : Nat) (a b : Cmd) (w : World) : (Op.equalIn (d + 2) 35 (.agg #[.int .i64 a.1,.int .i64 a.2.1,.int .i64 a.2.2.1,.int .i32 a.2.2.2]) (.agg #[.int .i64 b.1,.int .i64 b.2.1,.int .i64 b.2.2.1,.int .i32 b.2.2.2])).run Tryz.prog w = .ok (decide (a = b)) w:=by
 rw [run_equalIn_agg _ _ _ _ _ (by kernel_rfl) (by kernel_rfl),z7r]
 obtain ⟨a1,a2,a3,a4⟩:=a
 obtain ⟨b1,b2,b3,b4⟩:=b
 simp [Op.eqFields,part,ww,zo6,z18,zv2]
 by_cases h1 : a1 = b1 <;> by_cases h2 : a2 = b2 <;> by_cases h3 : a3 = b3 <;> by_cases h4 : a4 = b4 <;> simp [h1,h2,h3,h4]
theorem zv1 (op : BinOp) (x y : Operand) (xs ys : Array Value) (w : World) : (eqGuard op 35 x y (.agg xs) (.agg ys)).run Tryz.prog w = .ok () w:=run_eqGuard_agg w op _ x y xs ys (by kernel_rfl)
theorem z8b {a1 a2 a3 a4 b1 b2 b3 b4 : Int} : EqK Tryz.prog 35 (qb [I a1,I a2,I a3,R a4]) (qb [I b1,I b2,I b3,R b4]) (decide (((a1,a2,a3,a4) : Cmd) = (b1,b2,b3,b4))):=fun T0 fr M ops o x y t' hx hy=>by
 have key : ∀ (G : Gh) (a : Act),Gh.le T0 G → frOn G (reads ops o) fr a.tmps → (∀ z,z = x ∨ z = y → z ∈ o.op.operands) → a.eval x = .agg #[.int .i64 a1,.int .i64 a2,.int .i64 a3,.int .i32 a4] ∧ a.eval y = .agg #[.int .i64 b1,.int .i64 b2,.int .i64 b3,.int .i32 b4]:=fun G a ht hf hm=>by
  obtain ⟨us,h1,r1⟩:=(hx.use (o:=o) (ops:=ops) (hm x (.inl rfl)) ht hf).agg
  obtain ⟨vs,h2,r2⟩:=(hy.use (o:=o) (ops:=ops) (hm y (.inr rfl)) ht hf).agg
  obtain rfl:=x_ (zs:=[.int .i64 a1,.int .i64 a2,.int .i64 a3,.int .i32 a4]) r1
  obtain rfl:=x_ (zs:=[.int .i64 b1,.int .i64 b2,.int .i64 b3,.int .i32 b4]) r2
  exact ⟨h1,h2⟩
 refine ⟨fun ho=>xd fun w0 G F a w hs hf => ?_,fun ho=>xd fun w0 G F a w hs hf => ?_⟩
 ·obtain ⟨h1,h2⟩:=key G a hs.tab hf fun z hz=>by rcases hz with rfl | rfl <;> simp [ho,Op.operands]
  have h3:=zib 9998 (a1,a2,a3,a4) (b1,b2,b3,b4) w
  exact ⟨_,by simp only [execOp,ho,h1,h2,Sem.run_bind,zv1,Result.andThen_ok,run_eql_struct,h3,Sem.run_pure],Rep.va _ _⟩
 ·obtain ⟨h1,h2⟩:=key G a hs.tab hf fun z hz=>by rcases hz with rfl | rfl <;> simp [ho,Op.operands]
  have h3:=zib 9998 (a1,a2,a3,a4) (b1,b2,b3,b4) w
  exact ⟨_,by simp only [execOp,ho,h1,h2,Sem.run_bind,zv1,Result.andThen_ok,run_neq_struct,h3,Sem.run_pure],Rep.va _ _⟩
def z9 (c : Cmd) : Bool :=
 if c.1 = 1 then ja c.2.2.2 && decide (c.2.1 = 0) && decide (c.2.2.1 = 0)
 else decide (c.2.2.2 = 0) && (if c.1 = 2 then decide (0 ≤ c.2.1) && decide (c.2.1 ≤ 23) && decide (0 ≤ c.2.2.1) && decide (c.2.2.1 ≤ 79)
  else decide (c.2.2.1 = 0) && (if 3 ≤ c.1 ∧ c.1 ≤ 6 then decide (1 ≤ c.2.1) && decide (c.2.1 ≤ 80) else decide (7 ≤ c.1) && decide (c.1 ≤ 12) && decide (c.2.1 = 0)))
def v8 (n : Nat) : List UInt8:=if n < 10 then [UInt8.ofNat (48 + n)] else [UInt8.ofNat (48 + n / 10),UInt8.ofNat (48 + n % 10)]
def zgz (k : Int) : List UInt8:=if k = 7 then [27,91,75] else if k = 8 then [27,91,74] else if k = 9 then [13] else if k = 10 then [10] else if k = 11 then [8] else [7]
def q9 (c : Cmd) : List UInt8 :=
 if c.1 = 1 then z1_ c.2.2.2 else if c.1 = 2 then [27,91] ++ v8 (c.2.1 + 1).toNat ++ [59] ++ v8 (c.2.2.1 + 1).toNat ++ [72]
 else if c.1 ≤ 6 then [27,91] ++ (if c.2.1 = 1 then [] else v8 c.2.1.toNat) ++ [UInt8.ofNat (62 + c.1).toNat] else zgz c.1
def jt (c : Cmd) : List UInt8 × Int:=if z9 c = true then (q9 c,0) else ([],1)
theorem zbg (n : Nat) : 1 ≤ (v8 n).length ∧ (v8 n).length ≤ 2:=by unfold v8; split <;> simp
theorem zu2 (k : Int) : 1 ≤ (zgz k).length ∧ (zgz k).length ≤ 3:=by unfold zgz; (repeat' split) <;> simp
def yu (r : Int) : List UInt8 :=
 if r < 128 then [UInt8.ofNat r.toNat] else if r < 2048 then [UInt8.ofNat (192 + r.toNat / 64),UInt8.ofNat (128 + r.toNat % 64)]
 else if r < 65536 then [UInt8.ofNat (224 + r.toNat / 4096),UInt8.ofNat (128 + r.toNat / 64 % 64),UInt8.ofNat (128 + r.toNat % 64)]
 else [UInt8.ofNat (240 + r.toNat / 262144),UInt8.ofNat (128 + r.toNat / 4096 % 64),UInt8.ofNat (128 + r.toNat / 64 % 64),UInt8.ofNat (128 + r.toNat % 64)]
theorem zka {r : Int} (h : isG r = true) : z1_ r = yu r:=by
 have h0 : 0 ≤ r:=by simp [isG] at h; omega
 have hv : Utf8.valid r = true:=by simp [isG] at h; simp [Utf8.valid]; omega
 unfold z1_ Utf8.encode yu
 simp only [hv,if_true]
 by_cases h1 : r < 128
 ·rw [if_pos (by omega),if_pos h1]
 ·rw [if_neg (by omega),if_neg h1]
  by_cases h2 : r < 2048
  ·rw [if_pos (by omega),if_pos h2]
  ·rw [if_neg (by omega),if_neg h2]
   by_cases h3 : r < 65536
   ·rw [if_pos (by omega),if_pos h3]
   ·rw [if_neg (by omega),if_neg h3]
theorem zj_ (r : Int) : 1 ≤ (yu r).length ∧ (yu r).length ≤ 4:=by
 unfold yu; (repeat' split) <;> simp
theorem wz {r : Int} (h : ja r = true) : isG r = true:=by
 simp only [ja,Bool.and_eq_true] at h; exact h.1.1
theorem zbj {c : Cmd} (h : z9 c = true) : 1 ≤ (q9 c).length ∧ (q9 c).length ≤ 8:=by
 unfold q9
 by_cases h1 : c.1 = 1
 ·rw [if_pos h1]
  have : isG c.2.2.2 = true:=wz (by unfold z9 at h; rw [if_pos h1] at h; simp only [Bool.and_eq_true] at h; exact h.1.1)
  rw [zka this]
  have:=zj_ c.2.2.2; omega
 ·rw [if_neg h1]
  by_cases h2 : c.1 = 2
  ·rw [if_pos h2]
   have a:=zbg (c.2.1 + 1).toNat
   have b:=zbg (c.2.2.1 + 1).toNat
   simp only [List.length_append,List.length_cons,List.length_nil]; omega
  ·rw [if_neg h2]
   split
   ·have a:=zbg c.2.1.toNat
    simp only [List.length_append,List.length_cons,List.length_nil]
    split <;> simp <;> omega
   ·have:=zu2 c.1; omega
end
section
open Go Go.RowKit
variable {T0 : Gh}
set_option maxRecDepth 100000
theorem qae : El Tryz.prog u8T 5 0 1 UB:=⟨⟨.int .u8 0,by kernel_rfl,rfl⟩,by decide,fun x v hv=>by simp [u8T] at hv; subst hv; rfl,.inr ⟨yq (by kernel_rfl),rfl,fun x v h=>by simp [u8T] at h; rw [← h]⟩⟩
instance qe3 : UnC 186 (.slice 5):=⟨Tryz.underlying186⟩
section
variable {T0 : Gh} {N : Fz} {Q : ko} {fr : Fr} {M M' : List Own} {ops : Array Oper} {o : Oper} {rest : List Oper} {x0 : Nat}
theorem z9x {n : Int} (h0 : 0 ≤ n) (h1 : n < 256) : (vA (.int .u8 n) : AV) = UB (UInt8.ofNat n.toNat):=by
 have : ((UInt8.ofNat n.toNat).toNat : Int) = n:=by simp; omega
 rw [UB,this]
theorem zr2 {t : TypeId} {x : Operand} {a : Int} (ho : o.op = .buildSlice t 1 #[(0,x)]) (hu : Tryz.prog.underlying t = some (.slice 5)) (hx : Opd T0 fr x (vA (.int .u8 a))) (h0 : 0 ≤ a ∧ a < 256) : AY Tryz.prog T0 ops o fr M (slA u8T [UInt8.ofNat a.toNat]):=by
 rw [z9x h0.1 h0.2] at hx
 exact AY.sub (qa (T:=u8T) [_] ho hu qae rfl (by decide) ⟨_,pk hx (z9l rfl) rfl (.here z9a) zgf,rfl⟩) jc
end
attribute [local irreducible] zz zg AW AL AO QY qh z_ rsA Opd xh vA gvA zy qb slA jl ipA rpA EqK LnK IxK LdK FaK FdK
def z5r (x : List UInt8 × Int) : AV:=zy [SA x.1,I x.2]
def z9b (r : Int) : List UInt8 × Int:=if isG r = true then (z1_ r,0) else ([],1)
theorem zrp (r : Int) : AP Tryz.prog T0 171 [R r] (z5r (z9b r)):=by
 refine za Tryz.func171 rfl (by decide) Tryz.ntmps171 rfl ?_
 repeat' (first
 |refine sa_ ?_ | refine qd ?_ (c:=by first | exact zc3 _ | exact c1 | exact f_ref01Is _ | fail) | refine jd ?_ (hy:=by first | (apply zr2 rfl un_; exact oo_; omega) | (apply bs_u2 rfl un_; exact oo_; exact oo_; omega) | (apply bs_u3 rfl un_; exact oo_; exact oo_; exact oo_; omega) | (apply bs_u4 rfl un_; exact oo_; exact oo_; exact oo_; exact oo_; omega) | fail) | refine j0 ?_ | refine zr ?_ (c:=by intro hk hk2; first | exact zc3 _ | exact c1 | exact f_ref01Is _ | fail) | refine qj ?_ (hy:=by intro hk hk2; first | (apply zr2 rfl un_; exact oo_; omega) | (apply bs_u2 rfl un_; exact oo_; exact oo_; omega) | (apply bs_u3 rfl un_; exact oo_; exact oo_; exact oo_; omega) | (apply bs_u4 rfl un_; exact oo_; exact oo_; exact oo_; exact oo_; omega) | fail) | refine sw_ ?_ | (refine zd ?_ ?_ <;> intro hb <;> try exact no_) | (refine sx_ ?_ <;> intro bb) | (refine su_ ?_ <;> intro u hu1 hu2) | fail)
 ·exact ⟨_,[],rs_,List.nil_sublist _,Sub.eq (by rw [z9b,if_neg (by rw [hb]; decide)]; rfl),rfl⟩
 ·exact ⟨_,[],rs_,List.nil_sublist _,Sub.eq (by rw [z9b,if_pos hb]; rfl),rfl⟩
theorem wi (c : Cmd) : AP Tryz.prog T0 65 [yw c] (B (z9 c)):=by
 obtain ⟨k,a,b,r⟩:=c
 show AP Tryz.prog T0 _ [qb [I k,I a,I b,R r]] _
 refine za Tryz.func65 rfl (by decide) Tryz.ntmps65 rfl ?_
 repeat' (first
 |(apply qe; (case hn=>rfl); (case hm=>kernel_rfl)) | refine g6_ ?_ | (apply jx; (case hL=>rfl); (case hne=>rfl)) | exact jy | apply xr | (apply ze7; (case ho=>rfl)) | (apply xp; exact wg) | (apply jv; (case h=>exact zel); (case hk=>exact wk_); (case hc=>rfl)) | refine sa_ ?_ | refine qd ?_ (c:=by first | exact we _ | exact f_ref02Shown _ | fail) | refine jd ?_ (hy:=by first | (apply zr2 rfl un_; exact oo_; omega) | (apply bs_u2 rfl un_; exact oo_; exact oo_; omega) | (apply bs_u3 rfl un_; exact oo_; exact oo_; exact oo_; omega) | (apply bs_u4 rfl un_; exact oo_; exact oo_; exact oo_; exact oo_; omega) | fail) | refine j0 ?_ | refine zr ?_ (c:=by intro hk hk2; first | exact we _ | exact f_ref02Shown _ | fail) | refine qj ?_ (hy:=by intro hk hk2; first | (apply zr2 rfl un_; exact oo_; omega) | (apply bs_u2 rfl un_; exact oo_; exact oo_; omega) | (apply bs_u3 rfl un_; exact oo_; exact oo_; exact oo_; omega) | (apply bs_u4 rfl un_; exact oo_; exact oo_; exact oo_; exact oo_; omega) | fail) | refine sw_ ?_ | (refine zd ?_ ?_ <;> intro hb <;> try exact no_) | (refine sx_ ?_ <;> intro bb) | (refine su_ ?_ <;> intro u hu1 hu2) | fail)
 all_goals refine ⟨_,[],rs_,List.nil_sublist _,Sub.eq (congrArg B ?_),rfl⟩
 all_goals simp only [z9]
 all_goals (cases hs : ja r <;> simp [*] <;> (try rw [if_neg (by omega)]) <;> (try (rw [Bool.eq_iff_iff]; simp <;> omega)))
theorem z4b (n : Nat) (h : n < 100) : AP Tryz.prog T0 204 [I n] (SA (v8 n)):=by
 refine za Tryz.func204 rfl (by decide) Tryz.ntmps204 rfl ?_
 repeat' (first
 |refine sa_ ?_ | refine jd ?_ (hy:=by first | (apply zbm rfl un_; exact oo_; exact lo_; exact hi_; exact le_; (show _ ≤ 200; omega)) | fail) | refine j0 ?_ | refine qj ?_ (hy:=by intro hk hk2; first | (apply zbm rfl un_; exact oo_; exact lo_; exact hi_; exact le_; (show _ ≤ 200; omega)) | fail) | refine sw_ ?_ | (refine zd ?_ ?_ <;> intro hb <;> try exact no_) | (refine sx_ ?_ <;> intro bb) | (refine su_ ?_ <;> intro u hu1 hu2) | fail)
 ·refine ⟨_,[],rs_,List.nil_sublist _,Sub.eq (congrArg (fun l : List UInt8=>SA l) ?_),rfl⟩
  have hb2 : n < 10:=by omega
  clear hb h
  revert hb2; revert n; decide +kernel
 ·refine ⟨_,[],rs_,List.nil_sublist _,Sub.eq (congrArg (fun l : List UInt8=>SA l) ?_),rfl⟩
  have hb2 : ¬ n < 10:=by omega
  clear hb
  revert hb2; revert h; revert n; decide +kernel
theorem znx (n : Nat) (h : n < 100) : AP Tryz.prog T0 198 [I n,I 10] (SA (v8 n)):=by
 have c1:=z4b (T0:=T0) n h
 refine za Tryz.func198 rfl (by decide) Tryz.ntmps198 rfl ?_
 repeat' (first
 |refine g5_ ?_ | (refine zd ?_ ?_ <;> intro hb <;> try exact no_) | (refine sx_ ?_ <;> intro bb) | (refine su_ ?_ <;> intro u hu1 hu2) | fail)
 exact ⟨_,[],rs_,List.nil_sublist _,Sub.refl _,rfl⟩
theorem z4n (n : Nat) (h : n < 100) : AP Tryz.prog T0 189 [I n] (SA (v8 n)):=by
 have c1:=znx (T0:=T0) n h
 refine za Tryz.func189 rfl (by decide) Tryz.ntmps189 rfl ?_
 repeat' (first
 |refine g5_ ?_ | (refine zd ?_ ?_ <;> intro hb <;> try exact no_) | (refine sx_ ?_ <;> intro bb) | (refine su_ ?_ <;> intro u hu1 hu2) | fail)
 exact ⟨_,[],rs_,List.nil_sublist _,Sub.refl _,rfl⟩
theorem z16 (n : Nat) (h : n < 100) : AP Tryz.prog T0 172 [I n] (SA (v8 n)):=by
 have c1:=z4n (T0:=T0) n h
 refine za Tryz.func172 rfl (by decide) Tryz.ntmps172 rfl ?_
 repeat' (first
 |refine g5_ ?_ | (refine zd ?_ ?_ <;> intro hb <;> try exact no_) | (refine sx_ ?_ <;> intro bb) | (refine su_ ?_ <;> intro u hu1 hu2) | fail)
 exact ⟨_,[],rs_,List.nil_sublist _,Sub.refl _,rfl⟩
end
section
open Go Go.RowKit
variable {T0 : Gh}
set_option maxRecDepth 100000
def zl7 : Operand → Option Value
 |.const v=>some v
 |_=>none
section
variable {P : Program} {T0 : Gh} {N : Fz} {Q : ko} {fr : Fr} {M M' : List Own} {ops : Array Oper} {o : Oper} {rest : List Oper} {x0 : Nat}
theorem ziv (a : Act) : ∀ (l : List (Nat × Operand)) (vs : List (Nat × Value)),l.mapM (fun p=>(zl7 p.2).map fun v=>(p.1,v)) = some vs → l.map (fun p=>(p.1,a.eval p.2)) = vs
 |[],vs,h=>by simp at h; subst h; rfl
 |(i,x) :: l,vs,h=>by
  simp only [List.mapM_cons,Option.bind_eq_bind,Option.pure_def] at h
  cases hx : zl7 x with
  |none=>simp [hx] at h
  |some v =>
   cases hl : l.mapM (fun p=>(zl7 p.2).map fun v=>(p.1,v)) with
   |none=>simp [hx,hl] at h
   |some r =>
    simp [hx,hl] at h
    subst h
    have hv : a.eval x = v:=by
     cases x <;> simp [zl7] at hx
     subst hx; rfl
    rw [List.map_cons,ziv a l r hl,hv]
theorem zbw {t : TypeId} {parts : Array (Nat × Operand)} {vs : List (Nat × Value)} {cs : List Value} (ho : o.op = .build t parts) (hv : parts.toList.mapM (fun p=>(zl7 p.2).map fun v=>(p.1,v)) = some vs) (hb : P.built t vs = some cs.toArray) : AY P T0 ops o fr M (qb (cs.map vA)):=xd fun w0 G F a w hs hf=>by
 have h1:=ziv a _ _ hv
 have h2 : (parts.map fun (i,x)=>(i,a.eval x)).toList = vs:=by rw [← h1]; simp
 have h3:=run_build (P:=P) w t (parts.map fun (i,x)=>(i,a.eval x)) cs.toArray (by rw [h2]; exact hb)
 refine ⟨.agg cs.toArray, ?_,.of ⟨cs,rfl,yb _ _⟩⟩
 simp [execOp,ho,h3]
theorem zda {x y : Operand} {t e : TypeId} {n k' m b of2 : Nat} {k : IntKind} (ho : o.op = .indexAddr t x y) (hu : P.underlying t = some (.array n e)) (hz : ∀ w,(sizeOf e).run P w = .ok k' w) (hx : Opd T0 fr x (vA (.pointer (some ⟨b,of2,none⟩)))) (hy : xh T0 fr y k m) (hm : m < n) : AY P T0 ops o fr M (vA (.pointer (some ⟨b,of2 + m * k',none⟩))):=xd fun w0 G F a w hs hf=>by
 have h1:=(hx.use (o:=o) (ops:=ops) (by simp [ho,Op.operands]) hs.tab hf).eq
 have h4:=((show Opd T0 fr y (vA (.int k (m : Int))) from hy).use (o:=o) (ops:=ops) (by simp [ho,Op.operands]) hs.tab hf).eq
 refine ⟨.pointer (some ⟨b,of2 + m * k',none⟩), ?_,Rep.va _ _⟩
 have hr : (m : Int) < (n : Int):=by omega
 simp only [execOp,ho,h1,h4]
 simp [Instr.indexAt,asIntOf,run_underlying hu,hz,hm,Instr.sureAddr,Addr.add_lit]
end
instance qe5 : UnC 202 (.array 6 9):=⟨Tryz.underlying202⟩
instance qfc : SzC 202 6:=⟨xg (by kernel_rfl)⟩
instance qf5 : AlC 202 (.agg #[.string ⟨#[]⟩,.string ⟨#[]⟩,.string ⟨#[]⟩,.string ⟨#[]⟩,.string ⟨#[]⟩,.string ⟨#[]⟩]) [.string ⟨#[]⟩,.string ⟨#[]⟩,.string ⟨#[]⟩,.string ⟨#[]⟩,.string ⟨#[]⟩,.string ⟨#[]⟩] [SA [],SA [],SA [],SA [],SA [],SA []]:=⟨by kernel_rfl,rfl,rfl⟩
theorem zgy : Tryz.prog.built 202 [(0,.string ⟨#[27,91,75]⟩),(1,.string ⟨#[27,91,74]⟩),(2,.string ⟨#[13]⟩),(3,.string ⟨#[10]⟩),(4,.string ⟨#[8]⟩),(5,.string ⟨#[7]⟩)] = some [Value.string ⟨#[27,91,75]⟩,.string ⟨#[27,91,74]⟩,.string ⟨#[13]⟩,.string ⟨#[10]⟩,.string ⟨#[8]⟩,.string ⟨#[7]⟩].toArray:=by kernel_rfl
attribute [local irreducible] zz zg AW AL AO QY qh z_ rsA Opd xh vA gvA zy qb slA jl ipA rpA EqK LnK IxK LdK FaK FdK
theorem z7z (k : Int) (h : 7 ≤ k ∧ k ≤ 12) : AP Tryz.prog T0 173 [I k] (SA (zgz k)):=by
 have h2 : k = 7 ∨ k = 8 ∨ k = 9 ∨ k = 10 ∨ k = 11 ∨ k = 12:=by omega
 rcases h2 with rfl | rfl | rfl | rfl | rfl | rfl
 all_goals clear h
 all_goals refine za Tryz.func173 rfl (by decide) Tryz.ntmps173 rfl ?_
 all_goals
  repeat' (first
  |refine sa_ ?_ | refine jd ?_ (hy:=by first | (apply zda rfl un_ sz_; exact oo_; exact on_; exact lt_; done) | exact zbw rfl rfl zgy | fail) | refine j0 ?_ | refine qj ?_ (hy:=by intro hk hk2; first | (apply zda rfl un_ sz_; exact oo_; exact on_; exact lt_; done) | exact zbw rfl rfl zgy | fail) | refine sw_ ?_ | (refine zd ?_ ?_ <;> intro hb <;> try exact no_) | (refine sx_ ?_ <;> intro bb) | (refine su_ ?_ <;> intro u hu1 hu2) | fail)
 all_goals exact ⟨_,[],rs_,List.nil_sublist _,Sub.eq (congrArg (fun l : List UInt8=>SA l) (by decide)),rfl⟩
theorem znk {k a b r : Int} (h : z9 (k,a,b,r) = true) : (k = 1 ∧ ja r = true) ∨ (k = 2 ∧ 0 ≤ a ∧ a ≤ 23 ∧ 0 ≤ b ∧ b ≤ 79) ∨ ((3 ≤ k ∧ k ≤ 6) ∧ 1 ≤ a ∧ a ≤ 80) ∨ (7 ≤ k ∧ k ≤ 12):=by
 simp only [z9] at h
 by_cases h1 : k = 1
 ·simp [h1] at h; exact .inl ⟨h1,h.1.1⟩
 ·by_cases h2 : k = 2
  ·simp [h2] at h; omega
  ·by_cases h3 : 3 ≤ k ∧ k ≤ 6
   ·simp [h1,h2,h3] at h; omega
   ·rw [if_neg h1,if_neg h2,if_neg h3] at h; simp at h; omega
theorem zvd (c : Cmd) : AP Tryz.prog T0 136 [yw c] (z5r (jt c)):=by
 obtain ⟨k,a,b,r⟩:=c
 show AP Tryz.prog T0 _ [qb [I k,I a,I b,R r]] _
 by_cases hc : z9 (k,a,b,r) = true
 ·have c1 : AP Tryz.prog T0 65 [qb [I k,I a,I b,R r]] (B true):=hc ▸ wi (k,a,b,r)
  rw [jt,if_pos hc]
  rcases znk hc with ⟨rfl,hs⟩ | ⟨rfl,a1,a2,b1,b2⟩ | ⟨h3,a1,a2⟩ | h7
  ·have c2 : AP Tryz.prog T0 171 [R r] (zy [SA (z1_ r),I 0]):=(zrp r).to (by rw [z9b,if_pos (wz hs)]; rfl)
   refine za Tryz.func136 rfl (by decide) Tryz.ntmps136 rfl ?_
   repeat' (first
   |refine g4_ ?_ | (refine zd ?_ ?_ <;> intro hb <;> try exact no_) | (refine sx_ ?_ <;> intro bb) | (refine su_ ?_ <;> intro u hu1 hu2) | fail)
   exact ⟨_,[],rs_,List.nil_sublist _,Sub.eq (by simp [q9,z5r]),rfl⟩
  ·have c2 : True:=trivial
   obtain ⟨a,rfl⟩:=Int.eq_ofNat_of_zero_le a1
   obtain ⟨b,rfl⟩:=Int.eq_ofNat_of_zero_le b1
   have d1:=zbg (a + 1)
   have d2:=zbg (b + 1)
   refine za Tryz.func136 rfl (by decide) Tryz.ntmps136 rfl ?_
   repeat' (first
   |refine g4_ ?_ | (refine zd ?_ ?_ <;> intro hb <;> try exact no_) | (refine sx_ ?_ <;> intro bb) | (refine su_ ?_ <;> intro u hu1 hu2) | fail)
   all_goals first | exact e1_ | skip
   refine ⟨_,[],rs_,List.nil_sublist _,Sub.eq ?_,rfl⟩
   simp [q9,z5r,show ((a : Int) + 1).toNat = a + 1 by omega,show ((b : Int) + 1).toNat = b + 1 by omega]
  ·have c2 : True:=trivial
   obtain ⟨a,rfl⟩:=Int.eq_ofNat_of_zero_le (show 0 ≤ a by omega)
   have d1:=zbg a
   refine za Tryz.func136 rfl (by decide) Tryz.ntmps136 rfl ?_
   repeat' (first
   |refine g4_ ?_ | (refine zd ?_ ?_ <;> intro hb <;> try exact no_) | (refine sx_ ?_ <;> intro bb) | (refine su_ ?_ <;> intro u hu1 hu2) | fail)
   all_goals first | exact e1_ | skip
   all_goals refine ⟨_,[],rs_,List.nil_sublist _,Sub.eq ?_,rfl⟩
   all_goals simp only [q9,z5r,show (65 : Int) + k - 3 = 62 + k by omega]
   all_goals rw [if_neg (by omega),if_neg (by omega),if_pos (by omega)]
   ·rw [if_pos (by omega)]; rfl
   ·rw [if_neg (by omega)]; rfl
  ·have c2 : AP Tryz.prog T0 173 [I k] (SA (zgz k)):=z7z k h7
   refine za Tryz.func136 rfl (by decide) Tryz.ntmps136 rfl ?_
   repeat' (first
   |refine g4_ ?_ | (refine zd ?_ ?_ <;> intro hb <;> try exact no_) | (refine sx_ ?_ <;> intro bb) | (refine su_ ?_ <;> intro u hu1 hu2) | fail)
   all_goals first | exact e1_ | skip
   refine ⟨_,[],rs_,List.nil_sublist _,Sub.eq ?_,rfl⟩
   simp only [q9,z5r]
   rw [if_neg (by omega),if_neg (by omega),if_neg (by omega)]
 ·have c1 : AP Tryz.prog T0 65 [qb [I k,I a,I b,R r]] (B false):=by
   have:=wi (T0:=T0) (k,a,b,r)
   rw [show z9 (k,a,b,r) = false by simpa using hc] at this; exact this
  have c2 : True:=trivial
  rw [jt,if_neg hc]
  refine za Tryz.func136 rfl (by decide) Tryz.ntmps136 rfl ?_
  repeat' (first
  |refine g4_ ?_ | (refine zd ?_ ?_ <;> intro hb <;> try exact no_) | (refine sx_ ?_ <;> intro bb) | (refine su_ ?_ <;> intro u hu1 hu2) | fail)
  exact ⟨_,[],rs_,List.nil_sublist _,Sub.refl _,rfl⟩
end
section
open Go Go.RowKit
variable {T0 : Gh}
set_option maxRecDepth 100000
def jb (c : Cmd) : Nat:=(jt c).1.length
def qr (l : List Cmd) : Nat:=(l.map jb).sum
def zcl (c : Cmd) : Nat:=if z9 c = true then (if c.1 = 7 then 1 else if c.1 = 8 then 2 else 0) else 0
def wv (l : List Cmd) : Nat:=(l.map zcl).sum
theorem zau (c : Cmd) : jb c ≤ 8:=by
 unfold jb jt
 split
 ·rename_i h; exact (zbj h).2
 ·exact Nat.zero_le _
theorem ztt (c : Cmd) : zcl c ≤ 2:=by unfold zcl; (repeat' split) <;> omega
theorem yk (l : List Cmd) : qr l ≤ 8 * l.length:=by
 induction l with
 |nil=>simp [qr]
 |cons c l ih=>have:=zau c; simp only [qr,List.map_cons,List.sum_cons,List.length_cons] at ih ⊢; omega
theorem zow (l : List Cmd) : wv l ≤ 2 * l.length:=by
 induction l with
 |nil=>simp [wv]
 |cons c l ih=>have:=ztt c; simp only [wv,List.map_cons,List.sum_cons,List.length_cons] at ih ⊢; omega
theorem zr0 (l : List Cmd) (k : Nat) (h : k < l.length) : qr (l.take (k + 1)) = qr (l.take k) + jb l[k]:=by
 rw [qr,qr,List.take_succ_eq_append_getElem h,List.map_append,List.sum_append]; simp
theorem zqt (l : List Cmd) (k : Nat) (h : k < l.length) : wv (l.take (k + 1)) = wv (l.take k) + zcl l[k]:=by
 rw [wv,wv,List.take_succ_eq_append_getElem h,List.map_append,List.sum_append]; simp
attribute [local irreducible] zz zg AW AL AO QY qh z_ rsA Opd xh vA gvA zy qb slA jl ipA rpA EqK LnK IxK LdK FaK FdK
theorem zbc (l : List Cmd) (hl : l.length ≤ 100000) : AP Tryz.prog T0 109 [slA zc7 l] (I (qr l)):=by
 refine za Tryz.func109 rfl (by decide) Tryz.ntmps109 rfl ?_
 repeat' (first
 |refine g3_ ?_ | (refine zd ?_ ?_ <;> intro hb <;> try exact no_) | (refine sx_ ?_ <;> intro bb) | (refine su_ ?_ <;> intro u hu1 hu2) | fail)
 refine zdc (fun k : Nat=>[(3,I (qr (l.take k))),(10,I k)]) (fun k=>k ≤ l.length) (fun k=>l.length - k) 0 (Nat.zero_le _) ?_
 rintro k i1
 have hle:=yk (l.take k)
 rw [List.length_take] at hle
 by_cases hlt : k < l.length
 ·have hn:=zr0 l k hlt
  have h8 : (jt l[k]).1.length ≤ 8:=zau l[k]
  repeat' (first
  |refine g3_ ?_ | (refine zd ?_ ?_ <;> intro hb <;> try exact no_) | (refine sx_ ?_ <;> intro bb) | (refine su_ ?_ <;> intro u hu1 hu2) | fail)
  exact ⟨k + 1,by omega,by omega,by rw [hn]; exact wx_,sl_⟩
 ·repeat' (first
  |refine g3_ ?_ | (refine zd ?_ ?_ <;> intro hb <;> try exact no_) | (refine sx_ ?_ <;> intro bb) | (refine su_ ?_ <;> intro u hu1 hu2) | fail)
  exact ⟨_,[],rs_,List.nil_sublist _,Sub.eq (by rw [List.take_of_length_le (by omega)]),rfl⟩
end
section
open Go Go.RowKit
variable {T0 : Gh}
set_option maxRecDepth 100000
section
variable {T0 : Gh} {N : Fz} {Q : ko} {fr : Fr} {M M' : List Own} {ops : Array Oper} {o : Oper} {rest : List Oper} {x0 : Nat}
theorem wh {t : TypeId} {x : Operand} {c : Cmd} (ho : o.op = .buildSlice t 1 #[(0,x)]) (hu : Tryz.prog.underlying t = some (.slice 35)) (hx : Opd T0 fr x (yw c)) : AY Tryz.prog T0 ops o fr M (slA zc7 [c]):=by
 obtain ⟨k,a,b,r⟩:=c
 exact AY.sub (qa (T:=zc7) [(k,a,b,r)] ho hu z2a rfl (by decide) ⟨_,pk hx zeo rfl (.here (.here (.here (.here z9a)))) zgf,rfl⟩) jc
end
attribute [local irreducible] zz zg AW AL AO QY qh z_ rsA Opd xh vA gvA zy qb slA jl ipA rpA EqK LnK IxK LdK FaK FdK
theorem zl1 {l m : List Cmd} {k : Nat} (h1 : k < l.length) (h2 : k < m.length) : l.take (k + 1) = m.take (k + 1) ↔ l.take k = m.take k ∧ l[k] = m[k]:=by
 rw [List.take_succ_eq_append_getElem h1,List.take_succ_eq_append_getElem h2]
 constructor
 ·intro h
  have:=List.append_inj h (by simp; omega)
  exact ⟨this.1,by simpa using this.2⟩
 ·rintro ⟨a,b⟩; rw [a,b]
theorem zg1 (l m : List Cmd) (hl : l.length ≤ 90000) (hm : m.length ≤ 90000) : AP Tryz.prog T0 128 [slA zc7 l,slA zc7 m] (B (decide (l = m))):=by
 refine za Tryz.func128 rfl (by decide) Tryz.ntmps128 rfl ?_
 repeat' (first
 |refine g2_ ?_ | (refine zd ?_ ?_ <;> intro hb <;> try exact no_) | (refine sx_ ?_ <;> intro bb) | (refine su_ ?_ <;> intro u hu1 hu2) | fail)
 ·refine ⟨_,[],rs_,List.nil_sublist _,Sub.eq (congrArg B (decide_eq_false ?_).symm),rfl⟩
  rintro rfl; omega
 have hlm : l.length = m.length:=by omega
 refine zdc (fun k : Nat=>[(5,I k)]) (fun k=>k ≤ l.length ∧ l.take k = m.take k) (fun k=>l.length - k) 0 ⟨Nat.zero_le _,rfl⟩ ?_
 rintro k ⟨i1,i2⟩
 by_cases hlt : k < l.length
 ·have hlt2 : k < m.length:=by omega
  have he:=zl1 hlt hlt2
  repeat' (first
  |refine g2_ ?_ | (refine zd ?_ ?_ <;> intro hb <;> try exact no_) | (refine sx_ ?_ <;> intro bb) | (refine su_ ?_ <;> intro u hu1 hu2) | fail)
  ·refine ⟨_,[],rs_,List.nil_sublist _,Sub.eq (congrArg B (decide_eq_false ?_).symm),rfl⟩
   rintro rfl; exact hb rfl
  ·exact ⟨k + 1,⟨by omega,he.2 ⟨i2,hb⟩⟩,by omega,wx_,sl_⟩
 ·rw [List.take_of_length_le (by omega),List.take_of_length_le (by omega)] at i2
  repeat' (first
  |refine g2_ ?_ | (refine zd ?_ ?_ <;> intro hb <;> try exact no_) | (refine sx_ ?_ <;> intro bb) | (refine su_ ?_ <;> intro u hu1 hu2) | fail)
  exact ⟨_,[],rs_,List.nil_sublist _,Sub.eq (congrArg B (decide_eq_true i2).symm),rfl⟩
end
end Go.Proofs.YtgfmjmfphmjdkaaGreatDoor
