/- Several texts in one: see the comment ahead of each. No condition. -/
import Derived.Test.YtgfmjmfphmjdkaaGreatDoorR1ZW
import Derived.Test.YtgfmjmfphmjdkaaGreatDoorR1ZB
set_option linter.unusedSimpArgs false
set_option linter.unusedVariables false
set_option linter.unusedSectionVars false
namespace Go.Proofs.YtgfmjmfphmjdkaaGreatDoor
set_option maxHeartbeats 4000000
section
open Go Go.RowKit
set_option maxRecDepth 100000
abbrev Cmd:=Int × Int × Int × Int
def ws : Ty Cmd:={ enc:=fun c=>[.int .i64 c.1,.int .i64 c.2.1,.int .i64 c.2.2.1,.int .i32 c.2.2.2],k:=4,len:=fun _=>rfl }
def vi (c : Cmd) : AV:=z0 [I c.1,I c.2.1,I c.2.2.1,R c.2.2.2]
theorem zik : Tryz.prog.underlying 35 = some (.struct #[{ name := "Kind",type:=3,offset:=0,embedded:=false,tag := "",pkgPath := "",byteOffset:=0 },{ name := "A",type:=3,offset:=1,embedded:=false,tag := "",pkgPath := "",byteOffset:=8 },{ name := "B",type:=3,offset:=2,embedded:=false,tag := "",pkgPath := "",byteOffset:=16 },{ name := "R",type:=21,offset:=3,embedded:=false,tag := "",pkgPath := "",byteOffset:=24 }]):=Tryz.underlying35
instance qgc : StC 35 [I 0,I 0,I 0,R 0] [(0,1),(1,1),(2,1),(3,1)]:=⟨StT.mk' _ [.int .i64 0,.int .i64 0,.int .i64 0,.int .i32 0] zik (by kernel_rfl) (by kernel_rfl)⟩
instance qe5 : FldC 35 0 0 3:=⟨_,_,zik,rfl,rfl,rfl⟩
instance qe4 : FldC 35 1 1 3:=⟨_,_,zik,rfl,rfl,rfl⟩
instance qe3 : FldC 35 2 2 3:=⟨_,_,zik,rfl,rfl,rfl⟩
instance qe2 : FldC 35 3 3 21:=⟨_,_,zik,rfl,rfl,rfl⟩
instance qg2 : AggC 35 true:=⟨ku (by kernel_rfl)⟩
instance qf5 : SzC 35 4:=⟨xc (by kernel_rfl)⟩
instance qgg : SpC 35:=⟨jo (n:=3) (by kernel_rfl)⟩
instance qgx : AlC 35 (.agg #[.int .i64 0,.int .i64 0,.int .i64 0,.int .i32 0]) [.int .i64 0,.int .i64 0,.int .i64 0,.int .i32 0] [I 0,I 0,I 0,R 0]:=⟨by kernel_rfl,rfl,rfl⟩
theorem z3d : El Tryz.prog ws 35 (0,0,0,0) 32 vi:=⟨⟨.agg #[.int .i64 0,.int .i64 0,.int .i64 0,.int .i32 0],by kernel_rfl,rfl⟩,by decide,fun x v hv=>by simp [ws] at hv; rcases hv with rfl | rfl | rfl | rfl <;> rfl,.inl ⟨ku (by kernel_rfl),fun x=>rfl⟩⟩
instance qgu : ElC 35 ws (0,0,0,0) 32 vi:=⟨z3d⟩
theorem zup : Tryz.prog.underlying 45 = some (.slice 35):=Tryz.underlying45
instance qd6 : UnC 45 (.slice 35):=⟨zup⟩
instance qfs : AggC 45 false:=⟨yt (by kernel_rfl)⟩
instance qee : SzC 45 1:=⟨xc (by kernel_rfl)⟩
instance qfz : UnC 9 .string:=⟨Tryz.underlying9⟩
instance qf3 : SzC 9 1:=⟨xc (by kernel_rfl)⟩
theorem z8r : (Tryz.prog.fieldsOf 35).toList = [{ name := "Kind",type:=3,offset:=0,embedded:=false,tag := "",pkgPath := "",byteOffset:=0 },{ name := "A",type:=3,offset:=1,embedded:=false,tag := "",pkgPath := "",byteOffset:=8 },{ name := "B",type:=3,offset:=2,embedded:=false,tag := "",pkgPath := "",byteOffset:=16 },{ name := "R",type:=21,offset:=3,embedded:=false,tag := "",pkgPath := "",byteOffset:=24 }]:=by kernel_rfl
theorem zim (d : Nat) (a b : Cmd) (w : World) : (Op.equalIn (d + 2) 35 (.agg #[.int .i64 a.1,.int .i64 a.2.1,.int .i64 a.2.2.1,.int .i32 a.2.2.2]) (.agg #[.int .i64 b.1,.int .i64 b.2.1,.int .i64 b.2.2.1,.int .i32 b.2.2.2])).run Tryz.prog w = .ok (decide (a = b)) w:=by
 rw [run_equalIn_agg _ _ _ _ _ (by kernel_rfl) (by kernel_rfl),z8r]
 obtain ⟨a1,a2,a3,a4⟩:=a
 obtain ⟨b1,b2,b3,b4⟩:=b
 simp [Op.eqFields,part,ya,zqh,z3b,zxs]
 by_cases h1 : a1 = b1 <;> by_cases h2 : a2 = b2 <;> by_cases h3 : a3 = b3 <;> by_cases h4 : a4 = b4 <;> simp [h1,h2,h3,h4]
theorem zxr (op : BinOp) (x y : Operand) (xs ys : Array Value) (w : World) : (eqGuard op 35 x y (.agg xs) (.agg ys)).run Tryz.prog w = .ok () w:=run_eqGuard_agg w op _ x y xs ys (by kernel_rfl)
theorem z9b {a1 a2 a3 a4 b1 b2 b3 b4 : Int} : EqK Tryz.prog 35 (z0 [I a1,I a2,I a3,R a4]) (z0 [I b1,I b2,I b3,R b4]) (decide (((a1,a2,a3,a4) : Cmd) = (b1,b2,b3,b4))):=fun T0 fr M ops o x y t' hx hy=>by
 have key : ∀ (G : Gh) (a : Act),Gh.le T0 G → frOn G (reads ops o) fr a.tmps → (∀ z,z = x ∨ z = y → z ∈ o.op.operands) → a.eval x = .agg #[.int .i64 a1,.int .i64 a2,.int .i64 a3,.int .i32 a4] ∧ a.eval y = .agg #[.int .i64 b1,.int .i64 b2,.int .i64 b3,.int .i32 b4]:=fun G a ht hf hm=>by
  obtain ⟨us,h1,r1⟩:=(hx.use (o:=o) (ops:=ops) (hm x (.inl rfl)) ht hf).agg
  obtain ⟨vs,h2,r2⟩:=(hy.use (o:=o) (ops:=ops) (hm y (.inr rfl)) ht hf).agg
  obtain rfl:=xz (zs:=[.int .i64 a1,.int .i64 a2,.int .i64 a3,.int .i32 a4]) r1
  obtain rfl:=xz (zs:=[.int .i64 b1,.int .i64 b2,.int .i64 b3,.int .i32 b4]) r2
  exact ⟨h1,h2⟩
 refine ⟨fun ho=>xl fun w0 G F a w hs hf => ?_,fun ho=>xl fun w0 G F a w hs hf => ?_⟩
 ·obtain ⟨h1,h2⟩:=key G a hs.tab hf fun z hz=>by rcases hz with rfl | rfl <;> simp [ho,Op.operands]
  have h3:=zim 9998 (a1,a2,a3,a4) (b1,b2,b3,b4) w
  exact ⟨_,by simp only [execOp,ho,h1,h2,Sem.run_bind,zxr,Result.andThen_ok,run_eql_struct,h3,Sem.run_pure],Rep.va _ _⟩
 ·obtain ⟨h1,h2⟩:=key G a hs.tab hf fun z hz=>by rcases hz with rfl | rfl <;> simp [ho,Op.operands]
  have h3:=zim 9998 (a1,a2,a3,a4) (b1,b2,b3,b4) w
  exact ⟨_,by simp only [execOp,ho,h1,h2,Sem.run_bind,zxr,Result.andThen_ok,run_neq_struct,h3,Sem.run_pure],Rep.va _ _⟩
def z9 (c : Cmd) : Bool :=
 if c.1 = 1 then xq c.2.2.2 && decide (c.2.1 = 0) && decide (c.2.2.1 = 0)
 else decide (c.2.2.2 = 0) && (if c.1 = 2 then decide (0 ≤ c.2.1) && decide (c.2.1 ≤ 23) && decide (0 ≤ c.2.2.1) && decide (c.2.2.1 ≤ 79)
  else decide (c.2.2.1 = 0) && (if 3 ≤ c.1 ∧ c.1 ≤ 6 then decide (1 ≤ c.2.1) && decide (c.2.1 ≤ 80) else decide (7 ≤ c.1) && decide (c.1 ≤ 12) && decide (c.2.1 = 0)))
def w7 (n : Nat) : List UInt8:=if n < 10 then [UInt8.ofNat (48 + n)] else [UInt8.ofNat (48 + n / 10),UInt8.ofNat (48 + n % 10)]
def zib (k : Int) : List UInt8:=if k = 7 then [27,91,75] else if k = 8 then [27,91,74] else if k = 9 then [13] else if k = 10 then [10] else if k = 11 then [8] else [7]
def xy (c : Cmd) : List UInt8 :=
 if c.1 = 1 then z1u c.2.2.2 else if c.1 = 2 then [27,91] ++ w7 (c.2.1 + 1).toNat ++ [59] ++ w7 (c.2.2.1 + 1).toNat ++ [72]
 else if c.1 ≤ 6 then [27,91] ++ (if c.2.1 = 1 then [] else w7 c.2.1.toNat) ++ [UInt8.ofNat (62 + c.1).toNat] else zib c.1
def xm (c : Cmd) : List UInt8 × Int:=if z9 c = true then (xy c,0) else ([],1)
theorem wv (n : Nat) : 1 ≤ (w7 n).length ∧ (w7 n).length ≤ 2:=by unfold w7; split <;> simp
theorem zwj (k : Int) : 1 ≤ (zib k).length ∧ (zib k).length ≤ 3:=by unfold zib; (repeat' split) <;> simp
def zkn (r : Int) : List UInt8 :=
 if r < 128 then [UInt8.ofNat r.toNat] else if r < 2048 then [UInt8.ofNat (192 + r.toNat / 64),UInt8.ofNat (128 + r.toNat % 64)]
 else if r < 65536 then [UInt8.ofNat (224 + r.toNat / 4096),UInt8.ofNat (128 + r.toNat / 64 % 64),UInt8.ofNat (128 + r.toNat % 64)]
 else [UInt8.ofNat (240 + r.toNat / 262144),UInt8.ofNat (128 + r.toNat / 4096 % 64),UInt8.ofNat (128 + r.toNat / 64 % 64),UInt8.ofNat (128 + r.toNat % 64)]
theorem zhj {r : Int} (h : isG r = true) : z1u r = zkn r:=by
 have h0 : 0 ≤ r:=by simp [isG] at h; omega
 have hv : Utf8.valid r = true:=by simp [isG] at h; simp [Utf8.valid]; omega
 unfold z1u Utf8.encode zkn
 simp only [hv,if_true]
 by_cases h1 : r < 128
 ·rw [if_pos (by omega),if_pos h1]
 ·rw [if_neg (by omega),if_neg h1]
  by_cases h2 : r < 2048
  ·rw [if_pos (by omega),if_pos h2]
  ·rw [if_neg (by omega),if_neg h2]
   by_cases h3 : r < 65536
   ·rw [if_pos (by omega),if_pos h3]
   ·rw [if_neg (by omega),if_neg h3]
theorem zrg (r : Int) : 1 ≤ (zkn r).length ∧ (zkn r).length ≤ 4:=by
 unfold zkn; (repeat' split) <;> simp
theorem zal {r : Int} (h : xq r = true) : isG r = true:=by
 simp only [xq,Bool.and_eq_true] at h; exact h.1.1
theorem zba {c : Cmd} (h : z9 c = true) : 1 ≤ (xy c).length ∧ (xy c).length ≤ 8:=by
 unfold xy
 by_cases h1 : c.1 = 1
 ·rw [if_pos h1]
  have : isG c.2.2.2 = true:=zal (by unfold z9 at h; rw [if_pos h1] at h; simp only [Bool.and_eq_true] at h; exact h.1.1)
  rw [zhj this]
  have:=zrg c.2.2.2; omega
 ·rw [if_neg h1]
  by_cases h2 : c.1 = 2
  ·rw [if_pos h2]
   have a:=wv (c.2.1 + 1).toNat
   have b:=wv (c.2.2.1 + 1).toNat
   simp only [List.length_append,List.length_cons,List.length_nil]; omega
  ·rw [if_neg h2]
   split
   ·have a:=wv c.2.1.toNat
    simp only [List.length_append,List.length_cons,List.length_nil]
    split <;> simp <;> omega
   ·have:=zwj c.1; omega
end
section
open Go Go.RowKit
variable {T0 : Gh}
set_option maxRecDepth 100000
theorem z1v : El Tryz.prog u8T 5 0 1 UB:=⟨⟨.int .u8 0,by kernel_rfl,rfl⟩,by decide,fun x v hv=>by simp [u8T] at hv; subst hv; rfl,.inr ⟨yt (by kernel_rfl),rfl,fun x v h=>by simp [u8T] at h; rw [← h]⟩⟩
instance qfy : UnC 186 (.slice 5):=⟨Tryz.underlying186⟩
section
variable {T0 : Gh} {N : Fz} {Q : kw} {fr : Fr} {M M' : List Own} {ops : Array Oper} {o : Oper} {rest : List Oper} {x0 : Nat}
theorem zh5 {n : Int} (h0 : 0 ≤ n) (h1 : n < 256) : (vA (.int .u8 n) : AV) = UB (UInt8.ofNat n.toNat):=by
 have : ((UInt8.ofNat n.toNat).toNat : Int) = n:=by simp; omega
 rw [UB,this]
theorem zmr {t : TypeId} {x : Operand} {a : Int} (ho : o.op = .buildSlice t 1 #[(0,x)]) (hu : Tryz.prog.underlying t = some (.slice 5)) (hx : Opd T0 fr x (vA (.int .u8 a))) (h0 : 0 ≤ a ∧ a < 256) : AY Tryz.prog T0 ops o fr M (slA u8T [UInt8.ofNat a.toNat]):=by
 rw [zh5 h0.1 h0.2] at hx
 exact AY.sub (zr (T:=u8T) [_] ho hu z1v rfl (by decide) ⟨_,pk hx (zts rfl) rfl (.here zsd) zbk,rfl⟩) qw
theorem ztt {t : TypeId} {x y : Operand} {a b : Int} (ho : o.op = .buildSlice t 2 #[(0,x),(1,y)]) (hu : Tryz.prog.underlying t = some (.slice 5)) (hx : Opd T0 fr x (vA (.int .u8 a))) (hy : Opd T0 fr y (vA (.int .u8 b))) (h0 : (0 ≤ a ∧ a < 256) ∧ 0 ≤ b ∧ b < 256) : AY Tryz.prog T0 ops o fr M (slA u8T [UInt8.ofNat a.toNat,UInt8.ofNat b.toNat]):=by
 rw [zh5 h0.1.1 h0.1.2] at hx
 rw [zh5 h0.2.1 h0.2.2] at hy
 exact AY.sub (zr (T:=u8T) [_,_] ho hu z1v rfl (by decide) ⟨_,pk hx (zts rfl) rfl (.here zsd) (pk hy (zts rfl) rfl (.next (.here zsd)) zbk),rfl⟩) qw
theorem z12 {t : TypeId} {x y z : Operand} {a b c : Int} (ho : o.op = .buildSlice t 3 #[(0,x),(1,y),(2,z)]) (hu : Tryz.prog.underlying t = some (.slice 5)) (hx : Opd T0 fr x (vA (.int .u8 a))) (hy : Opd T0 fr y (vA (.int .u8 b))) (hz : Opd T0 fr z (vA (.int .u8 c))) (h0 : (0 ≤ a ∧ a < 256) ∧ (0 ≤ b ∧ b < 256) ∧ 0 ≤ c ∧ c < 256) : AY Tryz.prog T0 ops o fr M (slA u8T [UInt8.ofNat a.toNat,UInt8.ofNat b.toNat,UInt8.ofNat c.toNat]):=by
 rw [zh5 h0.1.1 h0.1.2] at hx
 rw [zh5 h0.2.1.1 h0.2.1.2] at hy
 rw [zh5 h0.2.2.1 h0.2.2.2] at hz
 exact AY.sub (zr (T:=u8T) [_,_,_] ho hu z1v rfl (by decide) ⟨_,pk hx (zts rfl) rfl (.here zsd) (pk hy (zts rfl) rfl (.next (.here zsd)) (pk hz (zts rfl) rfl (.next (.next (.here zsd))) zbk)),rfl⟩) qw
theorem z11 {t : TypeId} {x y z v : Operand} {a b c d : Int} (ho : o.op = .buildSlice t 4 #[(0,x),(1,y),(2,z),(3,v)]) (hu : Tryz.prog.underlying t = some (.slice 5)) (hx : Opd T0 fr x (vA (.int .u8 a))) (hy : Opd T0 fr y (vA (.int .u8 b))) (hz : Opd T0 fr z (vA (.int .u8 c))) (hv : Opd T0 fr v (vA (.int .u8 d))) (h0 : (0 ≤ a ∧ a < 256) ∧ (0 ≤ b ∧ b < 256) ∧ (0 ≤ c ∧ c < 256) ∧ 0 ≤ d ∧ d < 256) : AY Tryz.prog T0 ops o fr M (slA u8T [UInt8.ofNat a.toNat,UInt8.ofNat b.toNat,UInt8.ofNat c.toNat,UInt8.ofNat d.toNat]):=by
 rw [zh5 h0.1.1 h0.1.2] at hx
 rw [zh5 h0.2.1.1 h0.2.1.2] at hy
 rw [zh5 h0.2.2.1.1 h0.2.2.1.2] at hz
 rw [zh5 h0.2.2.2.1 h0.2.2.2.2] at hv
 exact AY.sub (zr (T:=u8T) [_,_,_,_] ho hu z1v rfl (by decide) ⟨_,pk hx (zts rfl) rfl (.here zsd) (pk hy (zts rfl) rfl (.next (.here zsd)) (pk hz (zts rfl) rfl (.next (.next (.here zsd))) (pk hv (zts rfl) rfl (.next (.next (.next (.here zsd)))) zbk))),rfl⟩) qw
end
attribute [local irreducible] z_ zg AW AL AO QY qd zx rsA Opd xi vA gvA zt z0 slA jc ipA rpA EqK LnK IxK LdK FaK FdK
def zr5 (x : List UInt8 × Int) : AV:=zt [SA x.1,I x.2]
def z2q (r : Int) : List UInt8 × Int:=if isG r = true then (z1u r,0) else ([],1)
theorem ztk (r : Int) : AP Tryz.prog T0 171 [R r] (zr5 (z2q r)):=by
 refine za Tryz.func171 rfl (by decide) Tryz.ntmps171 rfl ?_
 repeat' (first
 |refine qa0 ?_ | (refine zb ?_ ?_ <;> intro hb <;> try exact no_) | (refine sx_ ?_ <;> intro bb) | (refine su_ ?_ <;> intro u hu1 hu2) | fail)
 ·exact ⟨_,[],rs_,List.nil_sublist _,Sub.eq (by rw [z2q,if_neg (by rw [hb]; decide)]; rfl),rfl⟩
 ·exact ⟨_,[],rs_,List.nil_sublist _,Sub.eq (by rw [z2q,if_pos hb]; rfl),rfl⟩
theorem zs_ (r : Int) : AP Tryz.prog T0 179 [R r] (zr5 (z2q r)):=by
 by_cases h : isG r = true
 ·have h2 : 0 ≤ r ∧ r ≤ 1114111:=by simp [isG] at h; omega
  obtain ⟨n,rfl⟩:=Int.eq_ofNat_of_zero_le h2.1
  refine za Tryz.func179 rfl (by decide) Tryz.ntmps179 rfl ?_
  repeat' (first
  |refine qa0 ?_ | (refine zb ?_ ?_ <;> intro hb <;> try exact no_) | (refine sx_ ?_ <;> intro bb) | (refine su_ ?_ <;> intro u hu1 hu2) | fail)
  all_goals first | (exfalso; rw [h] at hb; cases hb) | skip
  all_goals refine ⟨_,[],rs_,List.nil_sublist _,Sub.eq ?_,rfl⟩
  all_goals simp only [z2q,if_pos h,zr5,zhj h,zkn,Int.toNat_natCast]
  all_goals (repeat (first | rw [if_pos (by omega)] | rw [if_neg (by omega)]))
 ·have h' : isG r = false:=by simpa using h
  have c1 : AP Tryz.prog T0 188 [R r] (B false):=h' ▸ zao r
  refine za Tryz.func179 rfl (by decide) Tryz.ntmps179 rfl ?_
  repeat' (first
  |refine qa0 ?_ | (refine zb ?_ ?_ <;> intro hb <;> try exact no_) | (refine sx_ ?_ <;> intro bb) | (refine su_ ?_ <;> intro u hu1 hu2) | fail)
  exact ⟨_,[],rs_,List.nil_sublist _,Sub.eq (by rw [z2q,if_neg h]; rfl),rfl⟩
theorem js (c : Cmd) : AP Tryz.prog T0 130 [vi c] (B (z9 c)):=by
 obtain ⟨k,a,b,r⟩:=c
 show AP Tryz.prog T0 _ [z0 [I k,I a,I b,R r]] _
 refine za Tryz.func130 rfl (by decide) Tryz.ntmps130 rfl ?_
 repeat' (first
 |refine qb7 ?_ | (refine zb ?_ ?_ <;> intro hb <;> try exact no_) | (refine sx_ ?_ <;> intro bb) | (refine su_ ?_ <;> intro u hu1 hu2) | fail)
 all_goals refine ⟨_,[],rs_,List.nil_sublist _,Sub.eq (congrArg B ?_),rfl⟩
 all_goals simp only [z9]
 all_goals (cases hs : xq r <;> simp [*] <;> (try rw [if_neg (by omega)]) <;> (try (rw [Bool.eq_iff_iff]; simp <;> omega)))
theorem wt (c : Cmd) : AP Tryz.prog T0 65 [vi c] (B (z9 c)):=by
 obtain ⟨k,a,b,r⟩:=c
 show AP Tryz.prog T0 _ [z0 [I k,I a,I b,R r]] _
 refine za Tryz.func65 rfl (by decide) Tryz.ntmps65 rfl ?_
 repeat' (first
 |(apply qa; (case hn=>rfl); (case hm=>kernel_rfl)) | refine zc3 ?_ | (apply jk; (case hL=>rfl); (case hne=>rfl)) | exact jm | apply xh | (apply zdf; (case ho=>rfl)) | (apply xf; exact vn) | (apply jh; (case h=>exact zcb); (case hk=>exact wk_); (case hc=>rfl)) | refine qb7 ?_ | (refine zb ?_ ?_ <;> intro hb <;> try exact no_) | (refine sx_ ?_ <;> intro bb) | (refine su_ ?_ <;> intro u hu1 hu2) | fail)
 all_goals refine ⟨_,[],rs_,List.nil_sublist _,Sub.eq (congrArg B ?_),rfl⟩
 all_goals simp only [z9]
 all_goals (cases hs : xq r <;> simp [*] <;> (try rw [if_neg (by omega)]) <;> (try (rw [Bool.eq_iff_iff]; simp <;> omega)))
theorem z5s (n : Nat) (h : n < 100) : AP Tryz.prog T0 204 [I n] (SA (w7 n)):=by
 refine za Tryz.func204 rfl (by decide) Tryz.ntmps204 rfl ?_
 repeat' (first
 |refine sa_ ?_ | refine xr ?_ (hy:=by first | (apply zbb rfl un_; exact oo_; exact lo_; exact hi_; exact le_; (show _ ≤ 200; omega)) | fail) | refine x5 ?_ | refine qc ?_ (hy:=by intro hk hk2; first | (apply zbb rfl un_; exact oo_; exact lo_; exact hi_; exact le_; (show _ ≤ 200; omega)) | fail) | refine sw_ ?_ | (refine zb ?_ ?_ <;> intro hb <;> try exact no_) | (refine sx_ ?_ <;> intro bb) | (refine su_ ?_ <;> intro u hu1 hu2) | fail)
 ·refine ⟨_,[],rs_,List.nil_sublist _,Sub.eq (congrArg (fun l : List UInt8=>SA l) ?_),rfl⟩
  have hb2 : n < 10:=by omega
  clear hb h
  revert hb2; revert n; decide +kernel
 ·refine ⟨_,[],rs_,List.nil_sublist _,Sub.eq (congrArg (fun l : List UInt8=>SA l) ?_),rfl⟩
  have hb2 : ¬ n < 10:=by omega
  clear hb
  revert hb2; revert h; revert n; decide +kernel
theorem zo2 (n : Nat) (h : n < 100) : AP Tryz.prog T0 198 [I n,I 10] (SA (w7 n)):=by
 have c1:=z5s (T0:=T0) n h
 refine za Tryz.func198 rfl (by decide) Tryz.ntmps198 rfl ?_
 repeat' (first
 |refine zl5 ?_ | (refine zb ?_ ?_ <;> intro hb <;> try exact no_) | (refine sx_ ?_ <;> intro bb) | (refine su_ ?_ <;> intro u hu1 hu2) | fail)
 exact ⟨_,[],rs_,List.nil_sublist _,Sub.refl _,rfl⟩
theorem z54 (n : Nat) (h : n < 100) : AP Tryz.prog T0 189 [I n] (SA (w7 n)):=by
 have c1:=zo2 (T0:=T0) n h
 refine za Tryz.func189 rfl (by decide) Tryz.ntmps189 rfl ?_
 repeat' (first
 |refine zl5 ?_ | (refine zb ?_ ?_ <;> intro hb <;> try exact no_) | (refine sx_ ?_ <;> intro bb) | (refine su_ ?_ <;> intro u hu1 hu2) | fail)
 exact ⟨_,[],rs_,List.nil_sublist _,Sub.refl _,rfl⟩
theorem zre (n : Nat) (h : n < 100) : AP Tryz.prog T0 172 [I n] (SA (w7 n)):=by
 have c1:=z54 (T0:=T0) n h
 refine za Tryz.func172 rfl (by decide) Tryz.ntmps172 rfl ?_
 repeat' (first
 |refine zl5 ?_ | (refine zb ?_ ?_ <;> intro hb <;> try exact no_) | (refine sx_ ?_ <;> intro bb) | (refine su_ ?_ <;> intro u hu1 hu2) | fail)
 exact ⟨_,[],rs_,List.nil_sublist _,Sub.refl _,rfl⟩
theorem zfs (n : Nat) (h : n < 100) : AP Tryz.prog T0 180 [I n] (SA (w7 n)):=by
 have c1 : True:=trivial
 refine za Tryz.func180 rfl (by decide) Tryz.ntmps180 rfl ?_
 repeat' (first
 |refine sa_ ?_ | refine zw ?_ (c:=by first | exact c1 | fail) | refine xr ?_ (hy:=by first | (apply zmr rfl un_; exact oo_; omega) | (apply ztt rfl un_; exact oo_; exact oo_; omega) | fail) | refine x5 ?_ | refine zk ?_ (c:=by intro hk hk2; first | exact c1 | fail) | refine qc ?_ (hy:=by intro hk hk2; first | (apply zmr rfl un_; exact oo_; omega) | (apply ztt rfl un_; exact oo_; exact oo_; omega) | fail) | refine sw_ ?_ | (refine zb ?_ ?_ <;> intro hb <;> try exact no_) | (refine sx_ ?_ <;> intro bb) | (refine su_ ?_ <;> intro u hu1 hu2) | fail)
 all_goals refine ⟨_,[],rs_,List.nil_sublist _,Sub.eq ?_,rfl⟩
 all_goals simp only [w7,Int.toNat_natCast]
 all_goals (repeat (first | rw [if_pos (by omega)] | rw [if_neg (by omega)]))
end
section
open Go Go.RowKit
variable {T0 : Gh}
set_option maxRecDepth 100000
def zmp : Operand → Option Value
 |.const v=>some v
 |_=>none
section
variable {P : Program} {T0 : Gh} {N : Fz} {Q : kw} {fr : Fr} {M M' : List Own} {ops : Array Oper} {o : Oper} {rest : List Oper} {x0 : Nat}
theorem zi9 (a : Act) : ∀ (l : List (Nat × Operand)) (vs : List (Nat × Value)),l.mapM (fun p=>(zmp p.2).map fun v=>(p.1,v)) = some vs → l.map (fun p=>(p.1,a.eval p.2)) = vs
 |[],vs,h=>by simp at h; subst h; rfl
 |(i,x) :: l,vs,h=>by
  simp only [List.mapM_cons,Option.bind_eq_bind,Option.pure_def] at h
  cases hx : zmp x with
  |none=>simp [hx] at h
  |some v =>
   cases hl : l.mapM (fun p=>(zmp p.2).map fun v=>(p.1,v)) with
   |none=>simp [hx,hl] at h
   |some r =>
    simp [hx,hl] at h
    subst h
    have hv : a.eval x = v:=by
     cases x <;> simp [zmp] at hx
     subst hx; rfl
    rw [List.map_cons,zi9 a l r hl,hv]
theorem zbn {t : TypeId} {parts : Array (Nat × Operand)} {vs : List (Nat × Value)} {cs : List Value} (ho : o.op = .build t parts) (hv : parts.toList.mapM (fun p=>(zmp p.2).map fun v=>(p.1,v)) = some vs) (hb : P.built t vs = some cs.toArray) : AY P T0 ops o fr M (z0 (cs.map vA)):=xl fun w0 G F a w hs hf=>by
 have h1:=zi9 a _ _ hv
 have h2 : (parts.map fun (i,x)=>(i,a.eval x)).toList = vs:=by rw [← h1]; simp
 have h3:=run_build (P:=P) w t (parts.map fun (i,x)=>(i,a.eval x)) cs.toArray (by rw [h2]; exact hb)
 refine ⟨.agg cs.toArray, ?_,.of ⟨cs,rfl,wj _ _⟩⟩
 simp [execOp,ho,h3]
theorem zdd {x y : Operand} {t e : TypeId} {n k' m b of2 : Nat} {k : IntKind} (ho : o.op = .indexAddr t x y) (hu : P.underlying t = some (.array n e)) (hz : ∀ w,(sizeOf e).run P w = .ok k' w) (hx : Opd T0 fr x (vA (.pointer (some ⟨b,of2,none⟩)))) (hy : xi T0 fr y k m) (hm : m < n) : AY P T0 ops o fr M (vA (.pointer (some ⟨b,of2 + m * k',none⟩))):=xl fun w0 G F a w hs hf=>by
 have h1:=(hx.use (o:=o) (ops:=ops) (by simp [ho,Op.operands]) hs.tab hf).eq
 have h4:=((show Opd T0 fr y (vA (.int k (m : Int))) from hy).use (o:=o) (ops:=ops) (by simp [ho,Op.operands]) hs.tab hf).eq
 refine ⟨.pointer (some ⟨b,of2 + m * k',none⟩), ?_,Rep.va _ _⟩
 have hr : (m : Int) < (n : Int):=by omega
 simp only [execOp,ho,h1,h4]
 simp [Instr.indexAt,asIntOf,run_underlying hu,hz,hm,Instr.sureAddr,Addr.add_lit]
end
instance qf0 : UnC 202 (.array 6 9):=⟨Tryz.underlying202⟩
instance qf8 : SzC 202 6:=⟨xc (by kernel_rfl)⟩
instance qg0 : AlC 202 (.agg #[.string ⟨#[]⟩,.string ⟨#[]⟩,.string ⟨#[]⟩,.string ⟨#[]⟩,.string ⟨#[]⟩,.string ⟨#[]⟩]) [.string ⟨#[]⟩,.string ⟨#[]⟩,.string ⟨#[]⟩,.string ⟨#[]⟩,.string ⟨#[]⟩,.string ⟨#[]⟩] [SA [],SA [],SA [],SA [],SA [],SA []]:=⟨by kernel_rfl,rfl,rfl⟩
theorem zg3 : Tryz.prog.built 202 [(0,.string ⟨#[27,91,75]⟩),(1,.string ⟨#[27,91,74]⟩),(2,.string ⟨#[13]⟩),(3,.string ⟨#[10]⟩),(4,.string ⟨#[8]⟩),(5,.string ⟨#[7]⟩)] = some [Value.string ⟨#[27,91,75]⟩,.string ⟨#[27,91,74]⟩,.string ⟨#[13]⟩,.string ⟨#[10]⟩,.string ⟨#[8]⟩,.string ⟨#[7]⟩].toArray:=by kernel_rfl
attribute [local irreducible] z_ zg AW AL AO QY qd zx rsA Opd xi vA gvA zt z0 slA jc ipA rpA EqK LnK IxK LdK FaK FdK
theorem z8y (k : Int) (h : 7 ≤ k ∧ k ≤ 12) : AP Tryz.prog T0 173 [I k] (SA (zib k)):=by
 have h2 : k = 7 ∨ k = 8 ∨ k = 9 ∨ k = 10 ∨ k = 11 ∨ k = 12:=by omega
 rcases h2 with rfl | rfl | rfl | rfl | rfl | rfl
 all_goals clear h
 all_goals refine za Tryz.func173 rfl (by decide) Tryz.ntmps173 rfl ?_
 all_goals
  repeat' (first
  |refine sa_ ?_ | refine xr ?_ (hy:=by first | (apply zdd rfl un_ sz_; exact oo_; exact on_; exact lt_; done) | exact zbn rfl rfl zg3 | fail) | refine x5 ?_ | refine qc ?_ (hy:=by intro hk hk2; first | (apply zdd rfl un_ sz_; exact oo_; exact on_; exact lt_; done) | exact zbn rfl rfl zg3 | fail) | refine sw_ ?_ | (refine zb ?_ ?_ <;> intro hb <;> try exact no_) | (refine sx_ ?_ <;> intro bb) | (refine su_ ?_ <;> intro u hu1 hu2) | fail)
 all_goals exact ⟨_,[],rs_,List.nil_sublist _,Sub.eq (congrArg (fun l : List UInt8=>SA l) (by decide)),rfl⟩
theorem zgx {k a b r : Int} (h : z9 (k,a,b,r) = true) : (k = 1 ∧ xq r = true) ∨ (k = 2 ∧ 0 ≤ a ∧ a ≤ 23 ∧ 0 ≤ b ∧ b ≤ 79) ∨ ((3 ≤ k ∧ k ≤ 6) ∧ 1 ≤ a ∧ a ≤ 80) ∨ (7 ≤ k ∧ k ≤ 12):=by
 simp only [z9] at h
 by_cases h1 : k = 1
 ·simp [h1] at h; exact .inl ⟨h1,h.1.1⟩
 ·by_cases h2 : k = 2
  ·simp [h2] at h; omega
  ·by_cases h3 : 3 ≤ k ∧ k ≤ 6
   ·simp [h1,h2,h3] at h; omega
   ·rw [if_neg h1,if_neg h2,if_neg h3] at h; simp at h; omega
theorem zwv (c : Cmd) : AP Tryz.prog T0 136 [vi c] (zr5 (xm c)):=by
 obtain ⟨k,a,b,r⟩:=c
 show AP Tryz.prog T0 _ [z0 [I k,I a,I b,R r]] _
 by_cases hc : z9 (k,a,b,r) = true
 ·have c1 : AP Tryz.prog T0 65 [z0 [I k,I a,I b,R r]] (B true):=hc ▸ wt (k,a,b,r)
  rw [xm,if_pos hc]
  rcases zgx hc with ⟨rfl,hs⟩ | ⟨rfl,a1,a2,b1,b2⟩ | ⟨h3,a1,a2⟩ | h7
  ·have c2 : AP Tryz.prog T0 171 [R r] (zt [SA (z1u r),I 0]):=(ztk r).to (by rw [z2q,if_pos (zal hs)]; rfl)
   refine za Tryz.func136 rfl (by decide) Tryz.ntmps136 rfl ?_
   repeat' (first
   |refine g9_ ?_ | (refine zb ?_ ?_ <;> intro hb <;> try exact no_) | (refine sx_ ?_ <;> intro bb) | (refine su_ ?_ <;> intro u hu1 hu2) | fail)
   exact ⟨_,[],rs_,List.nil_sublist _,Sub.eq (by simp [xy,zr5]),rfl⟩
  ·have c2 : True:=trivial
   obtain ⟨a,rfl⟩:=Int.eq_ofNat_of_zero_le a1
   obtain ⟨b,rfl⟩:=Int.eq_ofNat_of_zero_le b1
   have d1:=wv (a + 1)
   have d2:=wv (b + 1)
   refine za Tryz.func136 rfl (by decide) Tryz.ntmps136 rfl ?_
   repeat' (first
   |refine g9_ ?_ | (refine zb ?_ ?_ <;> intro hb <;> try exact no_) | (refine sx_ ?_ <;> intro bb) | (refine su_ ?_ <;> intro u hu1 hu2) | fail)
   all_goals first | exact e1_ | skip
   refine ⟨_,[],rs_,List.nil_sublist _,Sub.eq ?_,rfl⟩
   simp [xy,zr5,show ((a : Int) + 1).toNat = a + 1 by omega,show ((b : Int) + 1).toNat = b + 1 by omega]
  ·have c2 : True:=trivial
   obtain ⟨a,rfl⟩:=Int.eq_ofNat_of_zero_le (show 0 ≤ a by omega)
   have d1:=wv a
   refine za Tryz.func136 rfl (by decide) Tryz.ntmps136 rfl ?_
   repeat' (first
   |refine g9_ ?_ | (refine zb ?_ ?_ <;> intro hb <;> try exact no_) | (refine sx_ ?_ <;> intro bb) | (refine su_ ?_ <;> intro u hu1 hu2) | fail)
   all_goals first | exact e1_ | skip
   all_goals refine ⟨_,[],rs_,List.nil_sublist _,Sub.eq ?_,rfl⟩
   all_goals simp only [xy,zr5,show (65 : Int) + k - 3 = 62 + k by omega]
   all_goals rw [if_neg (by omega),if_neg (by omega),if_pos (by omega)]
   ·rw [if_pos (by omega)]; rfl
   ·rw [if_neg (by omega)]; rfl
  ·have c2 : AP Tryz.prog T0 173 [I k] (SA (zib k)):=z8y k h7
   refine za Tryz.func136 rfl (by decide) Tryz.ntmps136 rfl ?_
   repeat' (first
   |refine g9_ ?_ | (refine zb ?_ ?_ <;> intro hb <;> try exact no_) | (refine sx_ ?_ <;> intro bb) | (refine su_ ?_ <;> intro u hu1 hu2) | fail)
   all_goals first | exact e1_ | skip
   refine ⟨_,[],rs_,List.nil_sublist _,Sub.eq ?_,rfl⟩
   simp only [xy,zr5]
   rw [if_neg (by omega),if_neg (by omega),if_neg (by omega)]
 ·have c1 : AP Tryz.prog T0 65 [z0 [I k,I a,I b,R r]] (B false):=by
   have:=wt (T0:=T0) (k,a,b,r)
   rw [show z9 (k,a,b,r) = false by simpa using hc] at this; exact this
  have c2 : True:=trivial
  rw [xm,if_neg hc]
  refine za Tryz.func136 rfl (by decide) Tryz.ntmps136 rfl ?_
  repeat' (first
  |refine g9_ ?_ | (refine zb ?_ ?_ <;> intro hb <;> try exact no_) | (refine sx_ ?_ <;> intro bb) | (refine su_ ?_ <;> intro u hu1 hu2) | fail)
  exact ⟨_,[],rs_,List.nil_sublist _,Sub.refl _,rfl⟩
theorem z_h (k : Nat) (h : 3 ≤ k ∧ k ≤ 6) : (([65,66,67,68] : List UInt8).drop (k - 3)).take (k - 2 - (k - 3)) = [UInt8.ofNat (62 + (k : Int)).toNat]:=by
 have : k = 3 ∨ k = 4 ∨ k = 5 ∨ k = 6:=by omega
 rcases this with rfl | rfl | rfl | rfl <;> decide
theorem zi1 (c : Cmd) : AP Tryz.prog T0 146 [vi c] (zr5 (xm c)):=by
 obtain ⟨k,a,b,r⟩:=c
 show AP Tryz.prog T0 _ [z0 [I k,I a,I b,R r]] _
 by_cases hc : z9 (k,a,b,r) = true
 ·have c1 : AP Tryz.prog T0 130 [z0 [I k,I a,I b,R r]] (B true):=hc ▸ js (k,a,b,r)
  rw [xm,if_pos hc]
  rcases zgx hc with ⟨rfl,hs⟩ | ⟨rfl,a1,a2,b1,b2⟩ | ⟨h3,a1,a2⟩ | h7
  ·have c2 : AP Tryz.prog T0 179 [R r] (zt [SA (z1u r),I 0]):=(zs_ r).to (by rw [z2q,if_pos (zal hs)]; rfl)
   refine za Tryz.func146 rfl (by decide) Tryz.ntmps146 rfl ?_
   repeat' (first
   |refine g8_ ?_ | (refine zb ?_ ?_ <;> intro hb <;> try exact no_) | (refine sx_ ?_ <;> intro bb) | (refine su_ ?_ <;> intro u hu1 hu2) | fail)
   exact ⟨_,[],rs_,List.nil_sublist _,Sub.eq (by simp [xy,zr5]),rfl⟩
  ·have c2 : True:=trivial
   obtain ⟨a,rfl⟩:=Int.eq_ofNat_of_zero_le a1
   obtain ⟨b,rfl⟩:=Int.eq_ofNat_of_zero_le b1
   have d1:=wv (a + 1)
   have d2:=wv (b + 1)
   refine za Tryz.func146 rfl (by decide) Tryz.ntmps146 rfl ?_
   repeat' (first
   |refine g8_ ?_ | (refine zb ?_ ?_ <;> intro hb <;> try exact no_) | (refine sx_ ?_ <;> intro bb) | (refine su_ ?_ <;> intro u hu1 hu2) | fail)
   all_goals first | exact e1_ | skip
   refine ⟨_,[],rs_,List.nil_sublist _,Sub.eq ?_,rfl⟩
   simp [xy,zr5,show ((a : Int) + 1).toNat = a + 1 by omega,show ((b : Int) + 1).toNat = b + 1 by omega]
  ·have c2 : True:=trivial
   obtain ⟨a,rfl⟩:=Int.eq_ofNat_of_zero_le (show 0 ≤ a by omega)
   have d1:=wv a
   have hk : k = 3 ∨ k = 4 ∨ k = 5 ∨ k = 6:=by omega
   clear h3
   rcases hk with rfl | rfl | rfl | rfl
   all_goals refine za Tryz.func146 rfl (by decide) Tryz.ntmps146 rfl ?_
   all_goals
    repeat' (first
    |refine g8_ ?_ | (refine zb ?_ ?_ <;> intro hb <;> try exact no_) | (refine sx_ ?_ <;> intro bb) | (refine su_ ?_ <;> intro u hu1 hu2) | fail)
   all_goals first | exact e1_ | skip
   all_goals refine ⟨_,[],rs_,List.nil_sublist _,Sub.eq ?_,rfl⟩
   all_goals first | rw [z_h 3 (by decide)] | rw [z_h 4 (by decide)] | rw [z_h 5 (by decide)] | rw [z_h 6 (by decide)]
   all_goals simp only [xy,zr5]
   all_goals rw [if_neg (by decide),if_neg (by decide),if_pos (by decide)]
   all_goals first | (rw [if_pos (by omega)]; rfl) | (rw [if_neg (by omega)]; rfl)
  ·have hk : k = 7 ∨ k = 8 ∨ k = 9 ∨ k = 10 ∨ k = 11 ∨ k = 12:=by omega
   clear h7
   have c2 : True:=trivial
   rcases hk with rfl | rfl | rfl | rfl | rfl | rfl
   all_goals refine za Tryz.func146 rfl (by decide) Tryz.ntmps146 rfl ?_
   all_goals
    repeat' (first
    |refine g8_ ?_ | (refine zb ?_ ?_ <;> intro hb <;> try exact no_) | (refine sx_ ?_ <;> intro bb) | (refine su_ ?_ <;> intro u hu1 hu2) | fail)
   all_goals first | exact e1_ | skip
   all_goals refine ⟨_,[],rs_,List.nil_sublist _,Sub.eq ?_,rfl⟩
   all_goals simp [xy,zr5,zib]
 ·have c1 : AP Tryz.prog T0 130 [z0 [I k,I a,I b,R r]] (B false):=by
   have:=js (T0:=T0) (k,a,b,r)
   rw [show z9 (k,a,b,r) = false by simpa using hc] at this; exact this
  have c2 : True:=trivial
  rw [xm,if_neg hc]
  refine za Tryz.func146 rfl (by decide) Tryz.ntmps146 rfl ?_
  repeat' (first
  |refine g8_ ?_ | (refine zb ?_ ?_ <;> intro hb <;> try exact no_) | (refine sx_ ?_ <;> intro bb) | (refine su_ ?_ <;> intro u hu1 hu2) | fail)
  exact ⟨_,[],rs_,List.nil_sublist _,Sub.refl _,rfl⟩
end
section
open Go Go.RowKit
variable {T0 : Gh}
set_option maxRecDepth 100000
def xk (c : Cmd) : Nat:=(xm c).1.length
def qs (l : List Cmd) : Nat:=(l.map xk).sum
def zbj (c : Cmd) : Nat:=if z9 c = true then (if c.1 = 7 then 1 else if c.1 = 8 then 2 else 0) else 0
def w_ (l : List Cmd) : Nat:=(l.map zbj).sum
theorem wo (c : Cmd) : xk c ≤ 8:=by
 unfold xk xm
 split
 ·rename_i h; exact (zba h).2
 ·exact Nat.zero_le _
theorem zvj (c : Cmd) : zbj c ≤ 2:=by unfold zbj; (repeat' split) <;> omega
theorem jy (l : List Cmd) : qs l ≤ 8 * l.length:=by
 induction l with
 |nil=>simp [qs]
 |cons c l ih=>have:=wo c; simp only [qs,List.map_cons,List.sum_cons,List.length_cons] at ih ⊢; omega
theorem zp9 (l : List Cmd) : w_ l ≤ 2 * l.length:=by
 induction l with
 |nil=>simp [w_]
 |cons c l ih=>have:=zvj c; simp only [w_,List.map_cons,List.sum_cons,List.length_cons] at ih ⊢; omega
theorem zi7 (l : List Cmd) (k : Nat) (h : k < l.length) : qs (l.take (k + 1)) = qs (l.take k) + xk l[k]:=by
 rw [qs,qs,List.take_succ_eq_append_getElem h,List.map_append,List.sum_append]; simp
theorem zir (l : List Cmd) (k : Nat) (h : k < l.length) : w_ (l.take (k + 1)) = w_ (l.take k) + zbj l[k]:=by
 rw [w_,w_,List.take_succ_eq_append_getElem h,List.map_append,List.sum_append]; simp
attribute [local irreducible] z_ zg AW AL AO QY qd zx rsA Opd xi vA gvA zt z0 slA jc ipA rpA EqK LnK IxK LdK FaK FdK
theorem za7 (l : List Cmd) (hl : l.length ≤ 100000) : AP Tryz.prog T0 109 [slA ws l] (I (qs l)):=by
 refine za Tryz.func109 rfl (by decide) Tryz.ntmps109 rfl ?_
 repeat' (first
 |refine g7_ ?_ | (refine zb ?_ ?_ <;> intro hb <;> try exact no_) | (refine sx_ ?_ <;> intro bb) | (refine su_ ?_ <;> intro u hu1 hu2) | fail)
 refine yk (fun k : Nat=>[(3,I (qs (l.take k))),(10,I k)]) (fun k=>k ≤ l.length) (fun k=>l.length - k) 0 (Nat.zero_le _) ?_
 rintro k i1
 have hle:=jy (l.take k)
 rw [List.length_take] at hle
 by_cases hlt : k < l.length
 ·have hn:=zi7 l k hlt
  have h8 : (xm l[k]).1.length ≤ 8:=wo l[k]
  repeat' (first
  |refine g7_ ?_ | (refine zb ?_ ?_ <;> intro hb <;> try exact no_) | (refine sx_ ?_ <;> intro bb) | (refine su_ ?_ <;> intro u hu1 hu2) | fail)
  exact ⟨k + 1,by omega,by omega,by rw [hn]; exact wx_,sl_⟩
 ·repeat' (first
  |refine g7_ ?_ | (refine zb ?_ ?_ <;> intro hb <;> try exact no_) | (refine sx_ ?_ <;> intro bb) | (refine su_ ?_ <;> intro u hu1 hu2) | fail)
  exact ⟨_,[],rs_,List.nil_sublist _,Sub.eq (by rw [List.take_of_length_le (by omega)]),rfl⟩
end
section
open Go Go.RowKit
variable {T0 : Gh}
set_option maxRecDepth 100000
section
variable {T0 : Gh} {N : Fz} {Q : kw} {fr : Fr} {M M' : List Own} {ops : Array Oper} {o : Oper} {rest : List Oper} {x0 : Nat}
theorem vp {t : TypeId} {x : Operand} {c : Cmd} (ho : o.op = .buildSlice t 1 #[(0,x)]) (hu : Tryz.prog.underlying t = some (.slice 35)) (hx : Opd T0 fr x (vi c)) : AY Tryz.prog T0 ops o fr M (slA ws [c]):=by
 obtain ⟨k,a,b,r⟩:=c
 exact AY.sub (zr (T:=ws) [(k,a,b,r)] ho hu z3d rfl (by decide) ⟨_,pk hx zbm rfl (.here (.here (.here (.here zsd)))) zbk,rfl⟩) qw
end
attribute [local irreducible] z_ zg AW AL AO QY qd zx rsA Opd xi vA gvA zt z0 slA jc ipA rpA EqK LnK IxK LdK FaK FdK
theorem zmh {l m : List Cmd} {k : Nat} (h1 : k < l.length) (h2 : k < m.length) : l.take (k + 1) = m.take (k + 1) ↔ l.take k = m.take k ∧ l[k] = m[k]:=by
 rw [List.take_succ_eq_append_getElem h1,List.take_succ_eq_append_getElem h2]
 constructor
 ·intro h
  have:=List.append_inj h (by simp; omega)
  exact ⟨this.1,by simpa using this.2⟩
 ·rintro ⟨a,b⟩; rw [a,b]
theorem zg_ (l m : List Cmd) (hl : l.length ≤ 90000) (hm : m.length ≤ 90000) : AP Tryz.prog T0 128 [slA ws l,slA ws m] (B (decide (l = m))):=by
 refine za Tryz.func128 rfl (by decide) Tryz.ntmps128 rfl ?_
 repeat' (first
 |refine g6_ ?_ | (refine zb ?_ ?_ <;> intro hb <;> try exact no_) | (refine sx_ ?_ <;> intro bb) | (refine su_ ?_ <;> intro u hu1 hu2) | fail)
 ·refine ⟨_,[],rs_,List.nil_sublist _,Sub.eq (congrArg B (decide_eq_false ?_).symm),rfl⟩
  rintro rfl; omega
 have hlm : l.length = m.length:=by omega
 refine yk (fun k : Nat=>[(5,I k)]) (fun k=>k ≤ l.length ∧ l.take k = m.take k) (fun k=>l.length - k) 0 ⟨Nat.zero_le _,rfl⟩ ?_
 rintro k ⟨i1,i2⟩
 by_cases hlt : k < l.length
 ·have hlt2 : k < m.length:=by omega
  have he:=zmh hlt hlt2
  repeat' (first
  |refine g6_ ?_ | (refine zb ?_ ?_ <;> intro hb <;> try exact no_) | (refine sx_ ?_ <;> intro bb) | (refine su_ ?_ <;> intro u hu1 hu2) | fail)
  ·refine ⟨_,[],rs_,List.nil_sublist _,Sub.eq (congrArg B (decide_eq_false ?_).symm),rfl⟩
   rintro rfl; exact hb rfl
  ·exact ⟨k + 1,⟨by omega,he.2 ⟨i2,hb⟩⟩,by omega,wx_,sl_⟩
 ·rw [List.take_of_length_le (by omega),List.take_of_length_le (by omega)] at i2
  repeat' (first
  |refine g6_ ?_ | (refine zb ?_ ?_ <;> intro hb <;> try exact no_) | (refine sx_ ?_ <;> intro bb) | (refine su_ ?_ <;> intro u hu1 hu2) | fail)
  exact ⟨_,[],rs_,List.nil_sublist _,Sub.eq (congrArg B (decide_eq_true i2).symm),rfl⟩
end
end Go.Proofs.YtgfmjmfphmjdkaaGreatDoor
