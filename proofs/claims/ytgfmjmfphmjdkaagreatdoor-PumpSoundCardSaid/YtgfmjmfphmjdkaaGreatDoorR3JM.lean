/- Slices of things that hold slices themselves; to join a number's bits with another's. No condition. -/
import Derived.Test.YtgfmjmfphmjdkaaGreatDoorR3KR
set_option linter.unusedSimpArgs false
set_option linter.unusedVariables false
set_option linter.unusedSectionVars false
namespace Go.Proofs.YtgfmjmfphmjdkaaGreatDoor
set_option maxHeartbeats 4000000
open Go Go.RowKit
set_option maxRecDepth 100000
def zw9 (a b : Int) : Nat:=(BitVec.ofInt 64 a &&& BitVec.ofInt 64 b).toNat
theorem z5f (a : Int) (b : Nat) (hb : b ≤ 1000000) : zw9 a b ≤ b:=by
 unfold zw9
 rw [BitVec.toNat_and]
 refine Nat.le_trans Nat.and_le_right ?_
 rw [BitVec.toNat_ofInt]
 omega
def svA (k : Nat) (l : List (List AV)) : AV:=fun G u => ∃ a n cap,u = .slice a n cap ∧ n = l.length ∧ n ≤ cap ∧ cap ≤ maxLen ∧ (a = none → cap = 0) ∧
 (l ≠ [] → ∃ b off,a = some ⟨b,off,none⟩ ∧ ∀ i c,l[i]? = some c → ∃ us : List Value,us.length = k ∧ AllRep G c us ∧ ∀ j v,us[j]? = some v → G b (off + i * k + j) = some v)
def ivA (k : Nat) (c : List AV) : AV:=fun G u => ∃ b off us,u = .pointer (some ⟨b,off,none⟩) ∧ us.length = k ∧ AllRep G c us ∧ ∀ j v,us[j]? = some v → G b (off + j) = some v
theorem Rep.sv {k : Nat} {l : List (List AV)} {G : Gh} {u : Value} (h : Rep G (svA k l) u) : ∃ a n cap,u = .slice a n cap ∧ n = l.length ∧ n ≤ cap ∧ cap ≤ maxLen ∧ (a = none → cap = 0) ∧
  (l ≠ [] → ∃ b off,a = some ⟨b,off,none⟩ ∧ ∀ i c,l[i]? = some c → ∃ us : List Value,us.length = k ∧ AllRep G c us ∧ ∀ j v,us[j]? = some v → G b (off + i * k + j) = some v):=by
 obtain ⟨G0,h0,a,n,cap,e1,e2,e3,e4,e5,r⟩:=h
 refine ⟨a,n,cap,e1,e2,e3,e4,e5,fun hl => ?_⟩
 obtain ⟨b,off,e,f⟩:=r hl
 refine ⟨b,off,e,fun i c hc => ?_⟩
 obtain ⟨us,f1,f2,f3⟩:=f i c hc
 exact ⟨us,f1,f2.mono h0,fun j v hv=>h0 _ _ _ (f3 j v hv)⟩
theorem Rep.iv {k : Nat} {c : List AV} {G : Gh} {u : Value} (h : Rep G (ivA k c) u) : ∃ b off us,u = .pointer (some ⟨b,off,none⟩) ∧ us.length = k ∧ AllRep G c us ∧ ∀ j v,us[j]? = some v → G b (off + j) = some v:=by
 obtain ⟨G0,h0,b,off,us,e1,e2,e3,e4⟩:=h
 exact ⟨b,off,us,e1,e2,e3.mono h0,fun j v hv=>h0 _ _ _ (e4 j v hv)⟩
section
variable {P : Program} {T0 : Gh} {fr : Fr} {M : List Own} {ops : Array Oper} {o : Oper}
theorem zkn {t t' : TypeId} {x y : Operand} {a b : Int} (ho : o.op = .binOp .and t x y t') (hx : Opd T0 fr x (I a)) (hy : Opd T0 fr y (I b)) (hf : Fit .i64 ((zw9 a b : Nat) : Int)) : AY P T0 ops o fr M (I ((zw9 a b : Nat) : Int)) :=
 za1 ho hx hy fun w=>by
  have e : IntKind.wrap .i64 ((BitVec.ofInt 64 a &&& BitVec.ofInt 64 b).toNat : Int) = _:=hf
  simp only [binOp,Op.intBits,IntKind.bits,ne_eq,not_true_eq_false,if_false]
  show (pure (Value.int .i64 (IntKind.wrap .i64 ((BitVec.ofInt 64 a &&& BitVec.ofInt 64 b).toNat : Int))) : Sem Value).run P w = _
  rw [e]; rfl
theorem zqx {t e : TypeId} {k : Nat} {l : List (List AV)} (hu : P.underlying t = some (.slice e)) : LnK P T0 M t (svA k l) (I l.length):=fun _ ops o x ts ho ht hx=>xd fun w0 G F a w hs hf=>by
 obtain ⟨ad,n,cap,h1,h2,_⟩:=(hx.use (o:=o) (ops:=ops) (by simp [ho,Op.operands,Call.operands]) hs.tab hf).sv
 subst h2
 exact ⟨_,by simp [execOp,ho,resolve,invoke,builtin,Builtin.len_,ht,h1,run_underlying hu,goInt],Rep.va _ _⟩
theorem z68 {t e : TypeId} {k n : Nat} {l : List (List AV)} {c : List AV} (hu : P.underlying t = some (.slice e)) (hz : ∀ w,(sizeOf e).run P w = .ok k w) (hn : l[n]? = some c) : IxK P T0 M t (svA k l) n (ivA k c):=fun _ ops o x y kk ho hx hy=>xd fun w0 G F a w hs hf=>by
 obtain ⟨ad,m,cap,h1,h2,_,_,_,h3⟩:=(hx.use (o:=o) (ops:=ops) (by simp [ho,Op.operands]) hs.tab hf).sv
 have h4:=(Opd.use (o:=o) (ops:=ops) hy (by simp [ho,Op.operands]) hs.tab hf).eq
 subst h2
 have hlt : n < l.length:=(List.getElem?_eq_some_iff.1 hn).1
 obtain ⟨b,off,rfl,hc⟩:=h3 (by intro h; subst h; simp at hlt)
 obtain ⟨us,u1,u2,u3⟩:=hc n c hn
 refine ⟨.pointer (some ⟨b,off + n * k,none⟩), ?_,.of ⟨b,off + n * k,us,rfl,u1,u2,u3⟩⟩
 have hr : 0 ≤ (n : Int) ∧ (n : Int) < (l.length : Int):=by omega
 simp only [execOp,ho,h1,h4]
 simp [Instr.indexAt,asIntOf,run_underlying hu,hz,hlt,Addr.add_lit]
theorem z66 {t : TypeId} {k : Nat} {c : List AV} (ha : ∀ w,(isAgg t).run P w = .ok true w) (hz : ∀ w,(sizeOf t).run P w = .ok k w) : LdK P T0 M t (ivA k c) (qb c):=fun _ ops o x ho hx=>xd fun w0 G F a w hs hf=>by
 obtain ⟨b,off,us,h1,h2,h3,h4⟩:=(hx.use (o:=o) (ops:=ops) (by simp [ho,Op.operands]) hs.tab hf).iv
 refine ⟨.agg us.toArray, ?_,.of ⟨_,rfl,h3⟩⟩
 have hl:=run_loadCells_list (P:=P) (w:=w) ⟨b,off,none⟩ us (fun j v hv=>by rw [Addr.add_lit]; exact hs.imm _ _ _ (h4 j v hv))
 rw [h2] at hl
 simp only [execOp,ho,h1,Instr.loadAt,Instr.sureAddr,loadVar]
 simp [ha,hz,hl]
end
abbrev Stp:=Int × Int × Int × List UInt8
def stT : Ty Stp:={ enc:=fun s=>[.int .i64 s.1,.int .i64 s.2.1,.int .i64 s.2.2.1,.string ⟨s.2.2.2.toArray⟩],k:=4,len:=fun _=>rfl }
def stA (s : Stp) : AV:=qb [I s.1,I s.2.1,I s.2.2.1,SA s.2.2.2]
theorem zxz : Tryz.prog.underlying 76 = some (.struct #[{ name := "Kind",type:=3,offset:=0,embedded:=false,tag := "",pkgPath := "",byteOffset:=0 },{ name := "A",type:=3,offset:=1,embedded:=false,tag := "",pkgPath := "",byteOffset:=8 },{ name := "B",type:=3,offset:=2,embedded:=false,tag := "",pkgPath := "",byteOffset:=16 },{ name := "S",type:=9,offset:=3,embedded:=false,tag := "",pkgPath := "",byteOffset:=24 }]):=Tryz.underlying76
instance qb3 : FldC 76 0 0 3:=⟨_,_,zxz,rfl,rfl,rfl⟩
instance qb2 : FldC 76 1 1 3:=⟨_,_,zxz,rfl,rfl,rfl⟩
instance qb1 : FldC 76 2 2 3:=⟨_,_,zxz,rfl,rfl,rfl⟩
theorem qaf : El Tryz.prog stT 76 (0,0,0,[]) 40 stA:=⟨⟨.agg #[.int .i64 0,.int .i64 0,.int .i64 0,.string ⟨#[]⟩],by kernel_rfl,rfl⟩,by decide,fun x v hv=>by simp [stT] at hv; rcases hv with rfl | rfl | rfl | rfl <;> rfl,.inl ⟨kf (by kernel_rfl),fun x=>rfl⟩⟩
instance qeh : ElC 76 stT (0,0,0,[]) 40 stA:=⟨qaf⟩
theorem z1k : Tryz.prog.underlying 73 = some (.slice 76):=Tryz.underlying73
instance qbf : UnC 73 (.slice 76):=⟨z1k⟩
theorem z1j : Tryz.prog.underlying 72 = some (.slice 29):=Tryz.underlying72
instance qbe : UnC 72 (.slice 29):=⟨z1j⟩
def atT (l : List Tm) (n : Int) : Tm:=l.getD (zw9 n 1023 % l.length) noT
end Go.Proofs.YtgfmjmfphmjdkaaGreatDoor
