/- The logic's further rules: cuts of an owned row with any ends, and copying from one part of an owned row to another. No condition. -/
import Derived.Test.YtgfmjmfphmjdkaaGreatDoorR3ZB
set_option linter.unusedSimpArgs false
set_option linter.unusedVariables false
set_option linter.unusedSectionVars false
namespace Go.Proofs.YtgfmjmfphmjdkaaGreatDoor
set_option maxHeartbeats 4000000
open Go Go.RowKit
set_option maxRecDepth 100000
section
variable {P : Program} {T0 : Gh} {N : Fz} {Q : ko} {fr : Fr} {M : List Own} {ops : Array Oper} {o : Oper} {rest : List Oper} {x0 : Nat}
theorem zpd {hi : Option Operand} {b n : Nat} {G : Gh} {ac : Act} (h : zus hi b n T0 fr) (f : ∀ z ∈ hi,∀ {A : AV},Opd T0 fr z A → Rep G A (ac.eval z)) : ((hi.map ac.eval) = none ∧ b = n) ∨ ∃ k,(hi.map ac.eval) = some (.int k (b : Int)):=by
 cases hi with
 |none=>exact .inl ⟨rfl,h⟩
 |some y=>obtain ⟨k,hk⟩:=h; exact .inr ⟨k,by rw [Option.map_some,(f y rfl hk).eq]⟩
theorem zo_ {lo : Option Operand} {a : Nat} {G : Gh} {ac : Act} (h : zsk lo a T0 fr) (f : ∀ z ∈ lo,∀ {A : AV},Opd T0 fr z A → Rep G A (ac.eval z)) : ((lo.map ac.eval) = none ∧ a = 0) ∨ ∃ k,(lo.map ac.eval) = some (.int k (a : Int)):=by
 cases lo with
 |none=>exact .inl ⟨rfl,h⟩
 |some y=>obtain ⟨k,hk⟩:=h; exact .inr ⟨k,by rw [Option.map_some,(f y rfl hk).eq]⟩
theorem qg {α : Type} {T : Ty α} {t e : TypeId} {x : Operand} {lo hi : Option Operand} {l : List α} {d : α} {by' a b : Nat} {av : α → AV} {u : Value} (ho : o.op = .slice t x lo hi none) (hu : P.underlying t = some (.slice e)) (he : El P T e d by' av) (hx : Opd T0 fr x (vA u)) (hM : z_ T e u l ∈ M) (hlo : zsk lo a T0 fr) (hhi : zus hi b l.length T0 fr) (h1 : a < b) (h2 : b ≤ l.length) :
  AY P T0 ops o fr M (rsA T.k u a (b - a)):=xd fun w0 G F ac w hs hf=>by
 have e1:=(hx.use (o:=o) (ops:=ops) (by simp [ho,Op.operands]) hs.tab hf).eq
 have e2:=zo_ hlo (fun z hz {A} h=>h.use (o:=o) (ops:=ops) (by simp [ho,Op.operands,Option.mem_def.1 hz]) hs.tab hf)
 have e3:=zpd hhi (fun z hz {A} h=>h.use (o:=o) (ops:=ops) (by simp [ho,Op.operands,Option.mem_def.1 hz]) hs.tab hf)
 have hrow:=hs.own _ (List.mem_append_left F hM)
 rcases yh hrow with ⟨rfl,rfl⟩ | ⟨g,cap,rfl,h4,h5⟩
 ·simp at h2; omega
 ·have hb:=jp (P:=P) (isS:=true) (cap:=cap) (len:=l.length) (w:=w) (lo:=a) (hi:=b) (vlo:=lo.map ac.eval) (vhi:=hi.map ac.eval) (Nat.le_of_lt h1) (by omega) e2 e3
  have hne : ¬ cap = a:=by omega
  refine ⟨.slice (some ⟨g,a * T.k,none⟩) (b - a) (cap - a), ?_,.of ⟨g,_,cap,cap - a,rfl,rfl⟩⟩
  simp only [execOp,ho,e1]
  simp [run_sliceAt_slice _ _ _ _ _ _ (zd4 hu),Instr.slice,run_underlying hu,hb,he.size,hne,Addr.add_lit]
theorem qk {α : Type} {T : Ty α} {t e : TypeId} {x : Operand} {lo hi : Option Operand} {l : List α} {d : α} {by' a b : Nat} {av : α → AV} {u : Value} (ho : o.op = .slice t x lo hi none) (hu : P.underlying t = some (.slice e)) (he : El P T e d by' av) (hx : Opd T0 fr x (vA u)) (hM : z_ T e u l ∈ M) (hlo : zsk lo a T0 fr) (hhi : zus hi b l.length T0 fr) (h1 : a = b) (h2 : b ≤ l.length) :
  AY P T0 ops o fr M (slA T []):=xd fun w0 G F ac w hs hf=>by
 subst h1
 have e1:=(hx.use (o:=o) (ops:=ops) (by simp [ho,Op.operands]) hs.tab hf).eq
 have e2:=zo_ hlo (fun z hz {A} h=>h.use (o:=o) (ops:=ops) (by simp [ho,Op.operands,Option.mem_def.1 hz]) hs.tab hf)
 have e3:=zpd hhi (fun z hz {A} h=>h.use (o:=o) (ops:=ops) (by simp [ho,Op.operands,Option.mem_def.1 hz]) hs.tab hf)
 have hrow:=hs.own _ (List.mem_append_left F hM)
 rcases yh hrow with ⟨rfl,rfl⟩ | ⟨g,cap,rfl,h4,h5⟩
 ·obtain rfl : a = 0:=by simpa using h2
  have hb:=jp (P:=P) (isS:=true) (cap:=0) (len:=0) (w:=w) (lo:=0) (hi:=0) (vlo:=lo.map ac.eval) (vhi:=hi.map ac.eval) (Nat.le_refl _) (by omega) e2 e3
  refine ⟨.slice none 0 0, ?_,.of ⟨none,0,0,rfl,rfl,Nat.le_refl _,by decide,fun _=>rfl,fun h=>absurd rfl h⟩⟩
  simp only [execOp,ho,e1]
  simp [run_sliceAt_slice _ _ _ _ _ _ (zd4 hu),Instr.slice,run_underlying hu,hb,he.size]
 ·have hb:=jp (P:=P) (isS:=true) (cap:=cap) (len:=l.length) (w:=w) (lo:=a) (hi:=a) (vlo:=lo.map ac.eval) (vhi:=hi.map ac.eval) (Nat.le_refl _) (by omega) e2 e3
  refine ⟨.slice (if cap = a then some ⟨g,0,none⟩ else some ⟨g,a * T.k,none⟩) 0 (cap - a), ?_,.of ⟨_,0,_,rfl,rfl,Nat.zero_le _,by omega,fun h=>(by split at h <;> cases h),fun h=>absurd rfl h⟩⟩
  simp only [execOp,ho,e1]
  simp [run_sliceAt_slice _ _ _ _ _ _ (zd4 hu),Instr.slice,run_underlying hu,hb,he.size,Addr.add_lit]
theorem zev {α : Type} {T : Ty α} {t e : TypeId} {x y : Operand} {l : List α} {d : α} {by' off n o2 n2 : Nat} {av : α → AV} {u : Value} {A B : AV} (i : Nat) (ho : o.op = .call { callee:=.builtin .copy,args := #[x,y],argTypes := #[t,t] }) (hu : P.underlying t = some (.slice e)) (he : El P T e d by' av) (hx : Opd T0 fr x A) (hy : Opd T0 fr y B) (hM : M[i]? = some (z_ T e u l)) (hA : (A = vA u ∧ off = 0 ∧ n = l.length) ∨ A = rsA T.k u off n) (hn : off + n ≤ l.length) (hB : B = rsA T.k u o2 n2) (hn2 : o2 + n2 ≤ l.length) :
  AO P T0 ops o fr M (fun A M'=>A = I (((l.drop o2).take n2).take n).length ∧ M' = M.set i (z_ T e u (ovr l off (((l.drop o2).take n2).take n)))) (fun _ _=>False):=fun w0 G F a w next Qc hs hf hk _=>by
 have hxr:=hx.use (o:=o) (ops:=ops) (by simp [ho,Op.operands,Call.operands]) hs.tab hf
 have hyr:=hy.use (o:=o) (ops:=ops) (by simp [ho,Op.operands,Call.operands]) hs.tab hf
 subst hB
 obtain ⟨g,m0,cap,c2,h',e1⟩:=hyr.rs
 obtain ⟨hM1,hM2⟩:=xi (F:=F) (m':=z_ T e u (ovr l off (((l.drop o2).take n2).take n))) hM
 have hrow:=hs.own _ (List.mem_of_getElem? hM1)
 obtain ⟨m,hm⟩ : ∃ m,m = (l.drop o2).take n2:=⟨_,rfl⟩
 have hml : m.length = n2:=by rw [hm]; simp; omega
 rw [← hm] at hM2 hk
 have hclen : (m.take n).length ≤ n:=by rw [List.length_take]; omega
 have hrun0 : ∀ v w',(Builtin.copy_ #[t,t] o.type #[a.eval x,a.eval y]).run P w = .ok v w' → (execOp a.eval o).run P w = .ok (.value v) w':=fun v w' h=>by
  simp only [execOp,ho,resolve]
  simp [invoke,builtin,h]
 rcases hrow.2 with ⟨h0',h0⟩ | ⟨g',cap',cur,h'',_,hg,hnc,hcm,hcs,htake⟩
 ·rw [h'] at h0'; cases h0'
 rw [h'] at h''
 simp only [Value.slice.injEq,Option.some.injEq,Addr.mk.injEq,and_true,true_and] at h''
 obtain ⟨rfl,rfl,rfl⟩:=h''
 have hx2 : ∃ c',a.eval x = .slice (some ⟨g,off * T.k,none⟩) n c':=by
  rcases hA with ⟨rfl,rfl,rfl⟩ | rfl
  ·exact ⟨cap,by rw [hxr.eq,h',Nat.zero_mul]⟩
  ·obtain ⟨g',N',cap',c',h1,h2⟩:=hxr.rs
   rw [h'] at h1
   simp only [Value.slice.injEq,Option.some.injEq,Addr.mk.injEq,and_true] at h1
   obtain ⟨rfl,_⟩:=h1
   exact ⟨c',h2⟩
 obtain ⟨c',hx2⟩:=hx2
 have hfit1 : off + (m.take n).length ≤ l.length:=by omega
 have hb1 : (off + (m.take n).length) * T.k ≤ l.length * T.k:=Nat.mul_le_mul_right _ hfit1
 have hcap : l.length * T.k ≤ cur.size:=by rw [hcs]; exact Nat.mul_le_mul_right _ hnc
 have hsrc : ∀ j v,(m.flatMap T.enc)[j]? = some v → w.cell? ⟨g,o2 * T.k + j,none⟩ = some v:=fun j v hv=>by
  refine zjk hrow h' ?_
  rw [hm,kc,kw,List.getElem?_take] at hv
  split at hv
  ·rwa [List.getElem?_drop] at hv
  ·cases hv
 have hr:=zor (P:=P) (T:=T) (t:=t) (ty:=o.type) (w:=w) (cur:=cur) (p:=off * T.k) (n:=n) (c':=c') (a:=some ⟨g,o2 * T.k,none⟩) (sn:=n2) (sc:=c2) (m:=m) hu he hg hml.symm (fun _=>⟨g,_,rfl,hsrc⟩) (by rw [Nat.add_mul] at hb1; omega)
 rw [← hx2,← e1] at hr
 have hrun:=hrun0 _ _ hr
 unfold Oper.wp; rw [hrun]
 generalize m.take n = c at *
 refine hk (I (c).length) (M.set i (z_ T e u (ovr l off (c)))) G _ _ ⟨rfl,rfl⟩ (Gh.le.refl _) ?_ (Rep.va _ _)
 rw [← hM2]
 refine hs.grown hM1 ⟨rfl,rfl,rfl,by simp,fun k _ hk=>setRow_other w g k _ (fun e=>hk (by rw [h']; simp [z_,Value.ownBlock,e]))⟩ ?_ (fun b hb => ?_)
 ·have hlen:=j7 (c:=c) hfit1
  have hE : ((c).flatMap T.enc).length = (c).length * T.k:=zei T _
  have hsz : (cur.toList.take (off * T.k) ++ (c).flatMap T.enc ++ cur.toList.drop (off * T.k + (c).length * T.k)).length = cur.size:=by
   rw [Nat.add_mul] at hb1
   simp only [List.length_append,List.length_take,List.length_drop,hE,Array.length_toList]; omega
  refine ⟨by rw [zei],.inr ⟨g,cap,_,by rw [hlen]; exact h',Nat.zero_le _,setRow_heap w g cur _ e _ hg,by rw [hlen]; exact hnc,hcm, ?_, ?_⟩⟩
  ·rw [← hcs]; simpa using hsz
  ·rw [hlen]
   have h1 : (ovr l off (c)).flatMap T.enc = (l.flatMap T.enc).take (off * T.k) ++ (c).flatMap T.enc ++ (l.flatMap T.enc).drop (off * T.k + (c).length * T.k):=by
    rw [ovr,List.flatMap_append,List.flatMap_append,kc,kw,Nat.add_mul]
   rw [h1,← htake]
   rw [Nat.add_mul] at hb1
   exact ze9 cur.toList _ (off * T.k) _ (l.length * T.k) hE (by omega) (by simpa using hcap)
 ·refine ⟨.inl hb, ?_⟩
  have hb' : u.ownBlock = some b:=hb
  rw [h'] at hb'
  obtain rfl:=Option.some.inj (show some g = some b from hb')
  simpa using (Array.getElem?_eq_some_iff.1 hg).1
end
section
variable {T0 : Gh} {N : Fz} {Q : ko} {fr : Fr} {M : List Own} {ops : Array Oper} {o : Oper} {rest : List Oper} {x0 : Nat}
theorem zss {α : Type} {T : Ty α} {t e : TypeId} {x y : Operand} {l : List α} {d : α} {by' off n o2 n2 : Nat} {av : α → AV} {u : Value} {f : Own → List Own} (h : AL Tryz.prog T0 N false ops Q rest ((x0,I (((l.drop o2).take n2).take n).length) :: fr) (f (z_ T e u (ovr l off (((l.drop o2).take n2).take n))))) (ho : o.op = .call { callee:=.builtin .copy,args := #[x,y],argTypes := #[t,t] }:=by rfl) (hg : o.guard = none:=by rfl) (hd : o.dst = some x0:=by rfl) (hN : Nat.blt x0 N.n = true:=by rfl) (hu : Tryz.prog.underlying t = some (.slice e):=by first | exact un_ | fail) (he : El Tryz.prog T e d by' av:=by first | exact el_ | fail)
  (hx : Opd T0 fr x (rsA T.k u off n):=by first | exact oo_ | fail) (hy : Opd T0 fr y (rsA T.k u o2 n2):=by first | exact oo_ | fail) (hU : UpdF (z_ T e u l) M f:=by first | exact yd | fail) (hn : off + n ≤ l.length:=by first | exact gb_ | fail) (hn2 : o2 + n2 ≤ l.length:=by first | exact gb_ | fail) : AL Tryz.prog T0 N false ops Q (o :: rest) fr M:=by
 obtain ⟨i,k1,k2⟩:=hU.spec
 refine zdh hg (zev i ho hu he hx hy k1 (.inr rfl) hn rfl hn2) hd hN (fun _ _ h=>h.elim) ?_
 rintro _ _ ⟨rfl,rfl⟩
 rw [k2] at h; exact h
theorem zcc {α : Type} {T : Ty α} {t e : TypeId} {x y : Operand} {l : List α} {d : α} {by' o2 n2 : Nat} {av : α → AV} {u : Value} {f : Own → List Own} (h : AL Tryz.prog T0 N false ops Q rest ((x0,I (((l.drop o2).take n2).take l.length).length) :: fr) (f (z_ T e u (ovr l 0 (((l.drop o2).take n2).take l.length))))) (ho : o.op = .call { callee:=.builtin .copy,args := #[x,y],argTypes := #[t,t] }:=by rfl) (hg : o.guard = none:=by rfl) (hd : o.dst = some x0:=by rfl) (hN : Nat.blt x0 N.n = true:=by rfl) (hu : Tryz.prog.underlying t = some (.slice e):=by first | exact un_ | fail) (he : El Tryz.prog T e d by' av:=by first | exact el_ | fail)
  (hx : Opd T0 fr x (vA u):=by first | exact oo_ | fail) (hy : Opd T0 fr y (rsA T.k u o2 n2):=by first | exact oo_ | fail) (hU : UpdF (z_ T e u l) M f:=by first | exact yd | fail) (hn2 : o2 + n2 ≤ l.length:=by first | exact gb_ | fail) : AL Tryz.prog T0 N false ops Q (o :: rest) fr M:=by
 obtain ⟨i,k1,k2⟩:=hU.spec
 refine zdh hg (zev i ho hu he hx hy k1 (.inl ⟨rfl,rfl,rfl⟩) (by omega) rfl hn2) hd hN (fun _ _ h=>h.elim) ?_
 rintro _ _ ⟨rfl,rfl⟩
 rw [k2] at h; exact h
end
end Go.Proofs.YtgfmjmfphmjdkaaGreatDoor
