/- The logic's further rules: a literal slice, to be appended to. No condition. -/
import Derived.Test.YtgfmjmfphmjdkaaGreatDoorR1AQ
import Derived.Test.YtgfmjmfphmjdkaaGreatDoorR1ZV
set_option linter.unusedSimpArgs false
set_option linter.unusedVariables false
set_option linter.unusedSectionVars false
namespace Go.Proofs.YtgfmjmfphmjdkaaGreatDoor
set_option maxHeartbeats 4000000
open Go Go.RowKit
set_option maxRecDepth 100000
section
variable {P : Program} {T0 : Gh} {N : Fz} {Q : kw} {fr : Fr} {M : List Own} {ops : Array Oper} {o : Oper} {rest : List Oper} {x0 : Nat}
theorem z19 {α : Type} {T : Ty α} {t e : TypeId} {n : Nat} {parts : Array (Nat × Operand)} (l : List α) {d : α} {by' : Nat} {av : α → AV} (ho : o.op = .buildSlice t n parts) (hu : P.underlying t = some (.slice e)) (he : El P T e d by' av) (hl : l.length = n) (hn : n * T.k ≤ 1000000)
  (hp : ∃ res,wk T0 fr ((List.range n).map fun i=>(i * T.k,T.k)) parts.toList (((List.range n).flatMap fun _=>T.enc d).map vA) res ∧ res = (l.flatMap T.enc).map vA) :
  AO P T0 ops o fr M (fun A M' => ∃ u,A = vA u ∧ M' = zx T e u l :: M) (fun _ _=>False):=fun w0 G F a w next Qc hs hf hk _=>by
 obtain ⟨z,hi,hz⟩:=he.info
 obtain ⟨i,h1,h2⟩:=Option.map_eq_some_iff.1 hi
 simp only [Prod.mk.injEq] at h2
 obtain ⟨res,hparts,hres⟩:=hp
 have hzl : z.cells.size = T.k:=by rw [← Array.length_toList,hz,T.len]
 have hzeros : ((Array.range (n * T.k)).map fun x=>z.cells[x % z.cells.size]!) = ((List.range n).flatMap fun _=>T.enc d).toArray:=by
  apply Array.ext'
  simp only [Array.toList_map,Array.toList_range]
  rw [hzl,← hz]
  exact zcd z.cells T.k hzl n
 obtain ⟨ds,e1,e2⟩:=zfp (o:=o) (ops:=ops) (G:=G) (a:=a) hs.tab (place:=fun i=>some (i * T.k,T.k)) (pl:=(List.range n).map fun i=>(i * T.k,T.k)) (fun i q h=>by
  simp only [List.getElem?_map,Option.map_eq_some_iff] at h
  obtain ⟨j,hj,rfl⟩:=h
  obtain ⟨hlt,rfl⟩:=List.getElem?_eq_some_iff.1 hj
  simp) parts.toList _ res _ hparts (fun p hp'=>by simp only [ho,Op.operands]; simp; exact ⟨p.1,by simpa using hp'⟩) hf (wj G _)
 subst hres
 obtain rfl:=xz e2
 have hrun : (execOp a.eval o).run P w = .ok (.value (.slice (some ⟨w.heap.size,0,none⟩) n n)) (w.alloc (.cells (l.flatMap T.enc).toArray e)):=by
  have hmap : (parts.map fun (i,x)=>(i,a.eval x)).toList = parts.toList.map fun (i,x)=>(i,a.eval x):=by simp
  have hr:=yu (t:=t) (n:=n) (parts:=parts.map fun (i,x)=>(i,a.eval x)) (cells:=(l.flatMap T.enc).toArray) hu (he.size w) (z:=z) (by simp [zeroValue,typeInfo,h1,h2.1]) (by omega) (by rw [hzeros,hmap]; exact e1)
  simp only [execOp,ho]
  simp only [Sem.run_bind,hr,Result.andThen_ok,Sem.run_pure]
 unfold Oper.wp; rw [hrun]
 refine hk (vA _) _ G _ _ ⟨_,rfl,rfl⟩ (Gh.le.refl _) ?_ (Rep.va _ _)
 subst hl
 have hk1 : l.length ≤ l.length * T.k:=Nat.le_mul_of_pos_right _ he.pos
 refine hs.grow_new (World.grownBy_alloc w _ none) ⟨zc8 T l,.inr ⟨w.heap.size,l.length,(l.flatMap T.enc).toArray,rfl,Nat.zero_le _,heap_alloc_new w _,Nat.le_refl _,by simp only [maxLen]; omega,by simpa using zc8 T l,by rw [← zc8 T l]; exact List.take_length⟩⟩ fun b hb => ?_
 have hb' : some w.heap.size = some b:=hb
 obtain rfl:=Option.some.inj hb'
 exact ⟨Nat.le_refl _,by simp⟩
end
section
variable {T0 : Gh} {N : Fz} {Q : kw} {fr : Fr} {M : List Own} {ops : Array Oper} {o : Oper} {rest : List Oper} {x0 : Nat}
theorem zgb {α : Type} {T : Ty α} {t e : TypeId} {n : Nat} {parts : Array (Nat × Operand)} (l : List α) {d : α} {by' : Nat} {av : α → AV} (h : ∀ u',u'.cells = #[u'] → u'.oneCell' = true → AL Tryz.prog T0 N false ops Q rest ((x0,vA u') :: fr) (zx T e u' l :: M)) (ho : o.op = .buildSlice t n parts) (hg : o.guard = none) (hd : o.dst = some x0) (hN : Nat.blt x0 N.n = true) (hu : Tryz.prog.underlying t = some (.slice e)) (he : El Tryz.prog T e d by' av) (hl : l.length = n) (hn : n * T.k ≤ 1000000)
  (hp : ∃ res,wk T0 fr ((List.range n).map fun i=>(i * T.k,T.k)) parts.toList (((List.range n).flatMap fun _=>T.enc d).map vA) res ∧ res = (l.flatMap T.enc).map vA) : AL Tryz.prog T0 N false ops Q (o :: rest) fr M:=by
 refine zbg hg (z19 l ho hu he hl hn hp) hd hN (fun _ _ h=>h.elim) ?_
 rintro _ _ ⟨u',rfl,rfl⟩
 exact zu (List.Mem.head _) fun a b=>h u' a b
end
end Go.Proofs.YtgfmjmfphmjdkaaGreatDoor
namespace Go.Proofs.YtgfmjmfphmjdkaaGreatDoor
set_option maxHeartbeats 4000000
section
open Go Go.RowKit
variable {T0 : Gh}
set_option maxRecDepth 100000
attribute [local irreducible] z_ zg AW AL AO QY qd zx rsA Opd xi vA gvA zt z0 slA jc ipA rpA EqK LnK IxK LdK FaK FdK
theorem z0_ (l : List Cmd) (hl : l.length ≤ 100000) : AP Tryz.prog T0 167 [slA ws l] (I (w_ l)):=by
 refine za Tryz.func167 rfl (by decide) Tryz.ntmps167 rfl ?_
 repeat' (first
 |refine g7_ ?_ | (refine zb ?_ ?_ <;> intro hb <;> try exact no_) | (refine sx_ ?_ <;> intro bb) | (refine su_ ?_ <;> intro u hu1 hu2) | fail)
 refine yk (fun k : Nat=>[(3,I (w_ (l.take k))),(8,I k)]) (fun k=>k ≤ l.length) (fun k=>l.length - k) 0 (Nat.zero_le _) ?_
 rintro k i1
 have hle:=zp9 (l.take k)
 rw [List.length_take] at hle
 by_cases hlt : k < l.length
 ·have hn:=zir l k hlt
  unfold zbj at hn
  repeat' (first
  |refine g7_ ?_ | (refine zb ?_ ?_ <;> intro hb <;> try exact no_) | (refine sx_ ?_ <;> intro bb) | (refine su_ ?_ <;> intro u hu1 hu2) | fail)
  ·rw [if_neg (by rw [hb]; decide)] at hn
   exact ⟨k + 1,by omega,by omega,by rw [hn]; exact wx_,sl_⟩
  ·rename_i e1; rw [if_pos e1,if_pos hb] at hn
   exact ⟨k + 1,by omega,by omega,by rw [hn]; exact wx_,sl_⟩
  ·rename_i e1 e2; rw [if_pos e1,if_neg e2,if_pos hb] at hn
   exact ⟨k + 1,by omega,by omega,by rw [hn]; exact wx_,sl_⟩
  ·rename_i e1 e2; rw [if_pos e1,if_neg e2,if_neg hb] at hn
   exact ⟨k + 1,by omega,by omega,by rw [hn]; exact wx_,sl_⟩
 ·repeat' (first
  |refine g7_ ?_ | (refine zb ?_ ?_ <;> intro hb <;> try exact no_) | (refine sx_ ?_ <;> intro bb) | (refine su_ ?_ <;> intro u hu1 hu2) | fail)
  exact ⟨_,[],rs_,List.nil_sublist _,Sub.eq (by rw [List.take_of_length_le (by omega)]),rfl⟩
end
section
open Go Go.RowKit
variable {T0 : Gh}
set_option maxRecDepth 100000
attribute [local irreducible] z_ zg AW AL AO QY qd zx rsA Opd xi vA gvA zt z0 slA jc ipA rpA EqK LnK IxK LdK FaK FdK
theorem vc (l : List Cmd) (hl : l.length ≤ 100000) : AP Tryz.prog T0 111 [slA ws l] (I (qs l)):=by
 refine za Tryz.func111 rfl (by decide) Tryz.ntmps111 rfl ?_
 repeat' (first
 |refine g7_ ?_ | (refine zb ?_ ?_ <;> intro hb <;> try exact no_) | (refine sx_ ?_ <;> intro bb) | (refine su_ ?_ <;> intro u hu1 hu2) | fail)
 refine yk (fun k : Nat=>[(3,I (qs (l.take k))),(4,I k)]) (fun k=>k ≤ l.length) (fun k=>l.length - k) 0 (Nat.zero_le _) ?_
 rintro k i1
 have hle:=jy (l.take k)
 rw [List.length_take] at hle
 by_cases hlt : k < l.length
 ·have hn:=zi7 l k hlt
  have h8 : (xm l[k]).1.length ≤ 8:=wo l[k]
  repeat' (first
  |refine g7_ ?_ | (refine zb ?_ ?_ <;> intro hb <;> try exact no_) | (refine sx_ ?_ <;> intro bb) | (refine su_ ?_ <;> intro u hu1 hu2) | fail)
  exact ⟨k + 1,by omega,by omega,by rw [hn]; exact wx_,sl_⟩
 ·repeat' (first
  |refine g7_ ?_ | (refine zb ?_ ?_ <;> intro hb <;> try exact no_) | (refine sx_ ?_ <;> intro bb) | (refine su_ ?_ <;> intro u hu1 hu2) | fail)
  exact ⟨_,[],rs_,List.nil_sublist _,Sub.eq (by rw [List.take_of_length_le (by omega)]),rfl⟩
theorem zos (l : List Cmd) (hl : l.length ≤ 100000) : AP Tryz.prog T0 140 [slA ws l] (I (w_ l)):=by
 refine za Tryz.func140 rfl (by decide) Tryz.ntmps140 rfl ?_
 repeat' (first
 |refine g7_ ?_ | (refine zb ?_ ?_ <;> intro hb <;> try exact no_) | (refine sx_ ?_ <;> intro bb) | (refine su_ ?_ <;> intro u hu1 hu2) | fail)
 refine yk (fun k : Nat=>[(3,I (w_ (l.take k))),(4,I k)]) (fun k=>k ≤ l.length) (fun k=>l.length - k) 0 (Nat.zero_le _) ?_
 rintro k i1
 have hle:=zp9 (l.take k)
 rw [List.length_take] at hle
 by_cases hlt : k < l.length
 ·have hn:=zir l k hlt
  unfold zbj at hn
  have hat : l[k]? = some l[k]:=List.getElem?_eq_getElem hlt
  repeat' (first
  |refine g7_ ?_ | (refine zb ?_ ?_ <;> intro hb <;> try exact no_) | (refine sx_ ?_ <;> intro bb) | (refine su_ ?_ <;> intro u hu1 hu2) | fail)
  ·have hn2 : ((w_ (l.take (k + 1)) : Nat) : Int) = (w_ (l.take k) : Nat) + l[k].1 - 6:=by
    obtain ⟨q1,q2⟩:=hb
    rw [if_pos q1] at hn
    rcases q2 with q2 | q2
    ·rw [if_pos q2] at hn; omega
    ·rw [if_neg (by omega),if_pos q2] at hn; omega
   exact ⟨k + 1,by omega,by omega,by rw [hn2]; exact wx_,sl_⟩
  ·have hn2 : w_ (l.take (k + 1)) = w_ (l.take k):=by
    rcases hb with q1 | ⟨q1,q2⟩
    ·rw [if_neg (by rw [q1]; decide)] at hn; exact hn
    ·rw [hn,if_neg q1,if_neg q2]; simp
   exact ⟨k + 1,by omega,by omega,by rw [hn2]; exact wx_,sl_⟩
 ·repeat' (first
  |refine g7_ ?_ | (refine zb ?_ ?_ <;> intro hb <;> try exact no_) | (refine sx_ ?_ <;> intro bb) | (refine su_ ?_ <;> intro u hu1 hu2) | fail)
  exact ⟨_,[],rs_,List.nil_sublist _,Sub.eq (by rw [List.take_of_length_le (by omega)]),rfl⟩
end
end Go.Proofs.YtgfmjmfphmjdkaaGreatDoor
