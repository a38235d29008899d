/- How terminals and steps that are handed in are read. No condition. -/
import Derived.Test.YtgfmjmfphmjdkaaGreatDoorR3CY
import Derived.Test.YtgfmjmfphmjdkaaGreatDoorR3JM
set_option linter.unusedSimpArgs false
set_option linter.unusedVariables false
set_option linter.unusedSectionVars false
namespace Go.Proofs.YtgfmjmfphmjdkaaGreatDoor
set_option maxHeartbeats 4000000
open Go.ChangeShapes Go.WideShapes Go.ChangeAt Go.RowKit
set_option maxRecDepth 100000
theorem z6l {H : Type} {enc : TypeId × Value → H} {P : Program} {w : World} {bs k : Nat} {β : Type} {F : β → List AV} {ok : β → Prop} {e t : TypeId} {v : Value} {d : DataW H} {ps : List MemPlace}
  (r : RdF P e F ok) (hk : P.cellsOf e = k) (hp : 0 < k) (ht : P.underlying t = some (.slice e)) (hv : Value.okWide P w .any bs t v) (h : DataW.Trod enc P w 0 (fun _=>true) true t v d ps) : ∃ l : List β,Rep (zaf w) (svA k (l.map F)) v:=by
 obtain ⟨a,len,cap,rfl⟩:=okWide_slice ht hv
 obtain ⟨fuel,hf⟩:=h
 have hf' : DataW.trod enc P w 0 (fun _=>true) true fuel t [.slice a len cap] = some (d,ps):=hf
 rcases DataW.trod_slice ht hf' with ⟨h1,_⟩ | ⟨a',len',cap',elems,rest,n,_,h1,_,_,hl,hm,hlen,hel,_,_⟩
 ·injection h1 with h1 _
  injection h1 with h1 h2 h3
  subst h1; subst h2; subst h3
  exact ⟨[],.of ⟨none,0,0,rfl,rfl,Nat.le_refl _,Nat.zero_le _,fun _=>rfl,fun h=>absurd rfl h⟩⟩
 ·injection h1 with h1 _
  injection h1 with h1 h2 h3
  subst h1; subst h2; subst h3
  obtain ⟨b,off,s⟩:=a'
  have one : ∀ i,i < len → ∃ x : β,∃ cs,w.cells? 0 ((⟨b,off,s⟩ : Addr).add (i * k)) k = some cs ∧ AllRep (zaf w) (F x) cs:=fun i hi=>by
   have h2:=hel i hi
   rw [hk] at h2
   obtain ⟨y,hy⟩ : ∃ y,elems[i]? = some y:=⟨elems[i],List.getElem?_eq_getElem (by omega)⟩
   rw [hy] at h2
   obtain ⟨cs,h4,h5⟩:=Option.bind_eq_some_iff.1 h2
   obtain ⟨x,h6,_⟩:=r.of enc w _ _ _ h5
   exact ⟨x,cs,h4,h6⟩
  obtain ⟨l,hll,hpp⟩:=uz len one
  refine ⟨l,.of ⟨some ⟨b,off,s⟩,len,cap,rfl,by rw [List.length_map]; exact hll.symm,hl,hm,fun h=>by simp at h,fun hne => ?_⟩⟩
  have hpos : 0 < len:=by
   rw [← hll]
   exact List.length_pos_iff.2 fun z=>hne (by rw [z]; rfl)
  have hs : s = none:=by
   obtain ⟨x,cs,h4,_⟩:=one 0 hpos
   rw [Nat.zero_mul] at h4
   exact (zbh h4 hp (.inr (.inr rfl))).1 rfl
  subst hs
  refine ⟨b,off,rfl,fun i c hc => ?_⟩
  rw [List.getElem?_map] at hc
  obtain ⟨x,hx,rfl⟩:=Option.map_eq_some_iff.1 hc
  obtain ⟨cs,h5,h6⟩:=hpp i x hx
  refine ⟨cs, ?_,h6,fun j v hv=>(zbh h5 hp (.inr (.inl rfl))).2 j v hv⟩
  unfold World.cells? at h5
  rw [if_pos (Nat.zero_le _)] at h5
  simpa using mapM_some_length h5
theorem z98 : Rd Tryz.prog stT 76 fun c=>(Lit.int .i64 c.1).wf = true ∧ (Lit.int .i64 c.2.1).wf = true ∧ (Lit.int .i64 c.2.2.1).wf = true :=
 ⟨by kernel_rfl,by decide,fun enc w sp hd fuel cs x h=>by
  obtain ⟨xs,n,_,_,hl,hn,hf⟩:=DataW.trod_struct zxz h
  have hl2 : cs.length = 4:=hl.trans (by kernel_rfl)
  obtain ⟨a,b,c,d,rfl⟩ : ∃ a b c d,cs = [a,b,c,d]:=by
   match cs,hl2 with
   |[a,b,c,d],_=>exact ⟨a,b,c,d,rfl⟩
  have hn2 : xs.length = 4:=hn
  obtain ⟨x0,x1,x2,x3,rfl⟩ : ∃ a b c d,xs = [a,b,c,d]:=by
   match xs,hn2 with
   |[a,b,c,d],_=>exact ⟨a,b,c,d,rfl⟩
  have ci : Tryz.prog.cellsOf 3 = 1:=by kernel_rfl
  have cr : Tryz.prog.cellsOf 9 = 1:=by kernel_rfl
  have h0 : DataW.trod enc Tryz.prog w 0 sp hd n 3 (([a,b,c,d].drop 0).take (Tryz.prog.cellsOf 3)) = some x0:=hf 0 _ rfl
  have h1 : DataW.trod enc Tryz.prog w 0 sp hd n 3 (([a,b,c,d].drop 1).take (Tryz.prog.cellsOf 3)) = some x1:=hf 1 _ rfl
  have h2 : DataW.trod enc Tryz.prog w 0 sp hd n 3 (([a,b,c,d].drop 2).take (Tryz.prog.cellsOf 3)) = some x2:=hf 2 _ rfl
  have h3 : DataW.trod enc Tryz.prog w 0 sp hd n 9 (([a,b,c,d].drop 3).take (Tryz.prog.cellsOf 9)) = some x3:=hf 3 _ rfl
  rw [ci] at h0 h1 h2
  rw [cr] at h3
  obtain ⟨n0,e0,_,w0⟩:=DataW.trod_int Tryz.underlying3 h0
  obtain ⟨n1,e1,_,w1⟩:=DataW.trod_int Tryz.underlying3 h1
  obtain ⟨n2,e2,_,w2⟩:=DataW.trod_int Tryz.underlying3 h2
  obtain ⟨⟨⟨n3⟩⟩,e3,_,w3⟩:=DataW.trod_string Tryz.underlying9 h3
  simp only [List.drop_zero,List.take_succ_cons,List.take_zero,List.drop_succ_cons,List.cons.injEq,and_true] at e0 e1 e2 e3
  exact ⟨(n0,n1,n2,n3),by rw [e0,e1,e2,e3]; rfl,w0,w1,w2⟩⟩
end Go.Proofs.YtgfmjmfphmjdkaaGreatDoor
