/- Several texts in one: see the comment ahead of each. No condition. -/
import Derived.Test.YtgfmjmfphmjdkaaGreatDoorR3ZA
import Derived.WideKeyArgs
import Derived.OpenShut
import Derived.Test.YtgfmjmfphmjdkaaGreatDoorR3ZV
import Derived.Test.YtgfmjmfphmjdkaaGreatDoorCards
import Derived.Test.YtgfmjmfphmjdkaaGreatDoorTie
import Derived.WalkKit
import Derived.ProofKit
import Derived.Deep.DeepHandedRow
import Derived.LaidSub
import Derived.Lib.LaidU8
import Derived.Test.YtgfmjmfphmjdkaaGreatDoorR3ZM
import Derived.Test.YtgfmjmfphmjdkaaGreatDoorR3B1
set_option linter.unusedSimpArgs false
set_option linter.unusedVariables false
set_option linter.unusedSectionVars false
namespace Go.Proofs.YtgfmjmfphmjdkaaGreatDoor
set_option maxHeartbeats 4000000
section
open Go Go.RowKit Go.ChangeShapes Go.WideShapes
def zaf (w : World) : Gh:=fun b o=>w.cell? ⟨b,o,none⟩
theorem zm1 {T0 : Gh} {w : World} (h : Gh.le T0 (zaf w)) : St T0 w (zaf w) [] w :=
 ⟨Below.refl _ _,h,fun _ _ _ h=>h,fun _ hm=>by simp at hm,fun _ hm=>by simp at hm,by simp⟩
structure Rd {α : Type} (P : Program) (T : Ty α) (e : TypeId) (ok : α → Prop) : Prop where
 cells : P.cellsOf e = T.k
 pos : 0 < T.k
 of : ∀ {H : Type} (enc : TypeId × Value → H) (w : World) (spare : Nat → Bool) (held : Bool) (fuel : Nat) (cs : List Value) (x : DataW H × List MemPlace),DataW.trod enc P w 0 spare held fuel e cs = some x → ∃ a,cs = T.enc a ∧ ok a
theorem zbh {w : World} {b off n i : Nat} {cs : List Value} {s : Option Nat} (h : w.cells? 0 ((⟨b,off,s⟩ : Addr).add i) n = some cs) (hn : 0 < n) (hi : 0 < i ∨ s = none ∨ i = 0) : (i = 0 → s = none) ∧ ∀ j v,cs[j]? = some v → w.cell? ⟨b,off + i + j,none⟩ = some v:=by
 unfold World.cells? at h
 rw [if_pos (Nat.zero_le _)] at h
 have hlen : cs.length = n:=by simpa using mapM_some_length h
 have each : ∀ j,j < n → w.cell? (((⟨b,off,s⟩ : Addr).add i).add j) = cs[j]?:=fun j hj=>mapM_some_get h j j (by simp [hj])
 have hs : i = 0 → s = none:=fun hi0=>by
  have h0:=each 0 hn
  subst hi0
  have hc : ∃ v,cs[0]? = some v:=⟨cs[0],List.getElem?_eq_getElem (by omega)⟩
  obtain ⟨v,hv⟩:=hc
  rw [hv] at h0
  simp only [Addr.add,if_true] at h0
  unfold World.cell? at h0
  split at h0
  ·cases s with
   |none=>rfl
   |some k=>simp at h0
  ·cases h0
 refine ⟨hs,fun j v hv => ?_⟩
 have hj : j < n:=by rw [← hlen]; exact (List.getElem?_eq_some_iff.1 hv).1
 rw [← hv,← each j hj]
 by_cases hi0 : i = 0
 ·subst hi0
  rw [hs rfl]
  simp only [Addr.add,if_true,Nat.add_zero]
  split
  ·rename_i h; subst h; rfl
  ·rfl
 ·have e1 : (⟨b,off,s⟩ : Addr).add i = ⟨b,off + i,none⟩:=by simp [Addr.add,hi0]
  rw [e1,add_plain]
section
variable {H : Type} {enc : TypeId × Value → H} {P : Program} {w : World} {bs : Nat} {α : Type} {T : Ty α} {ok : α → Prop} {e t : TypeId} {v : Value} {d : DataW H} {ps : List MemPlace}
theorem uz {p : Nat → α → Prop} : ∀ n : Nat,(∀ i,i < n → ∃ a,p i a) → ∃ l : List α,l.length = n ∧ ∀ i a,l[i]? = some a → p i a
 |0,_=>⟨[],rfl,fun i a h=>by simp at h⟩
 |n + 1,h=>by
  obtain ⟨l,hl,hp⟩:=uz n (fun i hi=>h i (by omega))
  obtain ⟨a,ha⟩:=h n (by omega)
  refine ⟨l ++ [a],by simp [hl],fun i x hx => ?_⟩
  by_cases hi : i < l.length
  ·rw [List.getElem?_append_left hi] at hx; exact hp i x hx
  ·rw [List.getElem?_append_right (by omega)] at hx
   have h0 : i - l.length = 0:=by
    have:=(List.getElem?_eq_some_iff.1 hx).1
    simp at this; omega
   rw [h0] at hx
   have hx' : a = x:=by simpa using hx
   have hin : i = n:=by omega
   rw [hin,← hx']; exact ha
theorem zje (T : Ty α) : ∀ (l : List α) (j : Nat) (v : Value),(l.flatMap T.enc)[j]? = some v → ∃ i r x,j = i * T.k + r ∧ r < T.k ∧ l[i]? = some x ∧ (T.enc x)[r]? = some v
 |[],j,v,h=>by simp at h
 |x :: l,j,v,h=>by
  rw [List.flatMap_cons] at h
  by_cases hj : j < T.k
  ·rw [List.getElem?_append_left (by rw [T.len]; exact hj)] at h
   exact ⟨0,j,x,by simp,hj,rfl,h⟩
  ·rw [List.getElem?_append_right (by rw [T.len]; omega),T.len] at h
   obtain ⟨i,r,y,h1,h2,h3,h4⟩:=zje T l (j - T.k) v h
   exact ⟨i + 1,r,y,by rw [Nat.add_mul]; omega,h2,by simpa using h3,h4⟩
theorem zy0 (r : Rd P T e ok) (ht : P.underlying t = some (.slice e)) (hv : Value.okWide P w .any bs t v) (h : DataW.Trod enc P w 0 (fun _=>true) true t v d ps) : ∃ l : List α,Rep (zaf w) (slA T l) v ∧ ∀ a ∈ l,ok a:=by
 obtain ⟨a,len,cap,rfl⟩:=okWide_slice ht hv
 obtain ⟨fuel,hf⟩:=h
 have hf' : DataW.trod enc P w 0 (fun _=>true) true fuel t [.slice a len cap] = some (d,ps):=hf
 rcases DataW.trod_slice ht hf' with ⟨h1,_⟩ | ⟨a',len',cap',elems,rest,n,_,h1,_,_,hl,hm,hlen,hel,_,_⟩
 ·injection h1 with h1 _
  injection h1 with h1 h2 h3
  subst h1; subst h2; subst h3
  exact ⟨[],.of ⟨none,0,0,rfl,rfl,Nat.le_refl _,Nat.zero_le _,fun _=>rfl,fun h=>absurd rfl h⟩,fun _ h=>by simp at h⟩
 ·injection h1 with h1 _
  injection h1 with h1 h2 h3
  subst h1; subst h2; subst h3
  obtain ⟨b,off,s⟩:=a'
  have one : ∀ i,i < len → ∃ x,ok x ∧ ∃ cs,w.cells? 0 ((⟨b,off,s⟩ : Addr).add (i * T.k)) T.k = some cs ∧ cs = T.enc x:=fun i hi=>by
   have h2:=hel i hi
   rw [r.cells] at h2
   have h3 : ∃ y,elems[i]? = some y:=⟨elems[i],List.getElem?_eq_getElem (by omega)⟩
   obtain ⟨y,hy⟩:=h3
   rw [hy] at h2
   obtain ⟨cs,h4,h5⟩:=Option.bind_eq_some_iff.1 h2
   obtain ⟨x,h6,h7⟩:=r.of enc w _ _ _ _ _ h5
   exact ⟨x,h7,cs,h4,h6⟩
  obtain ⟨l,hll,hp⟩:=uz len one
  refine ⟨l,.of ⟨some ⟨b,off,s⟩,len,cap,rfl,hll.symm,hl,hm,fun h=>by simp at h,fun hne => ?_⟩,fun x hx => ?_⟩
  ·have hpos : 0 < len:=by rw [← hll]; exact List.length_pos_iff.2 hne
   have hs : s = none:=by
    obtain ⟨x,_,cs,h4,_⟩:=one 0 hpos
    rw [Nat.zero_mul] at h4
    exact (zbh h4 r.pos (.inr (.inr rfl))).1 rfl
   subst hs
   refine ⟨b,off,rfl,fun j v hv => ?_⟩
   obtain ⟨i,q,x,h1,h2,h3,h4⟩:=zje T l j v hv
   obtain ⟨_,cs,h5,rfl⟩:=hp i x h3
   have:=(zbh h5 r.pos (.inr (.inl rfl))).2 q v h4
   rw [h1]
   show w.cell? ⟨b,off + (i * T.k + q),none⟩ = some v
   rw [← Nat.add_assoc]; exact this
  ·obtain ⟨i,hi⟩:=List.getElem?_of_mem hx
   exact (hp i x hi).1
theorem z6m {k : IntKind} (ht : P.underlying t = some (.int k)) (hv : Value.okWide P w .any bs t v) (h : DataW.Trod enc P w 0 (fun _=>true) true t v d ps) : ∃ n : Int,Rep (zaf w) (vA (.int k n)) v ∧ (Lit.int k n).wf = true:=by
 obtain ⟨n,rfl,_,_,hw⟩:=open_int ht hv h
 exact ⟨n,Rep.va _ _,hw⟩
theorem zjj {W W' : World} (h : Below W.heap.size W W') (p : MemPlace) (hp : p.block < W.heap.size) : W.sameAt W' p:=by
 cases p with
 |cell b off=>exact World.cell?_of_block (w:=W) (h.block b hp)
 |map b=>exact h.block b hp
theorem zce {W W' : World} {sp : Nat → Bool} (hl : laidOutB P = true) (hB : Below W.heap.size W W') : ∀ {ts : List TypeId} {vs : List Value} {ds : List (DataW H)} {ps : List MemPlace},
  (∀ t ∈ ts,P.readableRec t = true ∧ t < P.types.size) → DataW.TrodAll enc P W 0 (fun _=>true) true ts vs ds ps → (∀ p ∈ ps,p.block < W.heap.size ∧ sp p.block = true) → DataW.TrodAll enc P W' 0 sp true ts vs ds ps
 |[],_,_,_,_,h,_=>by
  obtain ⟨rfl,rfl,rfl⟩:=trodAll_nil h
  exact rfl
 |t :: ts,_,_,_,hp,h,hs=>by
  obtain ⟨v,vs1,d,ds1,a,b,rfl,rfl,rfl,h1,h2⟩:=trodAll_cons h
  exact ⟨a,b,WideElems.Trod_stays hl (hp t (by simp)).1 (hp t (by simp)).2 h1 (fun p hp'=>zjj hB p (hs p (by simp [hp'])).1) (fun p hp'=>(hs p (by simp [hp'])).2),
   zce hl hB (fun t ht=>hp t (by simp [ht])) h2 (fun p hp'=>hs p (by simp [hp'])),rfl⟩
theorem ztq {f : Func} {s : ChangeSpec} {apart fresh handsOn again : Bool} {W W' : World} {args : Array Value} {ds gs : List (DataW H)} {before : List MemPlace} {b : TypeId}
  (hl : laidOutB P = true) (hp : ∀ t ∈ f.params.toList,P.readableRec t = true ∧ t < P.types.size) (hvars : s.vars = []) (hr : f.resultTypes = #[b]) (hb : P.underlying b = some .bool)
  (hW : DataW.Whole enc P f.params.toList s.vars apart W args.toList ds gs before) (hfn : s.fn H (ds ++ gs) = { results:=[.lit (.bool true)],args:=ds }) (hB : Below W.heap.size W W') :
  s.post enc P f apart fresh handsOn again W args (.bool true) W':=by
 have hlt:=hW.lt
 have hW0:=hW
 obtain ⟨p,q,hA,hV,he,hz,hn⟩:=hW
 rw [hvars] at hV
 obtain ⟨rfl,rfl⟩:=trodVars_none hV
 rw [List.append_nil] at he
 subst he
 have hres : ∀ (b : Nat) (sp : Nat → Bool) (hd : Bool),DataW.TrodAll enc P W' b sp hd f.resultTypes.toList ((Value.bool true).resultList f.resultTypes.size) [.lit (.bool true)] []:=fun b0 sp hd=>by
  rw [hr]
  exact ⟨[],[],⟨1,by simp [DataW.trod,Value.cells,hb]⟩,rfl,rfl⟩
 have hargs : ∀ sp : Nat → Bool,(∀ p ∈ before,sp p.block = true) → DataW.TrodAll enc P W' 0 sp true f.params.toList args.toList ds before:=fun sp hsp=>zce hl hB hp hA fun p hp=>⟨hlt p hp,hsp p hp⟩
 refine ⟨ds,[],before,[],before,[],hW0, ?_, ?_, ?_,World.keptBut_mono (fun p hp=>⟨hp,.inr (.inl hp)⟩) (hB.frame (· ∈ before)),fun _=>⟨?_, ?_⟩⟩
 ·rw [hfn]; exact hres _ _ _
 ·rw [hfn]; exact hargs _ fun p hp=>by simpa using hlt p hp
 ·rw [hfn,hvars]; exact rfl
 ·exact ok_one hr rfl (okWide_bool_mk hb true)
 ·refine ⟨_,[],before,⟨before,[],trodAll_append (hargs _ fun _ _=>rfl) (hres 0 _ true), ?_,by simp,fun b off hbo => ?_,hn⟩,fun p hp _=>hp⟩
  ·rw [hvars]; exact rfl
  ·exact (hB.frozen (p:=⟨b,off,none⟩) (hlt _ hbo)).trans (hz b off hbo)
theorem zkr {T0 : Gh} {f : Func} {s : ChangeSpec} {apart fresh handsOn again : Bool} {W W' : World} {args : Array Value} {ds gs : List (DataW H)} {before : List MemPlace} {b : TypeId} {ev : Ending} {G : Gh}
  (hl : laidOutB P = true) (hp : ∀ t ∈ f.params.toList,P.readableRec t = true ∧ t < P.types.size) (hvars : s.vars = []) (hr : f.resultTypes = #[b]) (hb : P.underlying b = some .bool)
  (hW : DataW.Whole enc P f.params.toList s.vars apart W args.toList ds gs before) (hfn : s.fn H (ds ++ gs) = { results:=[.lit (.bool true)],args:=ds })
  (h : (∃ u A M' G',ev = .returned u ∧ (Sub A (B true) ∧ M' = []) ∧ Rep G' A u ∧ Gh.le G G' ∧ St T0 W G' (M' ++ []) W') ∨ (∃ c M' G',ev = .panicked c ∧ False ∧ Gh.le G G' ∧ St T0 W G' (M' ++ []) W')) :
  ∃ v,ev = .returned v ∧ s.post enc P f apart fresh handsOn again W args v W':=by
 rcases h with ⟨u,A,M',G',rfl,⟨hA,rfl⟩,hr',_,hs⟩ | ⟨_,_,_,_,hf,_⟩
 ·have hu:=(hA _ _ hr').eq
  subst hu
  exact ⟨_,rfl,ztq hl hp hvars hr hb hW hfn hs.below⟩
 ·exact hf.elim
end
end
section
open Go Go.RowKit Go.ChangeShapes Go.WideShapes
structure RdF (P : Program) (t : TypeId) {β : Type} (F : β → List AV) (ok : β → Prop) : Prop where
 of : ∀ {H : Type} (enc : TypeId × Value → H) (w : World) (fuel : Nat) (cs : List Value) (x : DataW H × List MemPlace),DataW.trod enc P w 0 (fun _=>true) true fuel t cs = some x → ∃ b,AllRep (zaf w) (F b) cs ∧ ok b
section
variable {P : Program} {t e : TypeId} {α β γ : Type} {T : Ty α}
theorem z3d {k : IntKind} (ht : P.underlying t = some (.int k)) : RdF P t (fun n : Int=>[vA (.int k n)]) (fun n=>(Lit.int k n).wf = true):=⟨fun enc w fuel cs x h=>by
 obtain ⟨n,rfl,_,hw⟩:=DataW.trod_int ht h
 exact ⟨n,⟨Rep.va _ _,trivial⟩,hw⟩⟩
theorem zyy (ht : P.underlying t = some .bool) : RdF P t (fun b : Bool=>[B b]) (fun _=>True):=⟨fun enc w fuel cs x h=>by
 obtain ⟨n,rfl,_⟩:=DataW.trod_bool ht h
 exact ⟨n,⟨Rep.va _ _,trivial⟩,trivial⟩⟩
theorem zou {ok : α → Prop} (r : Rd P T e ok) (ht : P.underlying t = some (.slice e)) : RdF P t (fun l : List α=>[slA T l]) (fun l => ∀ a ∈ l,ok a):=⟨fun enc w fuel cs x hf=>by
 obtain ⟨d,ps⟩:=x
 rcases DataW.trod_slice ht hf with ⟨h1,_⟩ | ⟨a',len',cap',elems,rest,n,_,h1,_,_,hl,hm,hlen,hel,_,_⟩
 ·subst h1
  exact ⟨[],⟨.of ⟨none,0,0,rfl,rfl,Nat.le_refl _,Nat.zero_le _,fun _=>rfl,fun h=>absurd rfl h⟩,trivial⟩,fun _ h=>by simp at h⟩
 ·subst h1
  obtain ⟨b,off,s⟩:=a'
  have one : ∀ i,i < len' → ∃ x,ok x ∧ ∃ cs,w.cells? 0 ((⟨b,off,s⟩ : Addr).add (i * T.k)) T.k = some cs ∧ cs = T.enc x:=fun i hi=>by
   have h2:=hel i hi
   rw [r.cells] at h2
   have h3 : ∃ y,elems[i]? = some y:=⟨elems[i],List.getElem?_eq_getElem (by omega)⟩
   obtain ⟨y,hy⟩:=h3
   rw [hy] at h2
   obtain ⟨cs,h4,h5⟩:=Option.bind_eq_some_iff.1 h2
   obtain ⟨x,h6,h7⟩:=r.of enc w _ _ _ _ _ h5
   exact ⟨x,h7,cs,h4,h6⟩
  obtain ⟨l,hll,hp⟩:=uz len' one
  refine ⟨l,⟨.of ⟨some ⟨b,off,s⟩,len',cap',rfl,hll.symm,hl,hm,fun h=>by simp at h,fun hne => ?_⟩,trivial⟩,fun x hx => ?_⟩
  ·have hpos : 0 < len':=by rw [← hll]; exact List.length_pos_iff.2 hne
   have hs : s = none:=by
    obtain ⟨x,_,cs,h4,_⟩:=one 0 hpos
    rw [Nat.zero_mul] at h4
    exact (zbh h4 r.pos (.inr (.inr rfl))).1 rfl
   subst hs
   refine ⟨b,off,rfl,fun j v hv => ?_⟩
   obtain ⟨i,q,x,h1,h2,h3,h4⟩:=zje T l j v hv
   obtain ⟨_,cs,h5,rfl⟩:=hp i x h3
   have:=(zbh h5 r.pos (.inr (.inl rfl))).2 q v h4
   rw [h1]
   show w.cell? ⟨b,off + (i * T.k + q),none⟩ = some v
   rw [← Nat.add_assoc]; exact this
  ·obtain ⟨i,hi⟩:=List.getElem?_of_mem hx
   exact (hp i x hi).1⟩
def z6e (P : Program) : List Field → Nat
 |[]=>0
 |f :: l=>P.cellsOf f.type + z6e P l
structure RdL (P : Program) (o : Nat) (fl : List Field) (F : β → List AV) (ok : β → Prop) : Prop where
 of : ∀ {H : Type} (enc : TypeId × Value → H) (w : World) (n : Nat) (cs : List Value),cs.length = o + z6e P fl →
 (∀ (i : Nat) f,fl[i]? = some f → ∃ x,DataW.trod enc P w 0 (fun _=>true) true n f.type ((cs.drop f.offset).take (P.cellsOf f.type)) = some x) → ∃ b,AllRep (zaf w) (F b) (cs.drop o) ∧ ok b
theorem zgc {o : Nat} {f : Field} {F : β → List AV} {ok : β → Prop} (r : RdF P f.type F ok) (h : f.offset = o) : RdL P o [f] F ok:=⟨fun enc w n cs hl hf=>by
 obtain ⟨x,hx⟩:=hf 0 f rfl
 rw [h,List.take_of_length_le (by rw [List.length_drop]; simp only [z6e] at hl; omega)] at hx
 exact r.of enc w n _ x hx⟩
theorem ji {o : Nat} {f : Field} {fl : List Field} {F : β → List AV} {G : γ → List AV} {ok : β → Prop} {ok' : γ → Prop} (r : RdF P f.type F ok) (h : f.offset = o) (k : RdL P (o + P.cellsOf f.type) fl G ok') : RdL P o (f :: fl) (fun p : β × γ=>F p.1 ++ G p.2) (fun p=>ok p.1 ∧ ok' p.2):=⟨fun enc w n cs hl hf=>by
 obtain ⟨x,hx⟩:=hf 0 f rfl
 rw [h] at hx
 obtain ⟨b,b1,b2⟩:=r.of enc w n _ x hx
 obtain ⟨c,c1,c2⟩:=k.of enc w n cs (by simp only [z6e] at hl; omega) (fun i g hg=>hf (i + 1) g hg)
 refine ⟨(b,c), ?_,b2,c2⟩
 have e : cs.drop o = (cs.drop o).take (P.cellsOf f.type) ++ cs.drop (o + P.cellsOf f.type):=by rw [← List.drop_drop,List.take_append_drop]
 rw [e]; exact b1.append c1⟩
theorem y6 {fs : Array Field} {F : β → List AV} {ok : β → Prop} (ht : P.underlying t = some (.struct fs)) (hc : P.cellsOf t = z6e P fs.toList) (k : RdL P 0 fs.toList F ok) : RdF P t F ok:=⟨fun enc w fuel cs x h=>by
 obtain ⟨xs,n,_,_,hl,hn,hf⟩:=DataW.trod_struct ht h
 obtain ⟨b,b1,b2⟩:=k.of enc w n cs (by rw [Nat.zero_add,← hc]; exact hl) (fun i f hi=>by
  have h1 : i < fs.toList.length:=(List.getElem?_eq_some_iff.1 hi).1
  have h2 : i < xs.length:=by rw [hn]; simpa using h1
  exact ⟨xs[i],by rw [hf i f (by simpa using hi)]; exact List.getElem?_eq_getElem h2⟩)
 exact ⟨b,by simpa using b1,b2⟩⟩
theorem RdF.any {F : β → List AV} {ok : β → Prop} (h : RdF P t F ok) : RdF P t F (fun _=>True):=⟨fun enc w fuel cs x hx=>let ⟨b,h1,_⟩:=h.of enc w fuel cs x hx; ⟨b,h1,trivial⟩⟩
variable {H : Type} {enc : TypeId × Value → H} {w : World} {bs : Nat} {v : Value} {d : DataW H} {ps : List MemPlace}
theorem zif {fs : Array Field} {F : β → List AV} {ok : β → Prop} (r : RdF P t F ok) (ht : P.underlying t = some (.struct fs)) (hv : Value.okWide P w .any bs t v) (h : DataW.Trod enc P w 0 (fun _=>true) true t v d ps) : ∃ b : β,Rep (zaf w) (qb (F b)) v ∧ ok b:=by
 obtain ⟨cs,rfl,_⟩:=okWide_struct ht hv
 obtain ⟨fuel,hf⟩:=h
 obtain ⟨b,h1,h2⟩:=r.of enc w _ _ _ hf
 exact ⟨b,.of ⟨cs.toList,by simp,h1⟩,h2⟩
end
theorem z8r {n : Int} (h : (Lit.int .i64 n).wf = true) : -9223372036854775808 ≤ n ∧ n ≤ 9223372036854775807:=by
 simp only [Lit.wf,Bool.and_eq_true,decide_eq_true_eq,IntKind.min,IntKind.max,IntKind.bits,IntKind.signed] at h
 simp at h; omega
end
section
open Go.ChangeShapes Go.WideShapes Go.ChangeAt Go.RowKit
set_option maxRecDepth 100000
theorem own : ownKnob Tryz.prog.godebug = none:=by kernel_rfl
theorem zni : laidOutB Tryz.prog = true:=by kernel_rfl
theorem z6n : Rd Tryz.prog zc7 35 fun c=>(Lit.int .i64 c.1).wf = true ∧ (Lit.int .i64 c.2.1).wf = true ∧ (Lit.int .i64 c.2.2.1).wf = true ∧ (Lit.int .i32 c.2.2.2).wf = true :=
 ⟨by kernel_rfl,by decide,fun enc w sp hd fuel cs x h=>by
  obtain ⟨xs,n,_,_,hl,hn,hf⟩:=DataW.trod_struct zia h
  have hl2 : cs.length = 4:=hl.trans (by kernel_rfl)
  obtain ⟨a,b,c,d,rfl⟩ : ∃ a b c d,cs = [a,b,c,d]:=by
   match cs,hl2 with
   |[a,b,c,d],_=>exact ⟨a,b,c,d,rfl⟩
  have hn2 : xs.length = 4:=hn
  obtain ⟨x0,x1,x2,x3,rfl⟩ : ∃ a b c d,xs = [a,b,c,d]:=by
   match xs,hn2 with
   |[a,b,c,d],_=>exact ⟨a,b,c,d,rfl⟩
  have ci : Tryz.prog.cellsOf 3 = 1:=by kernel_rfl
  have cr : Tryz.prog.cellsOf 21 = 1:=by kernel_rfl
  have h0 : DataW.trod enc Tryz.prog w 0 sp hd n 3 (([a,b,c,d].drop 0).take (Tryz.prog.cellsOf 3)) = some x0:=hf 0 _ rfl
  have h1 : DataW.trod enc Tryz.prog w 0 sp hd n 3 (([a,b,c,d].drop 1).take (Tryz.prog.cellsOf 3)) = some x1:=hf 1 _ rfl
  have h2 : DataW.trod enc Tryz.prog w 0 sp hd n 3 (([a,b,c,d].drop 2).take (Tryz.prog.cellsOf 3)) = some x2:=hf 2 _ rfl
  have h3 : DataW.trod enc Tryz.prog w 0 sp hd n 21 (([a,b,c,d].drop 3).take (Tryz.prog.cellsOf 21)) = some x3:=hf 3 _ rfl
  rw [ci] at h0 h1 h2
  rw [cr] at h3
  obtain ⟨n0,e0,_,w0⟩:=DataW.trod_int Tryz.underlying3 h0
  obtain ⟨n1,e1,_,w1⟩:=DataW.trod_int Tryz.underlying3 h1
  obtain ⟨n2,e2,_,w2⟩:=DataW.trod_int Tryz.underlying3 h2
  obtain ⟨n3,e3,_,w3⟩:=DataW.trod_int Tryz.underlying21 h3
  simp only [List.drop_zero,List.take_succ_cons,List.take_zero,List.drop_succ_cons,List.cons.injEq,and_true] at e0 e1 e2 e3
  exact ⟨(n0,n1,n2,n3),by rw [e0,e1,e2,e3]; rfl,w0,w1,w2,w3⟩⟩
theorem ztl : Rd Tryz.prog qs 87 fun c=>(Lit.int .i32 c.1).wf = true ∧ (Lit.int .i64 c.2).wf = true :=
 ⟨by kernel_rfl,by decide,fun enc w sp hd fuel cs x h=>by
  obtain ⟨xs,n,_,_,hl,hn,hf⟩:=DataW.trod_struct zmw h
  have hl2 : cs.length = 2:=hl.trans (by kernel_rfl)
  obtain ⟨a,b,rfl⟩ : ∃ a b,cs = [a,b]:=by
   match cs,hl2 with
   |[a,b],_=>exact ⟨a,b,rfl⟩
  have hn2 : xs.length = 2:=hn
  obtain ⟨x0,x1,rfl⟩ : ∃ a b,xs = [a,b]:=by
   match xs,hn2 with
   |[a,b],_=>exact ⟨a,b,rfl⟩
  have c0 : Tryz.prog.cellsOf 21 = 1:=by kernel_rfl
  have c1 : Tryz.prog.cellsOf 3 = 1:=by kernel_rfl
  have h0 : DataW.trod enc Tryz.prog w 0 sp hd n 21 (([a,b].drop 0).take (Tryz.prog.cellsOf 21)) = some x0:=hf 0 _ rfl
  have h1 : DataW.trod enc Tryz.prog w 0 sp hd n 3 (([a,b].drop 1).take (Tryz.prog.cellsOf 3)) = some x1:=hf 1 _ rfl
  rw [c0] at h0
  rw [c1] at h1
  obtain ⟨n0,e0,_,w0⟩:=DataW.trod_int Tryz.underlying21 h0
  obtain ⟨n1,e1,_,w1⟩:=DataW.trod_int Tryz.underlying3 h1
  simp only [List.drop_zero,List.take_succ_cons,List.take_zero,List.drop_succ_cons,List.cons.injEq,and_true] at e0 e1
  exact ⟨(n0,n1),by rw [e0,e1]; rfl,w0,w1⟩⟩
theorem wu : RdF Tryz.prog 3 (fun n : Int=>[I n]) (fun n=>(Lit.int .i64 n).wf = true):=z3d Tryz.underlying3
theorem zyz : RdF Tryz.prog 4 (fun b : Bool=>[B b]) (fun _=>True):=zyy zdq
theorem ztk : RdF Tryz.prog 25 (fun l : List zp=>[slA qs l]) (fun _=>True):=(zou ztl zok).any
theorem zyw : RdF Tryz.prog 27 (fun g : Int × Int × List zp=>[I g.1,I g.2.1,slA qs g.2.2]) (fun _=>True):=by
 have h:=y6 zf7 (by kernel_rfl) (ji wu (by kernel_rfl) (ji wu (by kernel_rfl) (zgc ztk (by kernel_rfl))))
 exact h.any
theorem zf6 {L : List (String × DataW Unit)} {W : World} (h : laidMetH Tryz.prog L W) {n : String} {d : DataW Unit} (hm : (n,d) ∈ L) (hd : d.handleName?.isNone = true) : Lib.VarReads Tryz.prog W n d :=
 Lib.laidMet.reads (laidMetH_iff.1 h).1 (List.mem_filter.2 ⟨hm,hd⟩)
theorem zkg : Tryz.prog.cellsOf 5 = 1:=by kernel_rfl
theorem z7g : Tryz.prog.globalNamed "unicode/utf8.first" = some 1:=by kernel_rfl
theorem z3x : (Tryz.prog.globals[1]?).map (·.type) = some 211:=by kernel_rfl
theorem qc5 : Tryz.prog.globalNamed "unicode/utf8.acceptRanges" = some 2:=by kernel_rfl
theorem z_z : (Tryz.prog.globals[2]?).map (·.type) = some 214:=by kernel_rfl
theorem zu_ : Rows.laid_unicode_utf8_first = Lib.firstData:=by kernel_rfl
theorem z5m : (Rows.laid_unicode_utf8_acceptRanges : DataW Unit) = Lib.acceptData:=by kernel_rfl
theorem z20 {W : World} (h3 : Lib.VarReads Tryz.prog W "unicode/utf8.first" Rows.laid_unicode_utf8_first) (h4 : Lib.VarReads Tryz.prog W "unicode/utf8.acceptRanges" Rows.laid_unicode_utf8_acceptRanges) : Gh.le zmz (zaf W):=by
 intro b o v hv
 unfold zmz at hv
 split at hv
 ·rename_i hb
  subst hb
  obtain ⟨g,t,cs,fuel,p,hg,hty,hvar,hd⟩:=h3
  obtain rfl:=Option.some.inj (z7g.symm.trans hg)
  obtain rfl:=Option.some.inj (z3x.symm.trans hty)
  rw [zu_] at hd
  have hcs:=Lib.cells_of_tab Tryz.underlying211 Tryz.underlying5 zkg (by kernel_rfl) hd
  show W.cell? ⟨1,o,none⟩ = some v
  rw [World.var?_cell hg hvar o,← Array.getElem?_toList,hcs,← hv]
  simp [zej,Lib.firstTab]; rfl
 ·split at hv
  ·rename_i hb
   subst hb
   obtain ⟨g,t,cs,fuel,p,hg,hty,hvar,hd⟩:=h4
   obtain rfl:=Option.some.inj (qc5.symm.trans hg)
   obtain rfl:=Option.some.inj (z_z.symm.trans hty)
   rw [z5m] at hd
   have ho : o < 32:=(List.getElem?_eq_some_iff.1 hv).1
   have hi : o / 2 < 16:=by omega
   obtain ⟨fuel',d,q,hdi,he⟩:=Lib.array_elem Tryz.underlying214 hd (o / 2) hi
   simp only [List.getElem?_map,List.getElem?_range hi,Option.map_some,Option.some.injEq] at hdi
   subst hdi
   have hc2 : Tryz.prog.cellsOf 213 = 2:=by kernel_rfl
   rw [hc2] at he
   have hcs:=Lib.ints_of_struct Tryz.underlying213 (fun j f hj=>by
    match j,hj with
    |0,hj=>simp at hj; subst hj; exact ⟨Tryz.underlying5,rfl,zkg⟩
    |1,hj=>simp at hj; subst hj; exact ⟨Tryz.underlying5,rfl,zkg⟩
    |j + 2,hj=>simp at hj) (by rw [hc2]; rfl) he
   show W.cell? ⟨2,o,none⟩ = some v
   rw [World.var?_cell hg hvar o,← Array.getElem?_toList]
   have h5 : cs.toList[o]? = ((cs.toList.drop (o / 2 * 2)).take 2)[o % 2]?:=by
    rw [List.getElem?_take,if_pos (by omega),List.getElem?_drop]
    congr 1
    omega
   have h6 : z1e[o]? = [Value.int .u8 (Lib.accLo (o / 2) : Nat),.int .u8 (Lib.accHi (o / 2) : Nat)][o % 2]?:=by
    have:=jw (T:={ enc:=fun i : Nat=>[Value.int .u8 (Lib.accLo i : Nat),.int .u8 (Lib.accHi i : Nat)],k:=2,len:=fun _=>rfl }) (List.range 16) (o / 2) (o % 2) (o / 2) (by rw [List.getElem?_range hi]) (by show o % 2 < 2; omega)
    have h7 : o / 2 * 2 + o % 2 = o:=by omega
    simp only [h7] at this
    exact this
   rw [h5,hcs,← hv,h6]; rfl
  ·cases hv
theorem qc4 : Tryz.prog.globalNamed "typebar/wide.spans" = some 0:=by kernel_rfl
theorem zzt : (Tryz.prog.globals[0]?).map (·.type) = some 195:=by kernel_rfl
theorem zix : Tryz.prog.cellsOf 194 = 2:=by kernel_rfl
theorem zwj : Tryz.prog.cellsOf 21 = 1:=by kernel_rfl
theorem zs6 : (Rows.laid_typebar_wide_spans : DataW Unit) = .agg (kz.map fun p=>.agg ([p.1,p.2].map fun z=>.lit (.int .i32 z))):=rfl
theorem z21 {W : World} (h : Lib.VarReads Tryz.prog W "typebar/wide.spans" Rows.laid_typebar_wide_spans) : Gh.le z22 (zaf W):=by
 intro b o v hv
 unfold z22 at hv
 split at hv
 ·rename_i hb
  subst hb
  obtain ⟨g,t,cs,fuel,p,hg,hty,hvar,hd⟩:=h
  obtain rfl:=Option.some.inj (qc4.symm.trans hg)
  obtain rfl:=Option.some.inj (zzt.symm.trans hty)
  rw [zs6] at hd
  have ho : o < 22:=(List.getElem?_eq_some_iff.1 hv).1
  have hi : o / 2 < 11:=by omega
  obtain ⟨m,hm⟩ : ∃ m,kz[o / 2]? = some m:=⟨kz[o / 2]'hi,List.getElem?_eq_getElem hi⟩
  obtain ⟨fuel',d,q,hdi,he⟩:=Lib.array_elem ul hd (o / 2) hi
  rw [List.getElem?_map,hm,Option.map_some,Option.some.injEq] at hdi
  subst hdi
  have hcs:=Lib.cells_of_tab (zs:=[m.1,m.2]) vk Tryz.underlying21 zwj zix he
  show W.cell? ⟨0,o,none⟩ = some v
  rw [World.var?_cell hg hvar o,← Array.getElem?_toList]
  have h5 : cs.toList[o]? = ((cs.toList.drop (o / 2 * 2)).take 2)[o % 2]?:=by
   rw [List.getElem?_take,if_pos (by omega),List.getElem?_drop]
   congr 1
   omega
  have h6 : zf_[o]? = [Value.int .i32 m.1,.int .i32 m.2][o % 2]?:=by
   have:=jw (T:={ enc:=fun p : Int × Int=>[.int .i32 p.1,.int .i32 p.2],k:=2,len:=fun _=>rfl }) kz (o / 2) (o % 2) m hm (by show o % 2 < 2; omega)
   have h7 : o / 2 * 2 + o % 2 = o:=by omega
   simp only [h7] at this
   exact this
  rw [zix] at hcs
  rw [h5,hcs,← hv,h6]; rfl
 ·cases hv
def zm0 : Gh:=fun b o=>if b = 0 then zf_[o]? else zmz b o
instance z_x : TabS zm0:=⟨fun b o v h=>by
 unfold z22 at h; unfold zm0
 split at h
 ·rename_i hb; rw [if_pos hb]; exact h
 ·cases h⟩
instance z_w : TabU zm0:=⟨fun b o v h=>by
 have hb : b ≠ 0:=by
  rintro rfl; unfold zmz at h; rw [if_neg (by decide),if_neg (by decide)] at h; cases h
 unfold zm0; rw [if_neg hb]; exact h⟩
theorem zx7 {W : World} (h1 : Gh.le z22 (zaf W)) (h2 : Gh.le zmz (zaf W)) : Gh.le zm0 (zaf W):=fun b o v h=>by
 unfold zm0 at h
 split at h
 ·rename_i hb; exact h1 b o v (by unfold z22; rw [if_pos hb]; exact h)
 ·exact h2 b o v h
theorem zbz {L : List (String × DataW Unit)} {W : World} (h : laidMetH Tryz.prog L W) (m1 : ("unicode/utf8.first",Rows.laid_unicode_utf8_first) ∈ L) (m2 : ("unicode/utf8.acceptRanges",Rows.laid_unicode_utf8_acceptRanges) ∈ L) (m3 : ("typebar/wide.spans",Rows.laid_typebar_wide_spans) ∈ L) : Gh.le zm0 (zaf W) :=
 zx7 (z21 (zf6 h m3 rfl)) (z20 (zf6 h m1 rfl) (zf6 h m2 rfl))
def z91 : DataW Unit → Array Value
 |.agg l=>(l.map fun x=>match x with | .lit y=>y.value | _=>undef).toArray
 |_ => #[]
def z5t (vs : Array Value) : Obj → Obj
 |.cells _ t frozen=>.cells vs t frozen
 |o=>o
noncomputable def vc (os : Os) : World :=
 { World.holding Tryz.prog os ⟨#[], #[],[]⟩ with heap:=((((((World.holding Tryz.prog os ⟨#[], #[],[]⟩).heap.modify 1 (z5t zej.toArray)).modify 2 (z5t z1e.toArray)).modify 0 (z5t zf_.toArray)).modify 3 (z5t (z91 Rows.laid_internal_strconv_uint64pow10))).modify 4 (z5t (z91 Rows.laid_math_bits_deBruijn32tab))).modify 5 (z5t (z91 Rows.laid_math_bits_deBruijn64tab)) }
end
section
open Go.ChangeShapes Go.WideShapes Go.ChangeAt Go.RowKit
set_option maxRecDepth 100000
theorem zyu : RdF Tryz.prog 29 (fun t : (Int × Int × List zp) × Int × Int × Bool=>[I t.1.1,I t.1.2.1,slA qs t.1.2.2,I t.2.1,I t.2.2.1,B t.2.2.2]) (fun _=>True):=by
 have h:=y6 yr (by kernel_rfl) (ji zyw (by kernel_rfl) (ji wu (by kernel_rfl) (ji wu (by kernel_rfl) (zgc zyz (by kernel_rfl)))))
 exact h.any
end
section
open Go.ChangeShapes Go.WideShapes Go.ChangeAt Go.RowKit
set_option maxRecDepth 100000
theorem z9_ : Rd Tryz.prog guT 96 fun _=>True :=
 ⟨by kernel_rfl,by decide,fun enc w sp hd fuel cs x h=>by
  obtain ⟨xs,n,_,_,hl,hn,hf⟩:=DataW.trod_struct zx1 h
  have hl2 : cs.length = 3:=hl.trans (by kernel_rfl)
  obtain ⟨a,b,c,rfl⟩ : ∃ a b c,cs = [a,b,c]:=by
   match cs,hl2 with
   |[a,b,c],_=>exact ⟨a,b,c,rfl⟩
  have hn2 : xs.length = 2:=hn
  obtain ⟨x0,x1,rfl⟩ : ∃ a b,xs = [a,b]:=by
   match xs,hn2 with
   |[a,b],_=>exact ⟨a,b,rfl⟩
  have c0 : Tryz.prog.cellsOf 87 = 2:=by kernel_rfl
  have c1 : Tryz.prog.cellsOf 4 = 1:=by kernel_rfl
  have h0 : DataW.trod enc Tryz.prog w 0 sp hd n 87 (([a,b,c].drop 0).take (Tryz.prog.cellsOf 87)) = some x0:=hf 0 _ rfl
  have h1 : DataW.trod enc Tryz.prog w 0 sp hd n 4 (([a,b,c].drop 2).take (Tryz.prog.cellsOf 4)) = some x1:=hf 1 _ rfl
  rw [c0] at h0
  rw [c1] at h1
  obtain ⟨ce,e0,_⟩:=ztl.of enc w sp hd n _ _ h0
  obtain ⟨bo,e1,_⟩:=DataW.trod_bool zdq h1
  simp only [List.drop_zero,List.take_succ_cons,List.take_zero,List.drop_succ_cons,List.cons.injEq,and_true,qs] at e0 e1
  exact ⟨(ce,bo),by rw [e0.1,e0.2,e1]; rfl,trivial⟩⟩
theorem z3e : RdF Tryz.prog 22 (fun l : List zj=>[slA guT l]) (fun _=>True):=(zou z9_ z1m).any
theorem z3f : RdF Tryz.prog 24 (fun b : Bel=>[I b.1,I b.2.1,slA guT b.2.2.1,I b.2.2.2.1,I b.2.2.2.2.1,B b.2.2.2.2.2.1,B b.2.2.2.2.2.2]) (fun _=>True):=by
 have h:=y6 zi6 (by kernel_rfl) (ji wu (by kernel_rfl) (ji wu (by kernel_rfl) (ji z3e (by kernel_rfl) (ji wu (by kernel_rfl) (ji wu (by kernel_rfl) (ji zyz (by kernel_rfl) (zgc zyz (by kernel_rfl))))))))
 exact h.any
end
end Go.Proofs.YtgfmjmfphmjdkaaGreatDoor
