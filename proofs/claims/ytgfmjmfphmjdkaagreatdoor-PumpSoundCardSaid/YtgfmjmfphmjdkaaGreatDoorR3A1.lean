/- A small logic of our own over the walk's wp: values and memory told abstractly: what is read only is a ghost memory that grows, what is written is owned block by block. No condition. -/
import Derived.Deep.LoopGhost
import Derived.Deep.Quiet
import Derived.Below
import Derived.KernelRfl
set_option linter.unusedSimpArgs false
set_option linter.unusedVariables false
set_option linter.unusedSectionVars false
namespace Go.Proofs.YtgfmjmfphmjdkaaGreatDoor
set_option maxHeartbeats 4000000
open Go Go.RowKit
abbrev Gh:=Nat → Nat → Option Value
def Gh.le (G G' : Gh) : Prop := ∀ b o v,G b o = some v → G' b o = some v
theorem Gh.le.refl (G : Gh) : Gh.le G G:=fun _ _ _ h=>h
theorem Gh.le.trans {A B C : Gh} (h : Gh.le A B) (k : Gh.le B C) : Gh.le A C:=fun _ _ _ e=>k _ _ _ (h _ _ _ e)
abbrev AV:=Gh → Value → Prop
def Rep (G : Gh) (A : AV) (u : Value) : Prop := ∃ G0,Gh.le G0 G ∧ A G0 u
theorem Rep.mono {G G' : Gh} {A : AV} {u : Value} (h : Gh.le G G') (r : Rep G A u) : Rep G' A u :=
 let ⟨G0,h0,h1⟩:=r; ⟨G0,h0.trans h,h1⟩
theorem Rep.of {G : Gh} {A : AV} {u : Value} (h : A G u) : Rep G A u:=⟨G,Gh.le.refl G,h⟩
def AllRep (G : Gh) : List AV → List Value → Prop
 |[],[]=>True
 |A :: l,u :: us=>Rep G A u ∧ AllRep G l us
 |_,_=>False
theorem AllRep.mono {G G' : Gh} (h : Gh.le G G') : ∀ {l us},AllRep G l us → AllRep G' l us
 |[],[],_=>trivial
 |_ :: _,_ :: _,r=>⟨r.1.mono h,AllRep.mono h r.2⟩
theorem AllRep.len {G : Gh} : ∀ {l us},AllRep G l us → us.length = l.length
 |[],[],_=>rfl
 |_ :: _,_ :: _,r=>congrArg (· + 1) (AllRep.len r.2)
theorem AllRep.get {G : Gh} : ∀ {l us} (i : Nat) {A : AV},AllRep G l us → l[i]? = some A → ∃ u,us[i]? = some u ∧ Rep G A u
 |[],[],i,A,_,h=>by simp at h
 |B :: l,u :: us,0,A,r,h=>by simp at h; subst h; exact ⟨u,rfl,r.1⟩
 |B :: l,u :: us,i + 1,A,r,h=>by simpa using AllRep.get i r.2 (by simpa using h)
theorem AllRep.drop {G : Gh} : ∀ {l us} (i : Nat),AllRep G l us → AllRep G (l.drop i) (us.drop i)
 |[],[],i,_=>by simp [AllRep]
 |_ :: _,_ :: _,0,r=>r
 |_ :: _,_ :: _,i + 1,r=>by simpa using AllRep.drop i r.2
theorem AllRep.take {G : Gh} : ∀ {l us} (i : Nat),AllRep G l us → AllRep G (l.take i) (us.take i)
 |[],[],i,_=>by simp [AllRep]
 |_ :: _,_ :: _,0,_=>by simp [AllRep]
 |_ :: _,_ :: _,i + 1,r=>by simp only [List.take_succ_cons]; exact ⟨r.1,AllRep.take i r.2⟩
theorem AllRep.append {G : Gh} : ∀ {l us l' us'},AllRep G l us → AllRep G l' us' → AllRep G (l ++ l') (us ++ us')
 |[],[],_,_,_,h=>h
 |_ :: _,_ :: _,_,_,r,h=>⟨r.1,AllRep.append r.2 h⟩
def vA (x : Value) : AV:=fun _ u=>u = x
def z0_ : AV:=fun _ _=>True
def qb (l : List AV) : AV:=fun G u => ∃ us : List Value,u = .agg us.toArray ∧ AllRep G l us
def zy (l : List AV) : AV:=fun G u => ∃ us : List Value,u = .tuple us.toArray ∧ AllRep G l us
def gvA (c : Bool) (A : AV) : AV:=fun G u=>(c = true → Rep G A u) ∧ (c = false → u = undef)
abbrev I (n : Int) : AV:=vA (.int .i64 n)
abbrev R (n : Int) : AV:=vA (.int .i32 n)
abbrev U (n : Int) : AV:=vA (.int .u8 n)
abbrev B (b : Bool) : AV:=vA (.bool b)
theorem Rep.eq {G : Gh} {x u : Value} (h : Rep G (vA x) u) : u = x:=let ⟨_,_,e⟩:=h; e
theorem Rep.va (G : Gh) (x : Value) : Rep G (vA x) x:=.of rfl
theorem Rep.any (G : Gh) (u : Value) : Rep G z0_ u:=.of trivial
theorem Rep.agg {G : Gh} {l : List AV} {u : Value} (h : Rep G (qb l) u) : ∃ us : List Value,u = .agg us.toArray ∧ AllRep G l us :=
 let ⟨_,h0,us,e,r⟩:=h; ⟨us,e,r.mono h0⟩
theorem Rep.tup {G : Gh} {l : List AV} {u : Value} (h : Rep G (zy l) u) : ∃ us : List Value,u = .tuple us.toArray ∧ AllRep G l us :=
 let ⟨_,h0,us,e,r⟩:=h; ⟨us,e,r.mono h0⟩
theorem Rep.gv {G : Gh} {c : Bool} {A : AV} {u : Value} (h : Rep G (gvA c A) u) : (c = true → Rep G A u) ∧ (c = false → u = undef) :=
 let ⟨_,h0,a,b⟩:=h; ⟨fun e=>(a e).mono h0,b⟩
structure Ty (α : Type) where
 enc : α → List Value
 k : Nat
 len : ∀ a,(enc a).length = k
def slA {α : Type} (T : Ty α) (l : List α) : AV:=fun G u => ∃ a n cap,u = .slice a n cap ∧ n = l.length ∧ n ≤ cap ∧ cap ≤ maxLen ∧ (a = none → cap = 0) ∧
 (l ≠ [] → ∃ b off,a = some ⟨b,off,none⟩ ∧ ∀ j v,(l.flatMap T.enc)[j]? = some v → G b (off + j) = some v)
def jl {α : Type} (T : Ty α) (l : List α) : AV:=fun G u => ∃ a n,u = .slice a n n ∧ n = l.length ∧ n ≤ maxLen ∧
 (l ≠ [] → ∃ b off,a = some ⟨b,off,none⟩ ∧ ∀ j v,(l.flatMap T.enc)[j]? = some v → G b (off + j) = some v)
def ipA (cs : List Value) : AV:=fun G u => ∃ b off,u = .pointer (some ⟨b,off,none⟩) ∧ ∀ j v,cs[j]? = some v → G b (off + j) = some v
theorem Rep.sl {α : Type} {T : Ty α} {l : List α} {G : Gh} {u : Value} (h : Rep G (slA T l) u) : ∃ a n cap,u = .slice a n cap ∧ n = l.length ∧ n ≤ cap ∧ cap ≤ maxLen ∧ (a = none → cap = 0) ∧
  (l ≠ [] → ∃ b off,a = some ⟨b,off,none⟩ ∧ ∀ j v,(l.flatMap T.enc)[j]? = some v → G b (off + j) = some v):=by
 obtain ⟨G0,h0,a,n,cap,e1,e2,e3,e4,e5,r⟩:=h
 exact ⟨a,n,cap,e1,e2,e3,e4,e5,fun hl=>let ⟨b,off,e,f⟩:=r hl; ⟨b,off,e,fun j v hv=>h0 _ _ _ (f j v hv)⟩⟩
theorem Rep.ip {cs : List Value} {G : Gh} {u : Value} (h : Rep G (ipA cs) u) : ∃ b off,u = .pointer (some ⟨b,off,none⟩) ∧ ∀ j v,cs[j]? = some v → G b (off + j) = some v :=
 let ⟨_,h0,b,off,e,f⟩:=h; ⟨b,off,e,fun j v hv=>h0 _ _ _ (f j v hv)⟩
theorem zei {α : Type} (T : Ty α) (l : List α) : (l.flatMap T.enc).length = l.length * T.k:=by
 induction l with
 |nil=>simp
 |cons x l ih=>simp [ih,T.len,Nat.add_mul,Nat.add_comm]
structure Own where
 foot : Option Nat
 holds : Gh → World → Prop
 mono : ∀ {G G' w},Gh.le G G' → holds G w → holds G' w
 loc : ∀ {G} {w w' : World},(∀ b,foot = some b → w'.heap[b]? = w.heap[b]?) → holds G w → holds G w'
theorem zna {w w' : World} {base e size : Nat} {v : Value} {n : Nat} {xs : List Value} (h : ∀ b,v.ownBlock = some b → w'.heap[b]? = w.heap[b]?) (r : w.ownsRow base e size v n xs) : w'.ownsRow base e size v n xs:=by
 refine ⟨r.1, ?_⟩
 rcases r.2 with h2 | ⟨g,cap,cur,hv,hg,hh,q⟩
 ·exact .inl h2
 ·refine .inr ⟨g,cap,cur,hv,hg, ?_,q⟩
  rw [h g (by rw [hv]; rfl)]; exact hh
def z_ {α : Type} (T : Ty α) (e : TypeId) (u : Value) (l : List α) : Own where
 foot:=u.ownBlock
 holds:=fun _ w=>w.ownsRow 0 e T.k u l.length (l.flatMap T.enc)
 mono:=fun _ h=>h
 loc:=fun h r=>zna h r
def qh (b : Nat) (e : TypeId) (cells : List AV) : Own where
 foot:=some b
 holds:=fun G w => ∃ cs : List Value,w.heap[b]? = some (.cells cs.toArray e (0,0)) ∧ AllRep G cells cs
 mono:=fun h ⟨cs,a,r⟩=>⟨cs,a,r.mono h⟩
 loc:=fun h ⟨cs,a,r⟩=>⟨cs,(h _ rfl).trans a,r⟩
structure St (T0 : Gh) (w0 : World) (G : Gh) (M : List Own) (w : World) : Prop where
 below : Below w0.heap.size w0 w
 tab : Gh.le T0 G
 imm : ∀ b o v,G b o = some v → w.cell? ⟨b,o,none⟩ = some v
 own : ∀ m ∈ M,m.holds G w
 foot : ∀ m ∈ M,∀ b,m.foot = some b → w0.heap.size ≤ b ∧ b < w.heap.size ∧ ∀ o,G b o = none
 sep : (M.filterMap Own.foot).Nodup
theorem St.drew {T0 G : Gh} {w0 w : World} {M : List Own} (h : St T0 w0 G M w) : St T0 w0 G M { w with drawn:=w.drawn + 1 } :=
 ⟨⟨h.below.os,h.below.tape,h.below.output,h.below.size,h.below.block⟩,h.tab,h.imm,fun m hm=>m.loc (w:=w) (fun _ _=>rfl) (h.own m hm),h.foot,h.sep⟩
theorem St.sub {T0 G : Gh} {w0 w : World} {M M' : List Own} (h : St T0 w0 G M w) (s : List.Sublist M' M) : St T0 w0 G M' w :=
 ⟨h.below,h.tab,h.imm,fun m hm=>h.own m (s.subset hm),fun m hm=>h.foot m (s.subset hm),(s.filterMap _).nodup h.sep⟩
theorem St.perm {T0 G : Gh} {w0 w : World} {M M' : List Own} (h : St T0 w0 G M w) (s : List.Perm M' M) : St T0 w0 G M' w :=
 ⟨h.below,h.tab,h.imm,fun m hm=>h.own m (s.subset hm),fun m hm=>h.foot m (s.subset hm),(s.filterMap _).nodup_iff.2 h.sep⟩
theorem St.gmono {T0 G G' : Gh} {w0 w : World} {M : List Own} (h : St T0 w0 G M w) (l : Gh.le G G') (hi : ∀ b o v,G' b o = some v → w.cell? ⟨b,o,none⟩ = some v)
  (hf : ∀ m ∈ M,∀ b,m.foot = some b → ∀ o,G' b o = none) : St T0 w0 G' M w :=
 ⟨h.below,h.tab.trans l,hi,fun m hm=>m.mono l (h.own m hm),fun m hm b hb=>let ⟨x,y,_⟩:=h.foot m hm b hb; ⟨x,y,hf m hm b hb⟩,h.sep⟩
theorem u6 {w : World} {b o : Nat} {v : Value} (h : w.cell? ⟨b,o,none⟩ = some v) : b < w.heap.size:=World.block_lt_of_cell? w _ h
theorem St.alloc {T0 G : Gh} {w0 w : World} {M : List Own} (h : St T0 w0 G M w) (o : Obj) (m : Own) (hf : m.foot = some w.heap.size) (hm : m.holds G (w.alloc o)) : St T0 w0 G (m :: M) (w.alloc o):=by
 have old : ∀ b,b < w.heap.size → (w.alloc o).heap[b]? = w.heap[b]?:=fun b hb=>heap_alloc_old w o b hb
 refine ⟨h.below.trans ((Below.refl _ _).alloc h.below.size o),h.tab,fun b of v hv => ?_,fun x hx => ?_,fun x hx b hb => ?_, ?_⟩
 ·have:=h.imm b of v hv
  rw [World.cell?_of_block (w:=w) (old b (u6 this))]; exact this
 ·rcases List.mem_cons.1 hx with rfl | hx
  ·exact hm
  ·exact x.loc (fun b hb=>old b (h.foot x hx b hb).2.1) (h.own x hx)
 ·have hs : (w.alloc o).heap.size = w.heap.size + 1:=by simp
  rcases List.mem_cons.1 hx with rfl | hx
  ·rw [hf] at hb; obtain rfl:=Option.some.inj hb
   refine ⟨h.below.size,by omega,fun of => ?_⟩
   cases hg : G w.heap.size of with
   |none=>rfl
   |some v=>exact absurd (u6 (h.imm _ _ _ hg)) (Nat.lt_irrefl _)
  ·obtain ⟨a1,a2,a3⟩:=h.foot x hx b hb
   exact ⟨a1,by omega,a3⟩
 ·simp only [List.filterMap_cons,hf,List.nodup_cons]
  refine ⟨fun hin => ?_,h.sep⟩
  obtain ⟨x,hx,hxf⟩:=List.mem_filterMap.1 hin
  exact absurd (h.foot x hx _ hxf).2.1 (Nat.lt_irrefl _)
theorem St.allocG {T0 G : Gh} {w0 w : World} {M : List Own} (h : St T0 w0 G M w) (c : Array Value) (t : TypeId) :
  St T0 w0 (fun b o=>if b = w.heap.size then c[o]? else G b o) M (w.alloc (.cells c t)) ∧ Gh.le G (fun b o=>if b = w.heap.size then c[o]? else G b o):=by
 have old : ∀ b,b < w.heap.size → (w.alloc (.cells c t)).heap[b]? = w.heap[b]?:=fun b hb=>heap_alloc_old w _ b hb
 have hle : Gh.le G (fun b o=>if b = w.heap.size then c[o]? else G b o):=fun b o v hv=>by
  have:=u6 (h.imm _ _ _ hv)
  simp only [if_neg (Nat.ne_of_lt this)]; exact hv
 refine ⟨⟨h.below.trans ((Below.refl _ _).alloc h.below.size _),h.tab.trans hle,fun b of v hv => ?_,fun x hx=>x.mono hle (x.loc (fun b hb=>old b (h.foot x hx b hb).2.1) (h.own x hx)),fun x hx b hb => ?_,h.sep⟩,hle⟩
 ·by_cases hb : b = w.heap.size
  ·subst hb; simp only [if_true] at hv
   rw [cell_of_row _ _ _ _ _ _ (heap_alloc_new w _)]; exact hv
  ·simp only [if_neg hb] at hv
   have:=h.imm b of v hv
   rw [World.cell?_of_block (w:=w) (old b (u6 this))]; exact this
 ·obtain ⟨a1,a2,a3⟩:=h.foot x hx b hb
  have hs : (w.alloc (.cells c t)).heap.size = w.heap.size + 1:=by simp
  refine ⟨a1,by omega,fun o => ?_⟩
  simp only [if_neg (Nat.ne_of_lt a2)]; exact a3 o
theorem St.grown {T0 G : Gh} {w0 w w' : World} {M : List Own} {i : Nat} {m m' : Own} (h : St T0 w0 G M w) (hi : M[i]? = some m) (hg : w.grownBy w' m.foot)
  (hm : m'.holds G w') (hf : ∀ b,m'.foot = some b → (m.foot = some b ∨ w.heap.size ≤ b) ∧ b < w'.heap.size) : St T0 w0 G (M.set i m') w':=by
 have hmem : m ∈ M:=List.mem_of_getElem? hi
 have hlt : i < M.length:=(List.getElem?_eq_some_iff.1 hi).1
 have hget : M[i] = m:=(List.getElem?_eq_some_iff.1 hi).2
 have keep : ∀ x ∈ M,x.foot ≠ m.foot → ∀ b,x.foot = some b → w'.heap[b]? = w.heap[b]?:=fun x hx hne b hb =>
  hg.block b (h.foot x hx b hb).2.1 (by rw [← hb]; exact hne)
 have old : ∀ b,b < w0.heap.size → w'.heap[b]? = w.heap[b]?:=fun b hb=>hg.block b (Nat.lt_of_lt_of_le hb h.below.size) (fun e=>by
  have:=(h.foot m hmem b e.symm).1; omega)
 have hsplit : M = M.take i ++ m :: M.drop (i + 1):=by rw [← hget]; simp
 have hset : M.set i m' = M.take i ++ m' :: M.drop (i + 1):=by rw [List.set_eq_take_append_cons_drop,if_pos hlt]
 have hsep:=h.sep
 rw [hsplit] at hsep
 have other : ∀ x,x ∈ M.take i ∨ x ∈ M.drop (i + 1) → x.foot ≠ none → x.foot ≠ m.foot:=by
  intro x hx hn he
  cases hb : m.foot with
  |none=>exact hn (he.trans hb)
  |some b =>
   rw [List.filterMap_append,List.filterMap_cons,hb] at hsep
   simp only [List.nodup_append,List.nodup_cons] at hsep
   rcases hx with hx | hx
   ·exact hsep.2.2 b (List.mem_filterMap.2 ⟨x,hx,he.trans hb⟩) b (by simp) rfl
   ·exact hsep.2.1.1 (List.mem_filterMap.2 ⟨x,hx,he.trans hb⟩)
 refine ⟨⟨hg.os.trans h.below.os,hg.tape.trans h.below.tape,hg.output.trans h.below.output,Nat.le_trans h.below.size hg.size,fun b hb=>(old b hb).trans (h.below.block b hb)⟩,
  h.tab,fun b o v hv => ?_,fun x hx => ?_,fun x hx b hb => ?_, ?_⟩
 ·have h1:=h.imm b o v hv
  refine (World.cell?_of_block (w:=w) (hg.block b (u6 h1) fun e => ?_)).trans h1
  have:=(h.foot m hmem b e.symm).2.2 o
  rw [this] at hv; cases hv
 ·rw [hset] at hx
  rcases List.mem_append.1 hx with hx' | hx'
  ·have hxM : x ∈ M:=List.mem_of_mem_take hx'
   refine x.loc (fun b hb=>keep x hxM (other x (.inl hx') (by rw [hb]; simp)) b hb) (h.own x hxM)
  ·rcases List.mem_cons.1 hx' with rfl | hx''
   ·exact hm
   ·have hxM : x ∈ M:=List.mem_of_mem_drop hx''
    refine x.loc (fun b hb=>keep x hxM (other x (.inr hx'') (by rw [hb]; simp)) b hb) (h.own x hxM)
 ·have none_new : ∀ b,w.heap.size ≤ b → ∀ o,G b o = none:=fun b hb o=>by
   cases hg' : G b o with
   |none=>rfl
   |some v=>have:=u6 (h.imm _ _ _ hg'); omega
  rw [hset] at hx
  have hM : x ∈ M ∨ x = m':=by
   rcases List.mem_append.1 hx with hx' | hx'
   ·exact .inl (List.mem_of_mem_take hx')
   ·rcases List.mem_cons.1 hx' with rfl | hx''
    ·exact .inr rfl
    ·exact .inl (List.mem_of_mem_drop hx'')
  rcases hM with hxM | rfl
  ·obtain ⟨a1,a2,a3⟩:=h.foot x hxM b hb
   exact ⟨a1,Nat.lt_of_lt_of_le a2 hg.size,a3⟩
  ·obtain ⟨hf1,hf2⟩:=hf b hb
   rcases hf1 with hf1 | hf1
   ·obtain ⟨a1,a2,a3⟩:=h.foot m hmem b hf1
    exact ⟨a1,hf2,a3⟩
   ·exact ⟨Nat.le_trans h.below.size hf1,hf2,none_new b hf1⟩
 ·rw [hset,List.filterMap_append]
  rw [List.filterMap_append] at hsep
  cases hb' : m'.foot with
  |none =>
   rw [List.filterMap_cons,hb']
   refine List.Nodup.sublist ?_ hsep
   refine List.Sublist.append (List.Sublist.refl _) ?_
   rw [List.filterMap_cons]
   cases m.foot with
   |none=>exact List.Sublist.refl _
   |some _=>exact List.sublist_cons_self _ _
  |some b' =>
   rw [List.filterMap_cons,hb']
   have hbase : (List.filterMap Own.foot (M.take i) ++ List.filterMap Own.foot (M.drop (i + 1))).Nodup:=by
    refine List.Nodup.sublist ?_ hsep
    refine List.Sublist.append (List.Sublist.refl _) ?_
    rw [List.filterMap_cons]
    cases m.foot with
    |none=>exact List.Sublist.refl _
    |some _=>exact List.sublist_cons_self _ _
   have hnot : ∀ x,x ∈ M.take i ∨ x ∈ M.drop (i + 1) → x.foot ≠ some b':=fun x hx he=>by
    rcases (hf b' hb').1 with h1 | h1
    ·exact other x hx (by rw [he]; simp) (he.trans h1.symm)
    ·have hxM : x ∈ M:=hx.elim List.mem_of_mem_take List.mem_of_mem_drop
     have:=(h.foot x hxM b' he).2.1
     omega
   simp only [List.nodup_append,List.nodup_cons] at hbase ⊢
   refine ⟨hbase.1,⟨fun hin => ?_,hbase.2.1⟩,fun a ha c hc => ?_⟩
   ·obtain ⟨x,hx,hxf⟩:=List.mem_filterMap.1 hin
    exact hnot x (.inr hx) hxf
   ·rcases List.mem_cons.1 hc with rfl | hc
    ·obtain ⟨x,hx,hxf⟩:=List.mem_filterMap.1 ha
     intro he; subst he
     exact hnot x (.inl hx) hxf
    ·exact hbase.2.2 a ha c hc
end Go.Proofs.YtgfmjmfphmjdkaaGreatDoor
