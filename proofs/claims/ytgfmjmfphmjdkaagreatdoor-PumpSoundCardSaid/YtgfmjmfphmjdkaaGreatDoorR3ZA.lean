/- Several texts in one: see the comment ahead of each. No condition. -/
import Derived.Test.YtgfmjmfphmjdkaaGreatDoorR3A1
import Derived.WalkKit
set_option linter.unusedSimpArgs false
set_option linter.unusedVariables false
set_option linter.unusedSectionVars false
namespace Go.Proofs.YtgfmjmfphmjdkaaGreatDoor
set_option maxHeartbeats 4000000
section
open Go Go.RowKit
structure Fz where
 n : Nat
 D : List Deferred
abbrev Fr:=List (Nat × AV)
def Fr.get : Fr → Nat → Option AV
 |[],_=>none
 |(d,A) :: r,s=>bif Nat.beq s d then some A else Fr.get r s
def frOn (G : Gh) (R : Nat → Prop) (fr : Fr) (tmps : Array Value) : Prop := ∀ s A,R s → fr.get s = some A → ∃ u,tmps[s]? = some u ∧ Rep G A u
abbrev frRel (G : Gh) (fr : Fr) (tmps : Array Value) : Prop:=frOn G (fun _=>True) fr tmps
def Fr.put (fr : Fr) (d : Option Tmp) (A : AV) : Fr:=match d with | some d=>(d,A) :: fr | none=>fr
theorem frOn.gmono {G G' : Gh} {R : Nat → Prop} {fr : Fr} {t : Array Value} (h : Gh.le G G') (r : frOn G R fr t) : frOn G' R fr t :=
 fun s A hs e=>let ⟨u,a,b⟩:=r s A hs e; ⟨u,a,b.mono h⟩
theorem zat {s d : Nat} (h : s ≠ d) : Nat.beq s d = false:=by
 cases hb : Nat.beq s d with
 |false=>rfl
 |true=>exact absurd (Nat.eq_of_beq_eq_true hb) h
theorem qm (fr : Fr) (d : Nat) (A : AV) : Fr.get ((d,A) :: fr) d = some A:=by simp [Fr.get]
theorem qf {fr : Fr} {d s : Nat} {A : AV} (h : s ≠ d) : Fr.get ((d,A) :: fr) s = fr.get s:=by
 have : Nat.beq s d = false:=zat h
 simp [Fr.get,this]
theorem frRel.put {G : Gh} {fr : Fr} {a : Act} {d : Option Tmp} {A : AV} {u : Value} (h : frRel G fr a.tmps) (hd : ∀ x,d = some x → x < a.tmps.size) (hu : Rep G A u) : frRel G (fr.put d A) (a.put d u).tmps:=by
 cases d with
 |none=>exact h
 |some d =>
  intro s B _ e
  by_cases hs : s = d
  ·subst hs
   simp only [Fr.put,qm] at e
   obtain rfl:=Option.some.inj e
   exact ⟨u,by simp [Act.put,hd s rfl],hu⟩
  ·simp only [Fr.put,qf hs] at e
   obtain ⟨v,a1,a2⟩:=h s B trivial e
   exact ⟨v,by simp only [Act.put]; rw [Array.getElem?_setIfInBounds_ne (Ne.symm hs)]; exact a1,a2⟩
theorem zyi (a : Act) (d : Option Tmp) (u : Value) : (a.put d u).tmps.size = a.tmps.size:=by cases d <;> simp [Act.put]
theorem zrz (a : Act) (d : Option Tmp) (u : Value) : (a.put d u).defers = a.defers:=by cases d <;> rfl
section
variable (P : Program) (T0 : Gh) (N : Fz)
structure Con (w0 : World) (G : Gh) (F : List Own) (fr : Fr) (M : List Own) (a : Act) (w : World) : Prop where
 st : St T0 w0 G (M ++ F) w
 fr : frRel G fr a.tmps
 size : a.tmps.size = N.n
 defers : a.defers = N.D
abbrev ko:=Exit → Fr → List Own → Prop
def cQ (w0 : World) (G0 : Gh) (F : List Own) (Q : ko) : Exit → Act → World → Prop:=fun e a w => ∃ fr M G,Q e fr M ∧ Gh.le G0 G ∧ Con T0 N w0 G F fr M a w
def AW (c : Code) (Q : ko) (fr : Fr) (M : List Own) : Prop := ∀ w0 G F a w,Con T0 N w0 G F fr M a w → c.wp P (cQ T0 N w0 G F Q) a w
end
section
variable {P : Program} {T0 : Gh} {N : Fz} {Q : ko} {fr : Fr} {M : List Own}
theorem cQ.mono {w0 : World} {G0 G1 : Gh} {F : List Own} {Q Q' : ko} (h : ∀ e fr M,Q e fr M → Q' e fr M) (hl : Gh.le G0 G1) {e : Exit} {a : Act} {w : World} (q : cQ T0 N w0 G1 F Q e a w) : cQ T0 N w0 G0 F Q' e a w :=
 let ⟨fr,M,G,q1,q2,q3⟩:=q; ⟨fr,M,G,h _ _ _ q1,hl.trans q2,q3⟩
theorem AW.mono {c : Code} {Q' : ko} (h : AW P T0 N c Q fr M) (hq : ∀ e fr M,Q e fr M → Q' e fr M) : AW P T0 N c Q' fr M :=
 fun w0 G F a w hc=>wp_mono (h w0 G F a w hc) fun _ _ _ q=>q.mono hq (Gh.le.refl _)
def zz (next : Fr → List Own → Prop) (Q : ko) : ko
 |.normal,fr,M=>next fr M
 |e,fr,M=>Q e fr M
def zg (id : Nat) (Q : ko) : ko
 |.exit id',fr,M=>bif Nat.beq id' id then Q .normal fr M else Q (.exit id') fr M
 |e,fr,M=>Q e fr M
theorem zes {x y : Code} (h : AW P T0 N x (zz (AW P T0 N y Q) Q) fr M) : AW P T0 N (.seq x y) Q fr M:=fun w0 G F a w hc =>
 wp_seq (wp_mono (h w0 G F a w hc) fun e a' w' q=>by
  obtain ⟨fr',M',G',q1,q2,q3⟩:=q
  cases e with
  |normal=>exact wp_mono (q1 w0 G' F a' w' q3) fun _ _ _ q=>q.mono (fun _ _ _ h=>h) q2
  |_=>exact ⟨fr',M',G',q1,q2,q3⟩)
theorem zbn {id : Nat} {c : Code} (h : AW P T0 N c (zg id Q) fr M) : AW P T0 N (.block id c) Q fr M:=fun w0 G F a w hc =>
 wp_block (wp_mono (h w0 G F a w hc) fun e a' w' q=>by
  obtain ⟨fr',M',G',q1,q2,q3⟩:=q
  cases e with
  |exit id' =>
   by_cases hi : id' = id
   ·subst hi
    simp only [zg,Nat.beq_refl,cond_true] at q1
    simp only [Exit.inBlock,if_true]
    exact ⟨fr',M',G',q1,q2,q3⟩
   ·have : Nat.beq id' id = false:=zat hi
    simp only [zg,this,cond_false] at q1
    simp only [Exit.inBlock,if_neg hi]
    exact ⟨fr',M',G',q1,q2,q3⟩
  |_=>exact ⟨fr',M',G',q1,q2,q3⟩)
theorem z5p {next : Fr → List Own → Prop} (h : next fr M) : zz next Q .normal fr M:=h
theorem z5q {next : Fr → List Own → Prop} {i : Nat} (h : Q (.exit i) fr M) : zz next Q (.exit i) fr M:=h
theorem z5o {next : Fr → List Own → Prop} (h : Q .ret fr M) : zz next Q .ret fr M:=h
theorem zqj {next : Fr → List Own → Prop} {c : List PanicEntry} (h : Q (.panic c) fr M) : zz next Q (.panic c) fr M:=h
theorem z5v {id : Nat} (h : Q .normal fr M) : zg id Q .normal fr M:=h
theorem z5u {id : Nat} (h : Q .ret fr M) : zg id Q .ret fr M:=h
theorem zq7 {id : Nat} {c : List PanicEntry} (h : Q (.panic c) fr M) : zg id Q (.panic c) fr M:=h
theorem z5w {id i : Nat} (e : Nat.beq i id = true) (h : Q .normal fr M) : zg id Q (.exit i) fr M:=by simp only [zg,e,cond_true]; exact h
theorem zq8 {id i : Nat} (e : Nat.beq i id = false) (h : Q (.exit i) fr M) : zg id Q (.exit i) fr M:=by simp only [zg,e,cond_false]; exact h
theorem zd6 (h : Q .normal fr M) : AW P T0 N .skip Q fr M:=fun _ _ _ _ _ hc=>wp_skip ⟨fr,M,_,h,Gh.le.refl _,hc⟩
theorem zd7 {id : Nat} (h : Q (.exit id) fr M) : AW P T0 N (.exit id) Q fr M:=fun _ _ _ _ _ hc=>wp_exit ⟨fr,M,_,h,Gh.le.refl _,hc⟩
theorem zi1 (h : Q .ret fr M) : AW P T0 N .ret Q fr M:=fun _ _ _ _ _ hc=>wp_ret ⟨fr,M,_,h,Gh.le.refl _,hc⟩
theorem Con.slot {w0 : World} {G : Gh} {F : List Own} {a : Act} {w : World} (hc : Con T0 N w0 G F fr M a w) {t : Nat} {A : AV} (h : fr.get t = some A) : Rep G A (a.eval (.tmp t)):=by
 obtain ⟨u,h1,h2⟩:=hc.fr t A trivial h
 have : a.eval (.tmp t) = u:=by simp [Act.eval,h1]
 rw [this]; exact h2
theorem z5d {t : Nat} {x y : Code} {c : Bool} (hc : fr.get t = some (B c)) (ht : c = true → AW P T0 N x Q fr M) (hf : c = false → AW P T0 N y Q fr M) : AW P T0 N (.cond (.tmp t) x y) Q fr M:=fun w0 G F a w h =>
 wp_cond_split (h.slot hc).eq (fun e=>ht e w0 G F a w h) (fun e=>hf e w0 G F a w h)
theorem zw3 {c : Code} (J : Nat → Fr → List Own → Prop) (n0 : Nat) (h0 : J n0 fr M)
  (round : ∀ n fr M,J n fr M → AW P T0 N c (zz (fun fr' M' => ∃ n',n' < n ∧ J n' fr' M') Q) fr M) : AW P T0 N (.loop c) Q fr M:=fun w0 G F a w hc=>by
 refine wp_loop_ghost (fun n a w => ∃ fr M G',J n fr M ∧ Gh.le G G' ∧ Con T0 N w0 G' F fr M a w) n0 ⟨fr,M,G,h0,Gh.le.refl _,hc⟩ ?_
 rintro n a' w' ⟨fr',M',G',hj,hl,hc'⟩
 refine wp_mono (round n fr' M' hj w0 G' F a' w' hc') fun e a2 w2 q => ?_
 obtain ⟨fr2,M2,G2,q1,q2,q3⟩:=q
 cases e with
 |normal =>
  obtain ⟨n',hn,hj'⟩:=q1
  exact ⟨n',hn,fr2,M2,G2,hj',hl.trans q2,q3⟩
 |_=>exact ⟨fr2,M2,G2,q1,hl.trans q2,q3⟩
def Ent (T0 : Gh) (fr : Fr) (M : List Own) (fr' : Fr) (M' : List Own) : Prop := ∀ w0 G F (t : Array Value) w,St T0 w0 G (M ++ F) w → frRel G fr t → ∃ G',Gh.le G G' ∧ St T0 w0 G' (M' ++ F) w ∧ frRel G' fr' t
theorem Ent.con {fr' : Fr} {M' : List Own} (h : Ent T0 fr M fr' M') {w0 : World} {G : Gh} {F : List Own} {a : Act} {w : World} (hc : Con T0 N w0 G F fr M a w) : ∃ G',Gh.le G G' ∧ Con T0 N w0 G' F fr' M' a w :=
 let ⟨G',a1,a2,a3⟩:=h w0 G F a.tmps w hc.st hc.fr; ⟨G',a1,a2,a3,hc.size,hc.defers⟩
theorem zqc {c : Code} {fr' : Fr} {M' : List Own} (e : Ent T0 fr M fr' M') (h : AW P T0 N c Q fr' M') : AW P T0 N c Q fr M:=fun w0 G F a w hc =>
 let ⟨G',hl,hc'⟩:=e.con hc
 wp_mono (h w0 G' F a w hc') fun _ _ _ q=>q.mono (fun _ _ _ h=>h) hl
def Weak (fr fr' : Fr) : Prop := ∀ G (t : Array Value),frRel G fr t → frRel G fr' t
theorem Weak.refl (fr : Fr) : Weak fr fr:=fun _ _ h=>h
theorem zog : Weak fr []:=fun _ _ _ s A _ e=>by simp [Fr.get] at e
theorem zak {s : Nat} {A : AV} {r : Fr} (h : fr.get s = some A) (k : Weak fr r) : Weak fr ((s,A) :: r):=fun G t hr x B _ e=>by
 by_cases hx : x = s
 ·subst hx; rw [qm] at e; exact hr x B trivial (h.trans e)
 ·rw [qf hx] at e; exact k G t hr x B trivial e
theorem z0m {fr' : Fr} (h : Weak fr fr') : Ent T0 fr M fr' M:=fun _ G _ t _ s r=>⟨G,Gh.le.refl _,s,h G t r⟩
theorem zn9 {c : Code} {fr' : Fr} (e : Weak fr fr') (h : AW P T0 N c Q fr' M) : AW P T0 N c Q fr M:=zqc (z0m e) h
theorem zw4 {c : Code} {σ : Type} (fs : σ → Fr) (ms : σ → List Own) (inv : σ → Prop) (μ : σ → Nat) (s0 : σ) (h0 : inv s0) (hf0 : Weak fr (fs s0)) (hm0 : M = ms s0)
  (round : ∀ s,inv s → AW P T0 N c (zz (fun fr' M' => ∃ s',inv s' ∧ μ s' < μ s ∧ Weak fr' (fs s') ∧ M' = ms s') Q) (fs s) (ms s)) : AW P T0 N (.loop c) Q fr M:=by
 refine zn9 hf0 ?_
 subst hm0
 refine zw3 (fun n fr M => ∃ s,inv s ∧ n = μ s ∧ Weak fr (fs s) ∧ M = ms s) (μ s0) ⟨s0,h0,rfl,Weak.refl _,rfl⟩ ?_
 rintro n fr M ⟨s,h1,rfl,h2,rfl⟩
 refine zn9 h2 (AW.mono (round s h1) fun e fr' M' q => ?_)
 cases e with
 |normal=>obtain ⟨s',a1,a2,a3,a4⟩:=q; exact ⟨μ s',a2,s',a1,rfl,a3,a4⟩
 |_=>exact q
theorem z5c {c : Code} {σ τ : Type} (fs : σ → τ → Fr) (ms : σ → τ → List Own) (inv : σ → τ → Prop) (μ : σ → τ → Nat) (s0 : σ) (t0 : τ) (h0 : inv s0 t0) (hf0 : Weak fr (fs s0 t0)) (hm0 : M = ms s0 t0)
  (round : ∀ s t,inv s t → AW P T0 N c (zz (fun fr' M' => ∃ s' t',inv s' t' ∧ μ s' t' < μ s t ∧ Weak fr' (fs s' t') ∧ M' = ms s' t') Q) (fs s t) (ms s t)) : AW P T0 N (.loop c) Q fr M :=
 zw4 (fun x : σ × τ=>fs x.1 x.2) (fun x=>ms x.1 x.2) (fun x=>inv x.1 x.2) (fun x=>μ x.1 x.2) (s0,t0) h0 hf0 hm0 fun x hx=>AW.mono (round x.1 x.2 hx) fun e fr' M' q=>by
  cases e with
  |normal=>obtain ⟨s',t',a⟩:=q; exact ⟨(s',t'),a⟩
  |_=>exact q
theorem z0n {M' : List Own} (p : List.Sublist M' M) : Ent T0 fr M fr M':=fun _ G F _ _ s r=>⟨G,Gh.le.refl _,s.sub (p.append (List.Sublist.refl F)),r⟩
abbrev reads (ops : Array Oper) (o : Oper) (s : Nat) : Prop:=s ∈ o.looksAt ops
def AO (P : Program) (T0 : Gh) (ops : Array Oper) (o : Oper) (fr : Fr) (M : List Own) (K : AV → List Own → Prop) (KP : List PanicEntry → List Own → Prop) : Prop :=
 ∀ w0 G F (a : Act) w (next : Act → World → Prop) (Qc : Exit → Act → World → Prop),St T0 w0 G (M ++ F) w → frOn G (reads ops o) fr a.tmps →
   (∀ A M' G' u w',K A M' → Gh.le G G' → St T0 w0 G' (M' ++ F) w' → Rep G' A u → next (a.put o.dst u) w') →
   (∀ c M' G' w',KP c M' → Gh.le G G' → St T0 w0 G' (M' ++ F) w' → Qc (.panic c) a w') → o.wp P a w next Qc
abbrev AY (P : Program) (T0 : Gh) (ops : Array Oper) (o : Oper) (fr : Fr) (M : List Own) (A : AV) : Prop:=AO P T0 ops o fr M (fun A' M'=>A' = A ∧ M' = M) (fun _ _=>False)
def QY (P : Program) (T0 : Gh) (ops : Array Oper) (o : Oper) (fr : Fr) (M : List Own) (A : AV) : Prop :=
 ∀ w0 G F (a : Act) w,St T0 w0 G (M ++ F) w → frOn G (reads ops o) fr a.tmps →
   (Region.wanted o (yielded ops a.tmps) = true → ∀ (next : Act → World → Prop) (Qc : Exit → Act → World → Prop),(∀ G' u w',Gh.le G G' → St T0 w0 G' (M ++ F) w' → Rep G' A u → next (a.put o.dst u) w') → o.wp P a w next Qc) ∧
   (Region.wanted o (yielded ops a.tmps) = false → Rep G A undef)
def AQ (P : Program) (T0 : Gh) (N : Fz) (ops : Array Oper) (Q : Fr → Prop) (M : List Own) : List Oper → Fr → Prop
 |[],fr=>Q fr
 |o :: rest,fr=>(∀ x,o.dst = some x → x < N.n) ∧ ∃ A,QY P T0 ops o fr M A ∧ AQ P T0 N ops Q M rest (fr.put o.dst A)
def AE (P : Program) (T0 : Gh) (N : Fz) (ops : Array Oper) (Q : ko) (l : List Oper) (fr : Fr) (M : List Own) : Prop := ∀ w0 G F a w,Con T0 N w0 G F fr M a w → wpList P ops (cQ T0 N w0 G F Q) l a w
def zb2 (md : Region.Mode) (ops : Array Oper) : Bool:=(List.range (ops.size - 1)).all fun i=>(List.range ops.size).any fun k=>decide (i < k) && (ops[k]?).any fun o=>o.after.any fun e=>Region.binds md e && e.on == i
theorem zuj {md : Region.Mode} {ops : Array Oper} (h : zb2 md ops = true) {i : Nat} (hi : i < ops.size - 1) : ∃ k o,i < k ∧ ops[k]? = some o ∧ ∃ e ∈ o.after,Region.binds md e = true ∧ e.on = i:=by
 have:=List.all_eq_true.1 h i (List.mem_range.2 hi)
 obtain ⟨k,_,h2⟩:=List.any_eq_true.1 this
 simp only [Bool.and_eq_true,decide_eq_true_eq] at h2
 obtain ⟨h3,h4⟩:=h2
 cases ho : ops[k]? with
 |none=>rw [ho] at h4; cases h4
 |some o =>
  rw [ho] at h4
  simp only [Option.any_some,Array.any_eq_true,Bool.and_eq_true,beq_iff_eq] at h4
  obtain ⟨n,hn,h5,h6⟩:=h4
  exact ⟨k,o,h3,ho,_,Array.getElem_mem hn,h5,h6⟩
def Shut (md : Region.Mode) (ops : Array Oper) (listed : Array Bool) : Prop := ∀ k o,ops[k]? = some o → listed.getD k false = true → ∀ e ∈ o.after,Region.binds md e = true → listed.getD e.on false = true
theorem Shut.put {md : Region.Mode} {ops : Array Oper} {listed : Array Bool} {i : Nat} (h : Shut md ops listed) (hi : i ∈ Region.ready md ops listed) : Shut md ops (listed.setIfInBounds i true):=fun k o ho hk e he hb=>by
 by_cases hki : i = k
 ·subst hki
  obtain ⟨_,o',ho',hall⟩:=mem_ready.1 hi
  rw [ho] at ho'; obtain rfl:=Option.some.inj ho'
  exact getD_set_true (hall e he hb)
 ·rw [getD_set_ne false hki] at hk
  exact getD_set_true (h k o ho hk e he hb)
theorem y5 {md : Region.Mode} {ops : Array Oper} (n : Nat) : Shut md ops (Array.replicate n false):=fun k o _ hk=>by
 by_cases hn : k < n
 ·simp [hn] at hk
 ·simp [hn] at hk
theorem zzk {md : Region.Mode} {ops : Array Oper} {listed : Array Bool} (hS : Shut md ops listed) (hlast : zb2 md ops = true) (hL : ops.size - 1 ∈ Region.ready md ops listed) : ∀ n i,ops.size - 1 - i = n → i < ops.size - 1 → listed.getD i false = true:=by
 intro n
 induction n using Nat.strongRecOn with
 |_ n ih =>
  intro i hn hi
  obtain ⟨k,o,h1,h2,e,h3,h4,h5⟩:=zuj hlast hi
  have hk : k < ops.size:=(Array.getElem?_eq_some_iff.1 h2).1
  by_cases hkL : k = ops.size - 1
  ·obtain ⟨_,o',ho',hall⟩:=mem_ready.1 hL
   rw [← hkL,h2] at ho'; obtain rfl:=Option.some.inj ho'
   rw [← h5]; exact hall e h3 h4
  ·have:=ih (ops.size - 1 - k) (by omega) k rfl (by omega)
   rw [← h5]; exact hS k o h2 this e h3 h4
def AQ2 (P : Program) (T0 : Gh) (N : Fz) (ops : Array Oper) (QA : Fr → Prop) (QB : Oper → Fr → Prop) (M : List Own) : List Oper → Fr → Prop
 |[],fr=>QA fr
 |o :: rest,fr=>(rest = [] ∧ QB o fr) ∨ ((∀ x,o.dst = some x → x < N.n) ∧ ∃ A,QY P T0 ops o fr M A ∧ AQ2 P T0 N ops QA QB M rest (fr.put o.dst A))
def AL (P : Program) (T0 : Gh) (N : Fz) (d : Bool) (ops : Array Oper) (Q : ko) (l : List Oper) (fr : Fr) (M : List Own) : Prop :=
 if d = true then AQ2 P T0 N ops (fun fr'=>Q .normal fr' M) (fun o fr'=>zb2 .any ops = true ∧ AE P T0 N ops Q [o] fr' M) M l fr else AE P T0 N ops Q l fr M
theorem q_ {P : Program} {ops : Array Oper} {Q Q' : Exit → Act → World → Prop} (hq : ∀ e a w,Q e a w → Q' e a w) : ∀ (l : List Oper) (a : Act) (w : World),wpList P ops Q l a w → wpList P ops Q' l a w
 |[],_,_,h=>hq _ _ _ h
 |o :: l,a,w,h=>by
  unfold wpList at h ⊢
  split
  ·rename_i hw; rw [if_pos hw] at h
   refine h.imp (fun h => ?_) (fun h=>⟨h.1,let ⟨x,y,z⟩:=h.2; ⟨x,y,hq _ _ _ z⟩⟩)
   unfold Oper.wp at h ⊢
   generalize (execOp a.eval o).run P w = r at *
   cases r with
   |ok n w' =>
    cases n <;> simp only [Oper.upon] at h ⊢ <;>
     first
      |exact q_ hq l _ _ h
      |exact Calls.mono h (fun e w'' he=>by
        cases e
        ·exact q_ hq l _ _ he
        ·exact hq _ _ _ he
        ·obtain ⟨x,y,z⟩:=he; exact ⟨x,y,hq _ _ _ z⟩)
      |exact Rows.mono h (fun _ _ he=>q_ hq l _ _ he)
   |halt x w'=>cases x <;> simp only [Oper.upon] at h ⊢ <;> first | exact hq _ _ _ h | exact h
  ·rename_i hw; rw [if_neg hw] at h; exact q_ hq l _ _ h
theorem z89 {ops : Array Oper} (h : Q .normal fr M) : AE P T0 N ops Q [] fr M:=fun _ _ _ _ _ hc=>⟨fr,M,_,h,Gh.le.refl _,hc⟩
theorem zi2 {d : Bool} {ops : Array Oper} (h : Q .normal fr M) : AL P T0 N d ops Q [] fr M:=by
 unfold AL; split
 ·exact h
 ·exact z89 h
theorem Con.put {w0 : World} {G G' : Gh} {F : List Own} {a : Act} {w w' : World} {M' : List Own} (hc : Con T0 N w0 G F fr M a w) (hl : Gh.le G G') (hs : St T0 w0 G' (M' ++ F) w') {d : Option Tmp} {A : AV} {u : Value} (hd : ∀ x,d = some x → x < N.n) (hu : Rep G' A u) :
  Con T0 N w0 G' F (fr.put d A) M' (a.put d u) w' :=
 ⟨hs,frRel.put (frOn.gmono hl hc.fr) (by rw [hc.size]; exact hd) hu,by rw [zyi]; exact hc.size,by rw [zrz]; exact hc.defers⟩
theorem qcq {d : Bool} {ops : Array Oper} {o : Oper} {rest : List Oper} {A : AV} {x : Nat} (hy : QY P T0 ops o fr M A) (hx : o.dst = some x) (hd : Nat.blt x N.n = true) (h : AL P T0 N d ops Q rest ((x,A) :: fr) M) : AL P T0 N d ops Q (o :: rest) fr M:=by
 have hd' : ∀ y,o.dst = some y → y < N.n:=fun y hy'=>by rw [hx] at hy'; obtain rfl:=Option.some.inj hy'; simpa using hd
 have hput : ∀ A : AV,fr.put o.dst A = (x,A) :: fr:=fun A=>by rw [hx]; rfl
 unfold AL at h ⊢
 split
 ·rename_i hdr; rw [if_pos hdr] at h
  exact .inr ⟨hd',A,hy,by rw [hput]; exact h⟩
 ·rename_i hdr; rw [if_neg hdr] at h
  intro w0 G F a w hc
  obtain ⟨h1,h2⟩:=hy w0 G F a w hc.st (fun s A _ e=>hc.fr s A trivial e)
  unfold wpList
  by_cases hw : Region.wanted o (yielded ops a.tmps) = true
  ·rw [if_pos hw]
   refine .inl (h1 hw _ _ fun G' u w' hl hs hu => ?_)
   have hc':=hc.put hl hs hd' hu
   rw [hput] at hc'
   exact q_ (fun _ _ _ q=>q.mono (fun _ _ _ h=>h) hl) _ _ _ (h w0 G' F _ w' hc')
  ·rw [if_neg hw]
   have hc':=hc.put (Gh.le.refl _) hc.st hd' (h2 (by simpa using hw))
   rw [hput] at hc'
   exact h w0 G F _ w hc'
theorem qcr {ops : Array Oper} {o : Oper} {rest : List Oper} {K : AV → List Own → Prop} {KP : List PanicEntry → List Own → Prop} (hg : o.guard = none) (hy : AO P T0 ops o fr M K KP) (hd : (o.dst.all fun x=>Nat.blt x N.n) = true)
  (hp : ∀ c M',KP c M' → Q (.panic c) fr M') (h : ∀ A M',K A M' → AL P T0 N false ops Q rest (fr.put o.dst A) M') : AL P T0 N false ops Q (o :: rest) fr M:=by
 have hd' : ∀ x,o.dst = some x → x < N.n:=fun x hx=>by rw [hx] at hd; simpa using hd
 simp only [AL,Bool.false_eq_true,if_false] at h ⊢
 intro w0 G F a w hc
 refine wpList_plain hg fun K' hK => ?_
 refine hy w0 G F a w _ _ hc.st (fun s A _ e=>hc.fr s A trivial e) (fun A M' G' u w' hk hl hs hu => ?_) (fun c M' G' w' hk hl hs => ?_)
 ·refine hK _ _ (q_ (fun _ _ _ q=>q.mono (fun _ _ _ h=>h) hl) _ _ _ (h A M' hk w0 G' F _ w' (hc.put hl hs hd' hu)))
 ·exact ⟨fr,M',G',hp c M' hk,hl,hs,frOn.gmono hl hc.fr,hc.size,hc.defers⟩
theorem zdh {ops : Array Oper} {o : Oper} {rest : List Oper} {x : Nat} {K : AV → List Own → Prop} {KP : List PanicEntry → List Own → Prop} (hg : o.guard = none) (hy : AO P T0 ops o fr M K KP) (hx : o.dst = some x) (hd : Nat.blt x N.n = true)
  (hp : ∀ c M',KP c M' → Q (.panic c) fr M') (h : ∀ A M',K A M' → AL P T0 N false ops Q rest ((x,A) :: fr) M') : AL P T0 N false ops Q (o :: rest) fr M :=
 qcr hg hy (by rw [hx]; simpa using hd) hp fun A M' hk=>by rw [hx]; exact h A M' hk
theorem zse {ops : Array Oper} {o : Oper} {rest : List Oper} {K : AV → List Own → Prop} {KP : List PanicEntry → List Own → Prop} (hg : o.guard = none) (hy : AO P T0 ops o fr M K KP) (hx : o.dst = none)
  (hp : ∀ c M',KP c M' → Q (.panic c) fr M') (h : ∀ A M',K A M' → AL P T0 N false ops Q rest fr M') : AL P T0 N false ops Q (o :: rest) fr M :=
 qcr hg hy (by rw [hx]; rfl) hp fun A M' hk=>by rw [hx]; exact h A M' hk
theorem zqi {ops : Array Oper} {l : List Oper} {fr' : Fr} {M' : List Own} (e : Ent T0 fr M fr' M') (h : AL P T0 N false ops Q l fr' M') : AL P T0 N false ops Q l fr M:=by
 simp only [AL,Bool.false_eq_true,if_false] at h ⊢
 intro w0 G F a w hc
 obtain ⟨G',hl,hc'⟩:=e.con hc
 exact q_ (fun _ _ _ q=>q.mono (fun _ _ _ h=>h) hl) _ _ _ (h w0 G' F a w hc')
theorem zov {ops : Array Oper} {o : Oper} {A : AV} (hg : o.guard = none) (h : AY P T0 ops o fr M A) : QY P T0 ops o fr M A:=fun w0 G F a w hs hf =>
 ⟨fun _ next Qc k=>h w0 G F a w next Qc hs hf (fun A' M' G' u w' e hl hs' hu=>by obtain ⟨rfl,rfl⟩:=e; exact k G' u w' hl hs' hu) (fun _ _ _ _ f _ _=>f.elim),fun hw=>by simp [Region.wanted,hg] at hw⟩
def u_ (fr : Fr) (t : Nat) (k c : Bool) : Prop:=(k = true ∧ fr.get t = some (B c)) ∨ fr.get t = some (gvA k (B c))
theorem zd1 {t : Nat} {c : Bool} (h : fr.get t = some (B c)) : u_ fr t true c:=.inl ⟨rfl,h⟩
theorem zzr {t : Nat} {k c : Bool} (h : fr.get t = some (gvA k (B c))) : u_ fr t k c:=.inr h
theorem zal {ops : Array Oper} {o : Oper} {g t : Nat} {want k c : Bool} {a : Act} {G : Gh} (hg : o.guard = some (g,want)) (ht : (ops[g]?).bind (·.dst) = some t) (hs : u_ fr t k c) (hf : frOn G (reads ops o) fr a.tmps) :
  Region.wanted o (yielded ops a.tmps) = (k && (c == want)):=by
 have hr : reads ops o t:=by
  unfold reads Oper.looksAt
  rw [hg]; simp [ht]
 unfold Region.wanted yielded
 rw [hg]
 simp only [ht,Option.bind_some]
 rcases hs with ⟨rfl,hs⟩ | hs
 ·obtain ⟨u,h1,h2⟩:=hf t _ hr hs
  obtain rfl:=h2.eq
  rw [h1]; cases c <;> cases want <;> rfl
 ·obtain ⟨u,h1,h2⟩:=hf t _ hr hs
  rw [h1]
  cases k with
  |true=>obtain rfl:=(h2.gv.1 rfl).eq; cases c <;> cases want <;> rfl
  |false=>obtain rfl:=h2.gv.2 rfl; cases want <;> rfl
theorem z6o {ops : Array Oper} {o : Oper} {A : AV} {g t : Nat} {want k c : Bool} (hg : o.guard = some (g,want)) (ht : (ops[g]?).bind (·.dst) = some t) (hs : u_ fr t k c) (hc : (k && (c == want)) = true) (h : AY P T0 ops o fr M A) : QY P T0 ops o fr M A:=fun w0 G F a w st hf =>
 ⟨fun _ next Qc kk=>h w0 G F a w next Qc st hf (fun A' M' G' u w' e hl hs' hu=>by obtain ⟨rfl,rfl⟩:=e; exact kk G' u w' hl hs' hu) (fun _ _ _ _ f _ _=>f.elim),fun hw=>by rw [zal hg ht hs hf,hc] at hw; cases hw⟩
theorem z3g {ops : Array Oper} {o : Oper} {g t : Nat} {want k c : Bool} (hg : o.guard = some (g,want)) (ht : (ops[g]?).bind (·.dst) = some t) (hs : u_ fr t k c) (hc : (k && (c == want)) = false) : QY P T0 ops o fr M z0_:=fun w0 G F a w st hf =>
 ⟨fun hw=>(by rw [zal hg ht hs hf,hc] at hw; cases hw),fun _=>Rep.any _ _⟩
theorem z_a {ops : Array Oper} {o : Oper} {A : AV} {g t : Nat} {want k c : Bool} (hg : o.guard = some (g,want)) (ht : (ops[g]?).bind (·.dst) = some t) (hs : u_ fr t k c) (h : (k && (c == want)) = true → AY P T0 ops o fr M A) : QY P T0 ops o fr M (gvA (k && (c == want)) A):=fun w0 G F a w st hf=>by
 refine ⟨fun hw next Qc kk => ?_,fun hw => ?_⟩
 ·rw [zal hg ht hs hf] at hw
  refine h hw w0 G F a w next Qc st hf (fun A' M' G' u w' e hl hs' hu => ?_) (fun _ _ _ _ f _ _=>f.elim)
  obtain ⟨rfl,rfl⟩:=e
  exact kk G' u w' hl hs' (.of ⟨fun _=>hu,fun e=>(by rw [hw] at e; cases e)⟩)
 ·rw [zal hg ht hs hf] at hw
  exact .of ⟨fun e=>(by rw [hw] at e; cases e),fun _=>rfl⟩
theorem gd {k c want : Bool} (h : k = true) (h' : c = want) : (k && (c == want)) = true:=by subst h h'; simp
theorem ws {id : Nat} {l : List Oper} (h : AL P T0 N false l.toArray Q l fr M) : AW P T0 N (.region id l.toArray false) Q fr M:=fun w0 G F a w hc=>by
 simp only [AL,Bool.false_eq_true,if_false] at h
 exact wp_region_lit (h w0 G F a w hc)
def zf4 (P : Program) (T0 : Gh) (N : Fz) (md : Region.Mode) (ops : Array Oper) (Q : Fr → Prop) (M : List Own) : Nat → Array Bool → Fr → Prop
 |0,listed,fr=>Region.ready md ops listed = [] ∧ Q fr
 |fuel + 1,listed,fr=>(Region.ready md ops listed = [] → Q fr) ∧
  ∀ i ∈ Region.ready md ops listed,∀ o,ops[i]? = some o → (∀ x,o.dst = some x → x < N.n) ∧ ∃ A,QY P T0 ops o fr M A ∧ zf4 P T0 N md ops Q M fuel (listed.setIfInBounds i true) (fr.put o.dst A)
theorem za6 {md : Region.Mode} {ops : Array Oper} {QA : Fr → Prop} {w0 : World} {F : List Own} {G0 : Gh} {Qc : Exit → Act → World → Prop}
  (hQ : ∀ fr' G a w,Gh.le G0 G → QA fr' → Con T0 N w0 G F fr' M a w → Qc .normal a w) : ∀ (fuel : Nat) (listed : Array Bool) (fr : Fr) (G : Gh) (a : Act) (w : World),Gh.le G0 G → Con T0 N w0 G F fr M a w →
  zf4 P T0 N md ops QA M fuel listed fr → wpAny P md ops Qc fuel listed a w
 |0,_,_,_,_,_,hl,hc,h=>⟨h.1,hQ _ _ _ _ hl h.2 hc⟩
 |fuel + 1,listed,fr,G,a,w,hl,hc,h=>by
  refine ⟨fun h0=>hQ _ _ _ _ hl (h.1 h0) hc,fun i hi => ?_⟩
  unfold wpOp
  cases ho : ops[i]? with
  |none=>have:=(mem_ready.1 hi).2; rw [ho] at this; obtain ⟨_,e,_⟩:=this; cases e
  |some o =>
   obtain ⟨hd,A,hy,hr⟩:=h.2 i hi o ho
   obtain ⟨h1,h2⟩:=hy w0 G F a w hc.st (fun s A _ e=>hc.fr s A trivial e)
   simp only
   by_cases hw : Region.wanted o (yielded ops a.tmps) = true
   ·rw [if_pos hw]
    refine .inl (h1 hw _ _ fun G' u w' hl' hs hu => ?_)
    exact za6 hQ fuel _ _ G' _ w' (hl.trans hl') (hc.put hl' hs hd hu) hr
   ·rw [if_neg hw]
    exact za6 hQ fuel _ _ G _ w hl (hc.put (Gh.le.refl _) hc.st hd (h2 (by simpa using hw))) hr
theorem QY.other {ops : Array Oper} {o : Oper} {A : AV} {fr' : Fr} (h : QY P T0 ops o fr M A) (he : ∀ s,reads ops o s → fr'.get s = fr.get s) : QY P T0 ops o fr' M A:=fun w0 G F a w hs hf =>
 h w0 G F a w hs (fun s A hr e=>hf s A hr (by rw [he s hr]; exact e))
theorem xy {d : Option Tmp} {A : AV} {s : Nat} (h : ∀ x,d = some x → s ≠ x) : (fr.put d A).get s = fr.get s:=by
 cases d with
 |none=>rfl
 |some d=>exact qf (h d rfl)
theorem zf3 {md : Region.Mode} {ops : Array Oper} {QA : Fr → Prop} (hQ : ∀ fr fr' : Fr,(∀ s,fr'.get s = fr.get s) → QA fr → QA fr') : ∀ (fuel : Nat) (listed : Array Bool) (fr fr' : Fr),(∀ s,fr'.get s = fr.get s) → zf4 P T0 N md ops QA M fuel listed fr → zf4 P T0 N md ops QA M fuel listed fr'
 |0,_,fr,fr',he,h=>⟨h.1,hQ fr fr' he h.2⟩
 |fuel + 1,listed,fr,fr',he,h=>by
  refine ⟨fun h0=>hQ fr fr' he (h.1 h0),fun i hi o ho => ?_⟩
  obtain ⟨hd,A,hy,hr⟩:=h.2 i hi o ho
  refine ⟨hd,A,hy.other (fun s _=>he s),zf3 hQ fuel _ _ _ (fun s => ?_) hr⟩
  cases hdst : o.dst with
  |none=>exact he s
  |some d =>
   by_cases e : s = d
   ·subst e; simp only [Fr.put,qm]
   ·simp only [Fr.put,qf e]; exact he s
theorem vm {d e : Option Tmp} {A A' : AV} (h : ∀ x,d = some x → e ≠ some x) (s : Nat) : ((fr.put d A).put e A').get s = ((fr.put e A').put d A).get s:=by
 cases d with
 |none=>rfl
 |some d =>
  cases e with
  |none=>rfl
  |some e =>
   have hne : d ≠ e:=fun x=>h d rfl (by rw [x])
   by_cases h1 : s = d
   ·subst h1; simp only [Fr.put,qm,qf hne]
   ·by_cases h2 : s = e
    ·subst h2; simp only [Fr.put,qm,qf h1]
    ·simp only [Fr.put,qf h1,qf h2]
theorem zk5 {md : Region.Mode} {ops : Array Oper} {QA : Fr → Prop} (hQ : ∀ fr fr' : Fr,(∀ s,fr'.get s = fr.get s) → QA fr → QA fr') {i : Nat} {oi : Oper} {A : AV} (hi : ops[i]? = some oi) (hdi : ∀ x,oi.dst = some x → x < N.n) :
  ∀ (fuel : Nat) (listed : Array Bool) (fr : Fr),
    (∀ j oj,ops[j]? = some oj → j ≠ i → listed.getD j true = false → (∀ e ∈ oj.after,Region.binds md e = true → e.on ≠ i) → oi.apart ops oj = true) →
    i ∈ Region.ready md ops listed → QY P T0 ops oi fr M A →
    zf4 P T0 N md ops QA M fuel (listed.setIfInBounds i true) (fr.put oi.dst A) → zf4 P T0 N md ops QA M (fuel + 1) listed fr:=by
 intro fuel
 induction fuel with
 |zero =>
  intro listed fr _ hr hy H
  refine ⟨fun h=>(by rw [h] at hr; cases hr),fun j hj o ho => ?_⟩
  by_cases hji : j = i
  ·subst hji; rw [hi] at ho; obtain rfl:=Option.some.inj ho; exact ⟨hdi,A,hy,H⟩
  ·have:=ready_mono hj hji
   rw [H.1] at this
   cases this
 |succ fuel ih =>
  intro listed fr hfree hr hy H
  refine ⟨fun h=>(by rw [h] at hr; cases hr),fun j hj o ho => ?_⟩
  by_cases hji : j = i
  ·subst hji; rw [hi] at ho; obtain rfl:=Option.some.inj ho; exact ⟨hdi,A,hy,H⟩
  ·obtain ⟨hd,A',hy',hr'⟩:=H.2 j (ready_mono hj hji) o ho
   obtain ⟨hjun,oj,hoj,hall⟩:=mem_ready.1 hj
   rw [ho] at hoj; obtain rfl:=Option.some.inj hoj
   have hnot : ∀ e ∈ o.after,Region.binds md e = true → e.on ≠ i:=fun e he hb heq=>by
    have h1:=hall e he hb
    have h0:=(mem_ready.1 hr).1
    rw [heq] at h1
    rcases Nat.lt_or_ge i listed.size with h' | h'
    ·simp [h'] at h0 h1; rw [h0] at h1; cases h1
    ·simp [Array.getElem?_eq_none h'] at h1
   obtain ⟨p1,p2,p3⟩:=Oper.apart_spec (hfree j o ho hji hjun hnot)
   have hfree' : ∀ k ok,ops[k]? = some ok → k ≠ i → (listed.setIfInBounds j true).getD k true = false →
     (∀ e ∈ ok.after,Region.binds md e = true → e.on ≠ i) → oi.apart ops ok = true:=fun k ok hk hki hun hno=>by
    refine hfree k ok hk hki ?_ hno
    by_cases hjk : j = k
    ·subst hjk; exact hjun
    ·rw [getD_set_ne true hjk] at hun; exact hun
   refine ⟨hd,A',hy'.other (fun s hs=>(xy fun x hx e=>p1 x hx (e ▸ hs)).symm), ?_⟩
   refine ih (listed.setIfInBounds j true) _ hfree' (ready_mono hr (Ne.symm hji)) (hy.other fun s hs=>xy fun x hx e=>p3 x hx (e ▸ hs)) ?_
   rw [Array.setIfInBounds_comm _ _ hji]
   exact zf3 hQ fuel _ _ _ (fun s=>vm (fun x hx e=>p2 x (by rw [← e]) hx |>.elim) s) hr'
theorem zdo {md : Region.Mode} {ops : Array Oper} {QA : Fr → Prop} (hQ : ∀ fr fr' : Fr,(∀ s,fr'.get s = fr.get s) → QA fr → QA fr') : ∀ (l : List Oper) (k : Nat) (listed : Array Bool) (fr : Fr),(∀ j,l[j]? = ops[k + j]?) →
  Region.lexFrom md ops l.length k listed = true → AQ P T0 N ops QA M l fr → zf4 P T0 N md ops QA M l.length listed fr
 |[],_,_,_,_,hB,h=>⟨by simpa [Region.lexFrom] using hB,h⟩
 |o :: l,k,listed,fr,hl,hB,h=>by
  have h0 : ops[k]? = some o:=by simpa using (hl 0).symm
  simp only [List.length_cons,Region.lexFrom,Bool.and_eq_true] at hB
  obtain ⟨⟨hr,hf⟩,hB'⟩:=hB
  obtain ⟨hd,A,hy,hk⟩:=h
  exact zk5 hQ h0 hd l.length listed fr (Region.free_spec h0 hf) (by simpa using hr) hy
   (zdo hQ l (k + 1) _ _ (fun j=>by have:=hl (j + 1); simpa [Nat.add_assoc,Nat.add_comm 1 j] using this) hB' hk)
theorem zaq {o : Oper} {a : Act} {w : World} {K K' : Act → World → Prop} {Qc : Exit → Act → World → Prop} (hk : ∀ a w,K a w → K' a w) (h : o.wp P a w K Qc) : o.wp P a w K' Qc:=by
 unfold Oper.wp at h ⊢
 generalize (execOp a.eval o).run P w = r at *
 cases r with
 |ok n w' =>
  cases n <;> simp only [Oper.upon] at h ⊢ <;>
   first
    |exact hk _ _ h
    |exact h
    |exact Calls.mono h (fun e w'' he=>by
      cases e
      ·exact hk _ _ he
      ·exact he
      ·exact he)
    |exact Rows.mono h (fun _ _ he=>hk _ _ he)
 |halt x w'=>cases x <;> simp only [Oper.upon] at h ⊢ <;> exact h
def zf2 (P : Program) (T0 : Gh) (N : Fz) (md : Region.Mode) (ops : Array Oper) (L : Nat) (QB : Fr → Prop) (M : List Own) : Nat → Array Bool → Fr → Prop
 |0,_,_=>False
 |fuel + 1,listed,fr=>Region.ready md ops listed ≠ [] ∧ ∀ i ∈ Region.ready md ops listed,∀ o,ops[i]? = some o →
   (i = L ∧ fuel = 0 ∧ Region.ready md ops (listed.setIfInBounds i true) = [] ∧ QB fr) ∨ (i ≠ L ∧ (∀ x,o.dst = some x → x < N.n) ∧ ∃ A,QY P T0 ops o fr M A ∧ zf2 P T0 N md ops L QB M fuel (listed.setIfInBounds i true) (fr.put o.dst A))
theorem za5 {md : Region.Mode} {ops : Array Oper} {L : Nat} {oL : Oper} {QB : Fr → Prop} {w0 : World} {F : List Own} {G0 : Gh} {Qc : Exit → Act → World → Prop} (hoL : ops[L]? = some oL)
  (hQ : ∀ fr' G a w,Gh.le G0 G → QB fr' → Con T0 N w0 G F fr' M a w → wpList P ops Qc [oL] a w) : ∀ (fuel : Nat) (listed : Array Bool) (fr : Fr) (G : Gh) (a : Act) (w : World),Gh.le G0 G → Con T0 N w0 G F fr M a w →
  zf2 P T0 N md ops L QB M fuel listed fr → wpAny P md ops Qc fuel listed a w
 |0,_,_,_,_,_,_,_,h=>h.elim
 |fuel + 1,listed,fr,G,a,w,hl,hc,h=>by
  refine ⟨fun h0=>absurd h0 h.1,fun i hi => ?_⟩
  unfold wpOp
  cases ho : ops[i]? with
  |none=>have:=(mem_ready.1 hi).2; rw [ho] at this; obtain ⟨_,e,_⟩:=this; cases e
  |some o =>
   rcases h.2 i hi o ho with ⟨rfl,rfl,hnone,hq⟩ | ⟨_,hd,A,hy,hr⟩
   ·rw [ho] at hoL; obtain rfl:=Option.some.inj hoL
    have h3:=hQ fr G a w hl hq hc
    simp only
    unfold wpList at h3
    split at h3
    ·rename_i hw
     rw [if_pos hw]
     exact h3.imp (fun h=>zaq (fun a w h=>⟨hnone,h⟩) h) (fun h=>h)
    ·rename_i hw
     rw [if_neg hw]
     exact ⟨hnone,h3⟩
   ·obtain ⟨h1,h2⟩:=hy w0 G F a w hc.st (fun s A _ e=>hc.fr s A trivial e)
    simp only
    by_cases hw : Region.wanted o (yielded ops a.tmps) = true
    ·rw [if_pos hw]
     refine .inl (h1 hw _ _ fun G' u w' hl' hs hu => ?_)
     exact za5 hoL hQ fuel _ _ G' _ w' (hl.trans hl') (hc.put hl' hs hd hu) hr
    ·rw [if_neg hw]
     exact za5 hoL hQ fuel _ _ G _ w hl (hc.put (Gh.le.refl _) hc.st hd (h2 (by simpa using hw))) hr
theorem zf1 {md : Region.Mode} {ops : Array Oper} {L : Nat} {QB : Fr → Prop} (hQ : ∀ fr fr' : Fr,(∀ s,fr'.get s = fr.get s) → QB fr → QB fr') : ∀ (fuel : Nat) (listed : Array Bool) (fr fr' : Fr),(∀ s,fr'.get s = fr.get s) → zf2 P T0 N md ops L QB M fuel listed fr → zf2 P T0 N md ops L QB M fuel listed fr'
 |0,_,_,_,_,h=>h
 |fuel + 1,listed,fr,fr',he,h=>by
  refine ⟨h.1,fun i hi o ho => ?_⟩
  rcases h.2 i hi o ho with ⟨h1,h2,h3,h4⟩ | ⟨h1,hd,A,hy,hr⟩
  ·exact .inl ⟨h1,h2,h3,hQ fr fr' he h4⟩
  ·refine .inr ⟨h1,hd,A,hy.other (fun s _=>he s),zf1 hQ fuel _ _ _ (fun s => ?_) hr⟩
   cases hdst : o.dst with
   |none=>exact he s
   |some d =>
    by_cases e : s = d
    ·subst e; simp only [Fr.put,qm]
    ·simp only [Fr.put,qf e]; exact he s
theorem zk4 {md : Region.Mode} {ops : Array Oper} {QB : Fr → Prop} (hQ : ∀ fr fr' : Fr,(∀ s,fr'.get s = fr.get s) → QB fr → QB fr') (hlast : zb2 md ops = true) {i : Nat} {oi : Oper} {A : AV} (hi : ops[i]? = some oi) (hiL : i < ops.size - 1) (hdi : ∀ x,oi.dst = some x → x < N.n) :
  ∀ (fuel : Nat) (listed : Array Bool) (fr : Fr),
    (∀ j oj,ops[j]? = some oj → j ≠ i → listed.getD j true = false → (∀ e ∈ oj.after,Region.binds md e = true → e.on ≠ i) → oi.apart ops oj = true) →
    Shut md ops listed → i ∈ Region.ready md ops listed → QY P T0 ops oi fr M A →
    zf2 P T0 N md ops (ops.size - 1) QB M fuel (listed.setIfInBounds i true) (fr.put oi.dst A) → zf2 P T0 N md ops (ops.size - 1) QB M (fuel + 1) listed fr:=by
 intro fuel
 induction fuel with
 |zero=>intro listed fr _ _ hr hy H; exact H.elim
 |succ fuel ih =>
  intro listed fr hfree hS hr hy H
  refine ⟨fun h=>(by rw [h] at hr; cases hr),fun j hj o ho => ?_⟩
  by_cases hji : j = i
  ·subst hji; rw [hi] at ho; obtain rfl:=Option.some.inj ho; exact .inr ⟨by omega,hdi,A,hy,H⟩
  ·obtain ⟨hjun,oj,hoj,hall⟩:=mem_ready.1 hj
   rw [ho] at hoj; obtain rfl:=Option.some.inj hoj
   have hnot : ∀ e ∈ o.after,Region.binds md e = true → e.on ≠ i:=fun e he hb heq=>by
    have h1:=hall e he hb
    have h0:=(mem_ready.1 hr).1
    rw [heq] at h1
    rcases Nat.lt_or_ge i listed.size with h' | h'
    ·simp [h'] at h0 h1; rw [h0] at h1; cases h1
    ·simp [Array.getElem?_eq_none h'] at h1
   have hjL : j ≠ ops.size - 1:=fun e=>by
    subst e
    have h1:=zzk hS hlast hj _ i rfl hiL
    have h0:=(mem_ready.1 hr).1
    rcases Nat.lt_or_ge i listed.size with h' | h'
    ·simp [h'] at h0 h1; rw [h0] at h1; cases h1
    ·simp [Array.getElem?_eq_none h'] at h1
   rcases H.2 j (ready_mono hj hji) o ho with ⟨h1,_⟩ | ⟨_,hd,A',hy',hr'⟩
   ·exact absurd h1 hjL
   obtain ⟨p1,p2,p3⟩:=Oper.apart_spec (hfree j o ho hji hjun hnot)
   have hfree' : ∀ k ok,ops[k]? = some ok → k ≠ i → (listed.setIfInBounds j true).getD k true = false →
     (∀ e ∈ ok.after,Region.binds md e = true → e.on ≠ i) → oi.apart ops ok = true:=fun k ok hk hki hun hno=>by
    refine hfree k ok hk hki ?_ hno
    by_cases hjk : j = k
    ·subst hjk; exact hjun
    ·rw [getD_set_ne true hjk] at hun; exact hun
   refine .inr ⟨hjL,hd,A',hy'.other (fun s hs=>(xy fun x hx e=>p1 x hx (e ▸ hs)).symm), ?_⟩
   refine ih (listed.setIfInBounds j true) _ hfree' (hS.put hj) (ready_mono hr (Ne.symm hji)) (hy.other fun s hs=>xy fun x hx e=>p3 x hx (e ▸ hs)) ?_
   rw [Array.setIfInBounds_comm _ _ hji]
   exact zf1 hQ fuel _ _ _ (fun s=>vm (fun x hx e=>p2 x (by rw [← e]) hx |>.elim) s) hr'
def AQB (P : Program) (T0 : Gh) (N : Fz) (ops : Array Oper) (QB : Oper → Fr → Prop) (M : List Own) : List Oper → Fr → Prop
 |[],_=>False
 |o :: rest,fr=>(rest = [] ∧ QB o fr) ∨ (rest ≠ [] ∧ (∀ x,o.dst = some x → x < N.n) ∧ ∃ A,QY P T0 ops o fr M A ∧ AQB P T0 N ops QB M rest (fr.put o.dst A))
theorem zdn {md : Region.Mode} {ops : Array Oper} {QB : Oper → Fr → Prop} (hQ : ∀ o fr fr',(∀ s,Fr.get fr' s = Fr.get fr s) → QB o fr → QB o fr') (hlast : zb2 md ops = true) : ∀ (l : List Oper) (k : Nat) (listed : Array Bool) (fr : Fr),k + l.length = ops.size → (∀ j,l[j]? = ops[k + j]?) →
  Region.lexFrom md ops l.length k listed = true → Shut md ops listed → AQB P T0 N ops QB M l fr → zf2 P T0 N md ops (ops.size - 1) (fun fr => ∃ o,ops[ops.size - 1]? = some o ∧ QB o fr) M l.length listed fr
 |[],_,_,_,_,_,_,_,h=>h.elim
 |o :: l,k,listed,fr,hk,hl,hB,hS,h=>by
  have h0 : ops[k]? = some o:=by simpa using (hl 0).symm
  simp only [List.length_cons,Region.lexFrom,Bool.and_eq_true] at hB
  obtain ⟨⟨hr,hf⟩,hB'⟩:=hB
  have hr' : k ∈ Region.ready md ops listed:=by simpa using hr
  rcases h with ⟨rfl,hq⟩ | ⟨hne,hd,A,hy,hr2⟩
  ·have hkL : k = ops.size - 1:=by simp at hk; omega
   have hend : Region.ready md ops (listed.setIfInBounds k true) = []:=by simpa [Region.lexFrom] using hB'
   refine ⟨fun e=>(by rw [e] at hr'; cases hr'),fun i hi oi hoi => ?_⟩
   by_cases hik : i = k
   ·subst hik
    exact .inl ⟨hkL,rfl,hend,o,by rw [← hkL]; exact h0,hq⟩
   ·have:=ready_mono hi hik
    rw [hend] at this; cases this
  ·have hlen : 0 < l.length:=List.length_pos_iff.2 hne
   refine zk4 (fun fr fr' he ⟨o,h1,h2⟩=>⟨o,h1,hQ o fr fr' he h2⟩) hlast h0 (by simp only [List.length_cons] at hk; omega) hd l.length listed fr (Region.free_spec h0 hf) hS hr' hy
    (zdn hQ hlast l (k + 1) _ _ (by simp only [List.length_cons] at hk; omega) (fun j=>by have:=hl (j + 1); simpa [Nat.add_assoc,Nat.add_comm 1 j] using this) hB' (hS.put hr') hr2)
theorem z5h {ops : Array Oper} {o : Oper} (hL : zb2 .any ops = true) (h : AL P T0 N false ops Q [o] fr M) : AL P T0 N true ops Q [o] fr M:=by
 simp only [AL,Bool.false_eq_true,if_false] at h
 simp only [AL,if_true]
 exact .inl ⟨rfl,hL,h⟩
theorem v6 {ops : Array Oper} {QA : Fr → Prop} {QB : Oper → Fr → Prop} : ∀ (l : List Oper) (fr : Fr),AQ2 P T0 N ops QA QB M l fr → AQ P T0 N ops QA M l fr ∨ AQB P T0 N ops QB M l fr
 |[],_,h=>.inl h
 |o :: rest,fr,h=>by
  rcases h with h | ⟨hd,A,hy,hr⟩
  ·exact .inr (.inl h)
  ·rcases v6 rest _ hr with h | h
   ·exact .inl ⟨hd,A,hy,h⟩
   ·exact .inr (.inr ⟨fun e=>by subst e; exact h.elim,hd,A,hy,h⟩)
theorem u9 {ops : Array Oper} {QA : Fr → Prop} : ∀ (l : List Oper) (fr : Fr),AQ P T0 N ops QA M l fr → AQ P T0 N ops (fun fr' => ∃ fr1,(∀ s,Fr.get fr' s = Fr.get fr1 s) ∧ QA fr1) M l fr
 |[],fr,h=>⟨fr,fun _=>rfl,h⟩
 |o :: rest,fr,h=>let ⟨hd,A,hy,hr⟩:=h; ⟨hd,A,hy,u9 rest _ hr⟩
theorem zhq {ops : Array Oper} {QB : Oper → Fr → Prop} : ∀ (l : List Oper) (fr : Fr),AQB P T0 N ops QB M l fr → AQB P T0 N ops (fun o fr' => ∃ fr1,(∀ s,Fr.get fr' s = Fr.get fr1 s) ∧ QB o fr1) M l fr
 |[],fr,h=>h.elim
 |o :: rest,fr,h=>h.imp (fun ⟨e,h⟩=>⟨e,fr,fun _=>rfl,h⟩) (fun ⟨hne,hd,A,hy,hr⟩=>⟨hne,hd,A,hy,zhq rest _ hr⟩)
theorem yp {ops : Array Oper} {QB : Oper → Fr → Prop} : ∀ (l : List Oper) (fr : Fr),AQB P T0 N ops QB M l fr → l ≠ [] ∧ ∃ o fr',QB o fr'
 |[],fr,h=>h.elim
 |o :: rest,fr,h=>⟨by simp,by
  rcases h with ⟨_,h⟩ | ⟨_,_,A,_,hr⟩
  ·exact ⟨o,fr,h⟩
  ·exact (yp rest _ hr).2⟩
theorem zr9 {id : Nat} {l : List Oper} (hm : P.follows .mixedOrders = true) (hB : Region.lexB .any l.toArray = true) (h : AL P T0 N true l.toArray Q l fr M) : AW P T0 N (.region id l.toArray true) Q fr M:=fun w0 G F a w hc=>by
 have h' : AQ2 P T0 N l.toArray (fun fr'=>Q .normal fr' M) (fun o fr'=>zb2 .any l.toArray = true ∧ AE P T0 N l.toArray Q [o] fr' M) M l fr:=by simpa [AL] using h
 simp only [Region.lexB,Bool.and_eq_true] at hB
 rcases v6 _ _ h' with h1 | h1
 ·have h2:=u9 _ _ h1
  refine wp_region_any hm (za6 (QA:=fun fr' => ∃ fr1,(∀ s,fr'.get s = fr1.get s) ∧ Q .normal fr1 M) (G0:=G) (F:=F) (w0:=w0) ?_ _ _ fr G _ _ (Gh.le.refl _) ⟨hc.st.drew,hc.fr,hc.size,hc.defers⟩ ?_)
  ·rintro fr' G' a' w' hl ⟨fr1,he,hq⟩ hc'
   exact ⟨fr1,M,G',hq,hl,hc'.st,fun s A hs e=>hc'.fr s A hs (by rw [he s]; exact e),hc'.size,hc'.defers⟩
  ·have:=zdo (md:=.any) (QA:=fun fr' => ∃ fr1,(∀ s,fr'.get s = fr1.get s) ∧ Q .normal fr1 M) (fun fr fr' he h=>by obtain ⟨fr1,h1,h2⟩:=h; exact ⟨fr1,fun s=>(he s).trans (h1 s),h2⟩) l 0 (Array.replicate l.toArray.size false) fr (by simp) (by simpa using hB.2) h2
   simpa using this
 ·obtain ⟨hne,_,_,hlast,_⟩:=yp _ _ h1
  have h2:=zhq _ _ h1
  have hpos : l.toArray.size - 1 < l.toArray.size:=by
   have:=List.length_pos_iff.2 hne
   simp; omega
  have h3:=zdn (md:=.any) (fun o fr fr' he h=>by obtain ⟨fr1,h1,h2⟩:=h; exact ⟨fr1,fun s=>(he s).trans (h1 s),h2⟩) hlast l 0 (Array.replicate l.toArray.size false) fr (by simp) (by simp) (by simpa using hB.2) (y5 _) h2
  refine wp_region_any hm (za5 (G0:=G) (F:=F) (w0:=w0) (Array.getElem?_eq_getElem hpos) ?_ _ _ fr G _ _ (Gh.le.refl _) ⟨hc.st.drew,hc.fr,hc.size,hc.defers⟩ h3)
  rintro fr' G' a' w' hl ⟨o,ho,fr1,he,_,hq⟩ hc'
  have hoe : o = l.toArray[l.toArray.size - 1]:=Option.some.inj (ho.symm.trans (Array.getElem?_eq_getElem hpos))
  subst hoe
  exact q_ (fun _ _ _ q=>q.mono (fun _ _ _ h=>h) hl) _ _ _ (hq w0 G' F a' w' ⟨hc'.st,fun s A hs e=>hc'.fr s A hs (by rw [he s]; exact e),hc'.size,hc'.defers⟩)
def Sub (A A' : AV) : Prop := ∀ G u,Rep G A u → Rep G A' u
theorem Sub.refl (A : AV) : Sub A A:=fun _ _ h=>h
theorem Sub.eq {A A' : AV} (h : A = A') : Sub A A':=fun _ _ r=>h ▸ r
theorem Sub.trans {A B C : AV} (h : Sub A B) (k : Sub B C) : Sub A C:=fun G u r=>k G u (h G u r)
def SubL : List AV → List AV → Prop
 |[],[]=>True
 |A :: l,B :: r=>Sub A B ∧ SubL l r
 |_,_=>False
theorem SubL.rep {G : Gh} : ∀ {l r us},SubL l r → AllRep G l us → AllRep G r us
 |[],[],[],_,_=>trivial
 |_ :: _,_ :: _,_ :: _,h,k=>⟨h.1 _ _ k.1,SubL.rep h.2 k.2⟩
 |[],_ :: _,_,h,_=>h.elim
 |_ :: _,[],_,h,_=>h.elim
theorem y4 : SubL [] []:=trivial
theorem qu {A A' : AV} {l l' : List AV} (h : Sub A A') (k : SubL l l') : SubL (A :: l) (A' :: l'):=⟨h,k⟩
theorem wa {l r : List AV} (h : SubL l r) : Sub (zy l) (zy r):=fun _ _ k=>by
 obtain ⟨us,rfl,q⟩:=k.tup
 exact .of ⟨us,rfl,h.rep q⟩
theorem un {l r : List AV} (h : SubL l r) : Sub (qb l) (qb r):=fun _ _ k=>by
 obtain ⟨us,rfl,q⟩:=k.agg
 exact .of ⟨us,rfl,h.rep q⟩
def zkv (P : Program) (f : FuncId) : Prop := ∃ fn,P.funcs[f]? = some fn ∧ (fn.name == "runtime.NumGoroutine") = false ∧ fn.body.isNone = false
structure AF (P : Program) (T0 : Gh) (f : FuncId) (As : List AV) (M : List Own) (K : AV → List Own → Prop) (KP : List PanicEntry → List Own → Prop:=fun _ _=>False) : Prop where
 able : zkv P f
 calls : ∀ w0 G F w (vs : List Value),St T0 w0 G (M ++ F) w → AllRep G As vs → Calls P f vs.toArray w fun e w' =>
  (∃ u A M' G',e = .returned u ∧ K A M' ∧ Rep G' A u ∧ Gh.le G G' ∧ St T0 w0 G' (M' ++ F) w') ∨ (∃ c M' G',e = .panicked c ∧ KP c M' ∧ Gh.le G G' ∧ St T0 w0 G' (M' ++ F) w')
abbrev AP (P : Program) (T0 : Gh) (f : FuncId) (As : List AV) (A : AV) : Prop:=AF P T0 f As [] (fun A' M'=>Sub A' A ∧ M' = [])
theorem AF.mono {f : FuncId} {As : List AV} {K K' : AV → List Own → Prop} {KP KP' : List PanicEntry → List Own → Prop} (h : AF P T0 f As M K KP) (hk : ∀ A M,K A M → K' A M) (hp : ∀ c M,KP c M → KP' c M) : AF P T0 f As M K' KP' :=
 ⟨h.able,fun w0 G F w vs hs hr=>(h.calls w0 G F w vs hs hr).mono fun e w' q=>q.imp (fun ⟨u,A,M',G',e1,e2,r⟩=>⟨u,A,M',G',e1,hk _ _ e2,r⟩) (fun ⟨c,M',G',e1,e2,r⟩=>⟨c,M',G',e1,hp _ _ e2,r⟩)⟩
def zet : Nat → List AV → Fr
 |_,[]=>[]
 |n,A :: l=>(n,A) :: zet (n + 1) l
theorem zbo {G : Gh} : ∀ (l : List AV) (us : List Value) (n : Nat) (pre post : List Value),pre.length = n → AllRep G l us → frRel G (zet n l) (pre ++ us ++ post).toArray
 |[],[],_,_,_,_,_=>fun s A _ e=>by simp [zet,Fr.get] at e
 |A :: l,u :: us,n,pre,post,hn,h=>fun s B hs e=>by
  by_cases h1 : s = n
  ·subst h1
   simp only [zet,qm] at e
   obtain rfl:=Option.some.inj e
   refine ⟨u, ?_,h.1⟩
   subst hn
   simp
  ·simp only [zet,qf h1] at e
   have:=zbo l us (n + 1) (pre ++ [u]) post (by simp [hn]) h.2 s B hs e
   simpa using this
def zi3 (P : Program) (T0 : Gh) (fn : Func) (fr : Fr) (M : List Own) (A : AV) : Prop := ∀ w0 G F (tmps : Array Value) w,St T0 w0 G (M ++ F) w → frRel G fr tmps → ∃ u,(results fn tmps).run P w = .ok u w ∧ Rep G A u
theorem qcz {fn : Func} (h : fn.results = #[]) : zi3 P T0 fn fr M (vA (.tuple #[])):=fun _ G _ tmps w _ _=>⟨_,results_none h tmps P w,Rep.va _ _⟩
theorem ki {G : Gh} {tmps : Array Value} (h : frRel G fr tmps) {t : Nat} {A : AV} (e : fr.get t = some A) : Rep G A (tmps.getD t undef):=by
 obtain ⟨u,h1,h2⟩:=h t A trivial e
 simpa [h1] using h2
theorem qcy {fn : Func} {t : Nat} {A : AV} (h : fn.results = #[.tmp t]) (e : fr.get t = some A) : zi3 P T0 fn fr M A:=fun _ G _ tmps w _ hr=>⟨_,results_tmp h tmps P w,ki hr e⟩
theorem qcx {fn : Func} {t t' : Nat} {A A' : AV} (h : fn.results = #[.tmp t,.tmp t']) (e : fr.get t = some A) (e' : fr.get t' = some A') : zi3 P T0 fn fr M (zy [A,A']):=fun _ G _ tmps w _ hr =>
 ⟨_,results_tmp2 h tmps P w,.of ⟨[_,_],rfl,ki hr e,ki hr e',trivial⟩⟩
theorem qcw {fn : Func} {t t' t'' : Nat} {A A' A'' : AV} (h : fn.results = #[.tmp t,.tmp t',.tmp t'']) (e : fr.get t = some A) (e' : fr.get t' = some A') (e'' : fr.get t'' = some A'') : zi3 P T0 fn fr M (zy [A,A',A'']):=fun _ G _ tmps w _ hr =>
 ⟨.tuple #[_,_,_],by simp [results,h],.of ⟨[_,_,_],rfl,ki hr e,ki hr e',ki hr e'',trivial⟩⟩
def qay (P : Program) (T0 : Gh) (fn : Func) (K : AV → List Own → Prop) (KP : List PanicEntry → List Own → Prop) : ko
 |.normal,fr,M => ∃ A M',zi3 P T0 fn fr M A ∧ List.Sublist M' M ∧ K A M'
 |.ret,fr,M => ∃ A M',zi3 P T0 fn fr M A ∧ List.Sublist M' M ∧ K A M'
 |.panic c,_,M=>KP c M
 |_,_,_=>False
theorem za {n : Nat} {f : FuncId} {fn : Func} {c : Code} {As : List AV} {K : AV → List Own → Prop} {KP : List PanicEntry → List Own → Prop} (hf : P.funcs[f]? = some fn) (hb : fn.body = some c) (hname : (fn.name == "runtime.NumGoroutine") = false)
  (hN : fn.ntmps = n) (hA : Nat.ble As.length n = true) (h : AW P T0 ⟨n,[]⟩ c (qay P T0 fn K KP) (zet 0 As) M) : AF P T0 f As M K KP:=by
 refine ⟨⟨fn,hf,hname,by simp [hb]⟩,fun w0 G F w vs hs hr=>calls_of_wp hf hb ?_⟩
 have hlen:=hr.len
 have hA' : As.length ≤ n:=by simpa using hA
 have hrel:=zbo As vs 0 [] (List.replicate (fn.ntmps - vs.length) undef) rfl hr
 refine wp_mono (h w0 G F _ w ⟨hs, ?_, ?_,rfl⟩) ?_
 ·have e : (vs.toArray ++ Array.replicate (fn.ntmps - vs.toArray.size) undef) = ([] ++ vs ++ List.replicate (fn.ntmps - vs.length) undef).toArray:=by simp
  simp only [e]; exact hrel
 ·simp; omega
 ·rintro e a w' ⟨fr',M',G',q,hl,hc⟩
  cases e with
  |normal =>
   obtain ⟨A,M2,h1,hsub,h2⟩:=q
   obtain ⟨u,h3,h4⟩:=h1 w0 G' F a.tmps w' hc.st hc.fr
   exact ⟨hc.defers,u,h3,.inl ⟨u,A,M2,G',rfl,h2,h4,hl,hc.st.sub (hsub.append (List.Sublist.refl F))⟩⟩
  |ret =>
   obtain ⟨A,M2,h1,hsub,h2⟩:=q
   obtain ⟨u,h3,h4⟩:=h1 w0 G' F a.tmps w' hc.st hc.fr
   exact ⟨hc.defers,u,h3,.inl ⟨u,A,M2,G',rfl,h2,h4,hl,hc.st.sub (hsub.append (List.Sublist.refl F))⟩⟩
  |panic c=>exact ⟨hc.defers,.inr ⟨c,M',G',rfl,q,hl,hc.st⟩⟩
  |exit _=>exact q.elim
  |goto _=>exact q.elim
  |outgrown=>exact q.elim
end
end
section
open Go Go.RowKit
section
variable {P : Program} {T0 : Gh} {N : Fz} {Q : ko} {fr : Fr} {M : List Own} {ops : Array Oper} {o : Oper}
def Opd (T0 : Gh) (fr : Fr) (x : Operand) (A : AV) : Prop := ∀ G (a : Act),Gh.le T0 G → (∀ s,x = .tmp s → ∀ B,fr.get s = some B → ∃ u,a.tmps[s]? = some u ∧ Rep G B u) → Rep G A (a.eval x)
theorem zyt {s : Nat} (h : Operand.tmp s ∈ o.op.operands) : reads ops o s:=List.mem_append_left _ (List.mem_filterMap.2 ⟨.tmp s,by simpa using h,rfl⟩)
theorem Opd.use {x : Operand} {A : AV} (h : Opd T0 fr x A) (hx : x ∈ o.op.operands) {G : Gh} {a : Act} (ht : Gh.le T0 G) (hf : frOn G (reads ops o) fr a.tmps) : Rep G A (a.eval x) :=
 h G a ht fun s hs B hb=>hf s B (zyt (hs ▸ hx)) hb
theorem z3j {s : Nat} {A : AV} (h : fr.get s = some A) : Opd T0 fr (.tmp s) A:=fun G a _ hf=>by
 obtain ⟨u,h1,h2⟩:=hf s rfl A h
 have : a.eval (.tmp s) = u:=by simp [Act.eval,h1]
 rw [this]; exact h2
theorem zgh {v : Value} : Opd T0 fr (.const v) (vA v):=fun G _ _ _=>Rep.va G v
theorem zy4 {f : FuncId} : Opd T0 fr (.func f) (vA (.func (.func f) #[] #[])):=fun G _ _ _=>Rep.va G _
def Fr.opd (fr : Fr) : Operand → Option AV
 |.tmp s=>fr.get s
 |.const v=>some (vA v)
 |.func f=>some (vA (.func (.func f) #[] #[]))
 |.global _=>none
theorem od {x : Operand} {A : AV} (h : fr.opd x = some A) : Opd T0 fr x A:=by
 cases x with
 |tmp s=>exact z3j h
 |const v=>obtain rfl:=Option.some.inj h; exact zgh
 |func f=>obtain rfl:=Option.some.inj h; exact zy4
 |global g=>cases h
theorem odl {x : Operand} {k : IntKind} {n : Nat} {A : AV} (h : fr.opd x = some A) (e : A = vA (.int k (OfNat.ofNat n))) : Opd T0 fr x (vA (.int k ((OfNat.ofNat n : Nat) : Int))):=od (h.trans (congrArg some e))
theorem og {x : Operand} {c : Bool} {A : AV} (h : fr.opd x = some (gvA c A)) (hc : c = true) : Opd T0 fr x A:=fun G a ht hf=>(od h G a ht hf).gv.1 hc
theorem zjo {g : Nat} {cs : List Value} (h : ∀ j v,cs[j]? = some v → T0 g j = some v) : Opd T0 fr (.global g) (ipA cs):=fun G _ ht _=>.of ⟨g,0,rfl,fun j v hv=>by rw [Nat.zero_add]; exact ht _ _ _ (h j v hv)⟩
theorem xd {A : AV} (h : ∀ w0 G F (a : Act) w,St T0 w0 G (M ++ F) w → frOn G (reads ops o) fr a.tmps → ∃ u,(execOp a.eval o).run P w = .ok (.value u) w ∧ Rep G A u) : AY P T0 ops o fr M A:=fun w0 G F a w next Qc hs hf hk _=>by
 obtain ⟨u,h1,h2⟩:=h w0 G F a w hs hf
 unfold Oper.wp; rw [h1]
 exact hk A M G u w ⟨rfl,rfl⟩ (Gh.le.refl _) hs h2
theorem zwv {x : Operand} {A : AV} (ho : o.op = .move x) (hx : Opd T0 fr x A) : AY P T0 ops o fr M A:=xd fun w0 G F a w hs hf =>
 ⟨a.eval x,by simp [execOp,ho],hx.use (by simp [ho,Op.operands]) hs.tab hf⟩
theorem zmj {x : Operand} {A : AV} (ho : o.op = .assign x) (hx : Opd T0 fr x A) : AY P T0 ops o fr M A:=xd fun w0 G F a w hs hf =>
 ⟨a.eval x,by simp [execOp,ho],hx.use (by simp [ho,Op.operands]) hs.tab hf⟩
theorem zws {c x y : Operand} {b : Bool} {A : AV} (ho : o.op = .pick c x y) (hc : Opd T0 fr c (B b)) (hx : b = true → Opd T0 fr x A) (hy : b = false → Opd T0 fr y A) : AY P T0 ops o fr M A:=xd fun w0 G F a w hs hf=>by
 have h1:=(hc.use (o:=o) (ops:=ops) (by simp [ho,Op.operands]) hs.tab hf).eq
 cases b with
 |true=>exact ⟨a.eval x,by simp [execOp,ho,h1,asBool],(hx rfl).use (o:=o) (by simp [ho,Op.operands]) hs.tab hf⟩
 |false=>exact ⟨a.eval y,by simp [execOp,ho,h1,asBool],(hy rfl).use (o:=o) (by simp [ho,Op.operands]) hs.tab hf⟩
theorem zw1 {c x : Operand} {b d : Bool} (ho : o.op = .pick c x (.const (.bool false))) (hc : Opd T0 fr c (B b)) (hx : b = true → Opd T0 fr x (B d)) : AY P T0 ops o fr M (B (b && d)) :=
 zws ho hc (fun e=>by subst e; exact hx rfl) (fun e=>by subst e; exact zgh)
theorem z8s {c y : Operand} {b d : Bool} (ho : o.op = .pick c (.const (.bool true)) y) (hc : Opd T0 fr c (B b)) (hy : b = false → Opd T0 fr y (B d)) : AY P T0 ops o fr M (B (b || d)) :=
 zws ho hc (fun e=>by subst e; exact zgh) (fun e=>by subst e; exact hy rfl)
theorem z2d {t : TypeId} {x : Operand} {b : Bool} (ho : o.op = .unOp .not t x) (hx : Opd T0 fr x (B b)) : AY P T0 ops o fr M (B (!b)):=xd fun w0 G F a w hs hf =>
 ⟨_,by simp [execOp,ho,(hx.use (o:=o) (ops:=ops) (by simp [ho,Op.operands]) hs.tab hf).eq,Op.unary],Rep.va _ _⟩
theorem zao {op : BinOp} {t : TypeId} {x y : Operand} {k k' : IntKind} {a b : Int} {w : World} : (eqGuard op t x y (.int k a) (.int k' b)).run P w = .ok () w:=by
 unfold eqGuard; split <;> rfl
theorem zi0 {op : BinOp} {t t' : TypeId} {x y : Operand} {k : IntKind} {a b : Int} {c : Bool} (ho : o.op = .binOp op t x y t') (hx : Opd T0 fr x (vA (.int k a))) (hy : Opd T0 fr y (vA (.int k b)))
  (hr : ∀ w,(binOp op t (.int k a) (.int k b)).run P w = .ok (.bool c) w) : AY P T0 ops o fr M (B c):=xd fun w0 G F a' w hs hf=>by
 have h1:=(hx.use (o:=o) (ops:=ops) (by simp [ho,Op.operands]) hs.tab hf).eq
 have h2:=(hy.use (o:=o) (ops:=ops) (by simp [ho,Op.operands]) hs.tab hf).eq
 exact ⟨_,by simp [execOp,ho,h1,h2,zao,hr],Rep.va _ _⟩
theorem z2f {t t' : TypeId} {x y : Operand} {k : IntKind} {a b : Int} (ho : o.op = .binOp .lss t x y t') (hx : Opd T0 fr x (vA (.int k a))) (hy : Opd T0 fr y (vA (.int k b))) : AY P T0 ops o fr M (B (decide (a < b))):=zi0 ho hx hy fun w=>by simp [binOp,Op.intCmp]
theorem z2g {t t' : TypeId} {x y : Operand} {k : IntKind} {a b : Int} (ho : o.op = .binOp .leq t x y t') (hx : Opd T0 fr x (vA (.int k a))) (hy : Opd T0 fr y (vA (.int k b))) : AY P T0 ops o fr M (B (decide (a ≤ b))):=zi0 ho hx hy fun w=>by simp [binOp,Op.intCmp]
theorem z2i {t t' : TypeId} {x y : Operand} {k : IntKind} {a b : Int} (ho : o.op = .binOp .gtr t x y t') (hx : Opd T0 fr x (vA (.int k a))) (hy : Opd T0 fr y (vA (.int k b))) : AY P T0 ops o fr M (B (decide (b < a))):=zi0 ho hx hy fun w=>by simp [binOp,Op.intCmp]
theorem z2j {t t' : TypeId} {x y : Operand} {k : IntKind} {a b : Int} (ho : o.op = .binOp .geq t x y t') (hx : Opd T0 fr x (vA (.int k a))) (hy : Opd T0 fr y (vA (.int k b))) : AY P T0 ops o fr M (B (decide (b ≤ a))):=zi0 ho hx hy fun w=>by simp [binOp,Op.intCmp]
theorem z8v {t t' : TypeId} {x y : Operand} {k : IntKind} {a b : Int} (ho : o.op = .binOp .eql t x y t') (hx : Opd T0 fr x (vA (.int k a))) (hy : Opd T0 fr y (vA (.int k b))) : AY P T0 ops o fr M (B (decide (a = b))):=zi0 ho hx hy fun w=>by simp [binOp,Op.intCmp]; rfl
theorem z8t {t t' : TypeId} {x y : Operand} {k : IntKind} {a b : Int} (ho : o.op = .binOp .neq t x y t') (hx : Opd T0 fr x (vA (.int k a))) (hy : Opd T0 fr y (vA (.int k b))) : AY P T0 ops o fr M (B (!decide (a = b))):=zi0 ho hx hy fun w=>by simp [binOp,Op.intCmp]; rfl
theorem za1 {op : BinOp} {t t' : TypeId} {x y : Operand} {k k2 : IntKind} {a b : Int} {r : Value} (ho : o.op = .binOp op t x y t') (hx : Opd T0 fr x (vA (.int k a))) (hy : Opd T0 fr y (vA (.int k2 b)))
  (hr : ∀ w,(binOp op t (.int k a) (.int k2 b)).run P w = .ok r w) : AY P T0 ops o fr M (vA r):=xd fun w0 G F a' w hs hf=>by
 have h1:=(hx.use (o:=o) (ops:=ops) (by simp [ho,Op.operands]) hs.tab hf).eq
 have h2:=(hy.use (o:=o) (ops:=ops) (by simp [ho,Op.operands]) hs.tab hf).eq
 exact ⟨_,by simp [execOp,ho,h1,h2,zao,hr],Rep.va _ _⟩
def Fit (k : IntKind) (n : Int) : Prop:=k.wrap n = n
theorem z__ {n : Int} (h1 : -9223372036854775808 ≤ n) (h2 : n ≤ 9223372036854775807) : Fit .i64 n:=IntWalk.i64_in n ⟨h1,h2⟩
theorem qc6 {n : Int} (h1 : 0 ≤ n) (h2 : n ≤ 255) : Fit .u8 n:=by
 unfold Fit IntKind.wrap; simp [IntKind.bits,IntKind.signed]; omega
theorem zw2 {t t' : TypeId} {x y : Operand} {k : IntKind} {a b : Int} (ho : o.op = .binOp .add t x y t') (hx : Opd T0 fr x (vA (.int k a))) (hy : Opd T0 fr y (vA (.int k b))) (hf : Fit k (a + b)) : AY P T0 ops o fr M (vA (.int k (a + b))):=za1 ho hx hy fun w=>by simp [binOp,Op.intArith,show k.wrap (a + b) = a + b from hf]
theorem zho {t t' : TypeId} {x y : Operand} {k : IntKind} {a b : Int} (ho : o.op = .binOp .sub t x y t') (hx : Opd T0 fr x (vA (.int k a))) (hy : Opd T0 fr y (vA (.int k b))) (hf : Fit k (a - b)) : AY P T0 ops o fr M (vA (.int k (a - b))):=za1 ho hx hy fun w=>by simp [binOp,Op.intArith,show k.wrap (a - b) = a - b from hf]
theorem zwu {t t' : TypeId} {x y : Operand} {k : IntKind} {a b : Int} (ho : o.op = .binOp .mul t x y t') (hx : Opd T0 fr x (vA (.int k a))) (hy : Opd T0 fr y (vA (.int k b))) (hf : Fit k (a * b)) : AY P T0 ops o fr M (vA (.int k (a * b))):=za1 ho hx hy fun w=>by simp [binOp,Op.intArith,show k.wrap (a * b) = a * b from hf]
theorem zwr {t t' : TypeId} {x y : Operand} {k : IntKind} {a b : Int} (ho : o.op = .binOp .quo t x y t') (hx : Opd T0 fr x (vA (.int k a))) (hy : Opd T0 fr y (vA (.int k b))) (ha : 0 ≤ a) (hb : 0 < b) (hf : Fit k (a / b)) : AY P T0 ops o fr M (vA (.int k (a / b))):=za1 ho hx hy fun w=>by
 have e : a.tdiv b = a / b:=Int.tdiv_eq_ediv_of_nonneg ha
 simp [binOp,Op.intDiv,Int.ne_of_gt hb,e,show k.wrap (a / b) = a / b from hf]
theorem zwq {t t' : TypeId} {x y : Operand} {k : IntKind} {a b : Int} (ho : o.op = .binOp .rem t x y t') (hx : Opd T0 fr x (vA (.int k a))) (hy : Opd T0 fr y (vA (.int k b))) (ha : 0 ≤ a) (hb : 0 < b) : AY P T0 ops o fr M (vA (.int k (a % b))):=za1 ho hx hy fun w=>by
 have e : a.tmod b = a % b:=Int.tmod_eq_emod_of_nonneg ha
 simp [binOp,Op.intDiv,Int.ne_of_gt hb,e]
theorem zkm {op : BinOp} {t t' : TypeId} {x y : Operand} {k : IntKind} {a b r : Int} (ho : o.op = .binOp op t x y t') (hx : Opd T0 fr x (vA (.int k a))) (hy : Opd T0 fr y (vA (.int k b)))
  (hr : ∀ w,(binOp op t (.int k a) (.int k b)).run P w = .ok (.int k r) w) : AY P T0 ops o fr M (vA (.int k r)):=za1 ho hx hy hr
theorem z2e {t : TypeId} {x : Operand} {k : IntKind} {a : Int} (ho : o.op = .unOp .neg t x) (hx : Opd T0 fr x (vA (.int k a))) (hf : Fit k (-a)) : AY P T0 ops o fr M (vA (.int k (-a))):=xd fun w0 G F a' w hs hf' =>
 ⟨_,by simp [execOp,ho,(hx.use (o:=o) (ops:=ops) (by simp [ho,Op.operands]) hs.tab hf').eq,Op.unary,Op.intArith,show k.wrap (-a) = -a from hf],Rep.va _ _⟩
theorem jr {s d : TypeId} {x : Operand} {k k' : IntKind} {a : Int} {ts : TypeDesc} (ho : o.op = .convert s d x) (hs' : P.underlying s = some ts) (hd : P.underlying d = some (.int k')) (hx : Opd T0 fr x (vA (.int k a))) (hf : Fit k' a) : AY P T0 ops o fr M (vA (.int k' a)):=xd fun w0 G F a' w hs hf' =>
 ⟨_,by
  have h1:=(hx.use (o:=o) (ops:=ops) (by simp [ho,Op.operands]) hs.tab hf').eq
  simp [execOp,ho,h1,convert,run_underlying hs',run_underlying hd,Conv.intToInt,show k'.wrap a = a from hf],Rep.va _ _⟩
theorem z4_ {t t' : TypeId} {x y : Operand} {a b : Bool} (ho : o.op = .binOp .eql t x y t') (hu : P.underlying t = some .bool) (hx : Opd T0 fr x (B a)) (hy : Opd T0 fr y (B b)) : AY P T0 ops o fr M (B (a == b)):=xd fun w0 G F a' w hs hf=>by
 have h1:=(hx.use (o:=o) (ops:=ops) (by simp [ho,Op.operands]) hs.tab hf).eq
 have h2:=(hy.use (o:=o) (ops:=ops) (by simp [ho,Op.operands]) hs.tab hf).eq
 have h3 : (eqGuard .eql t x y (.bool a) (.bool b)).run P w = .ok () w:=by unfold eqGuard; split <;> rfl
 have h4 : (Op.equal t (.bool a) (.bool b)).run P w = .ok (a == b) w:=run_equalIn_bool w 9999 t a b hu
 have h5 : (binOp .eql t (.bool a) (.bool b)).run P w = .ok (.bool (a == b)) w:=by
  simp only [binOp,Sem.run_bind,h4,Result.andThen_ok,Sem.run_pure]
 refine ⟨_, ?_,Rep.va _ _⟩
 simp only [execOp,ho,h1,h2,Sem.run_bind,h3,h5,Result.andThen_ok,Sem.run_pure]
theorem z48 {t t' : TypeId} {x y : Operand} {a b : Bool} (ho : o.op = .binOp .neq t x y t') (hu : P.underlying t = some .bool) (hx : Opd T0 fr x (B a)) (hy : Opd T0 fr y (B b)) : AY P T0 ops o fr M (B (!(a == b))):=xd fun w0 G F a' w hs hf=>by
 have h1:=(hx.use (o:=o) (ops:=ops) (by simp [ho,Op.operands]) hs.tab hf).eq
 have h2:=(hy.use (o:=o) (ops:=ops) (by simp [ho,Op.operands]) hs.tab hf).eq
 have h3 : (eqGuard .neq t x y (.bool a) (.bool b)).run P w = .ok () w:=by unfold eqGuard; split <;> rfl
 have h4 : (Op.equal t (.bool a) (.bool b)).run P w = .ok (a == b) w:=run_equalIn_bool w 9999 t a b hu
 have h5 : (binOp .neq t (.bool a) (.bool b)).run P w = .ok (.bool (!(a == b))) w:=by
  simp only [binOp,Sem.run_bind,h4,Result.andThen_ok,Sem.run_pure]
 refine ⟨_, ?_,Rep.va _ _⟩
 simp only [execOp,ho,h1,h2,Sem.run_bind,h3,h5,Result.andThen_ok,Sem.run_pure]
theorem zwp {op : BinOp} {t t' : TypeId} {x y : Operand} {a b : ByteArray} {r : Value} (ho : o.op = .binOp op t x y t') (hx : Opd T0 fr x (vA (.string a))) (hy : Opd T0 fr y (vA (.string b)))
  (hr : ∀ w,(Op.stringOp op a b).run P w = .ok r w) : AY P T0 ops o fr M (vA r):=xd fun w0 G F a' w hs hf=>by
 have h1:=(hx.use (o:=o) (ops:=ops) (by simp [ho,Op.operands]) hs.tab hf).eq
 have h2:=(hy.use (o:=o) (ops:=ops) (by simp [ho,Op.operands]) hs.tab hf).eq
 have h3 : (eqGuard op t x y (.string a) (.string b)).run P w = .ok () w:=by unfold eqGuard; split <;> rfl
 have h4 : ∀ op,binOp op t (.string a) (.string b) = Op.stringOp op a b:=fun op=>by cases op <;> rfl
 exact ⟨_,by simp [execOp,ho,h1,h2,h3,h4,hr],Rep.va _ _⟩
theorem ziz {x : Operand} {i : Nat} {l : List AV} {A : AV} (ho : o.op = .extract x i) (hx : Opd T0 fr x (zy l)) (hi : l[i]? = some A) : AY P T0 ops o fr M A:=xd fun w0 G F a w hs hf=>by
 obtain ⟨us,h1,h2⟩:=(hx.use (o:=o) (ops:=ops) (by simp [ho,Op.operands]) hs.tab hf).tup
 obtain ⟨u,h3,h4⟩:=h2.get i hi
 exact ⟨u,by simp [execOp,ho,h1,Instr.extract,h3],h4⟩
def OpdAll (T0 : Gh) (fr : Fr) : List Operand → List AV → Prop
 |[],[]=>True
 |x :: xs,A :: l=>Opd T0 fr x A ∧ OpdAll T0 fr xs l
 |_,_=>False
theorem OpdAll.use {G : Gh} {a : Act} (ht : Gh.le T0 G) : ∀ {xs l},OpdAll T0 fr xs l → (∀ x ∈ xs,x ∈ o.op.operands) → frOn G (reads ops o) fr a.tmps → AllRep G l (xs.map a.eval)
 |[],[],_,_,_=>trivial
 |x :: xs,A :: l,h,hx,hf=>⟨h.1.use (hx x (by simp)) ht hf,OpdAll.use ht h.2 (fun y hy=>hx y (by simp [hy])) hf⟩
theorem zcn : OpdAll T0 fr [] []:=trivial
theorem zcm {x : Operand} {A : AV} {xs : List Operand} {l : List AV} (h : Opd T0 fr x A) (r : OpdAll T0 fr xs l) : OpdAll T0 fr (x :: xs) (A :: l):=⟨h,r⟩
theorem zap {f : FuncId} (h : zkv P f) (args : Array Value) (w : World) : (callFunc f args).run P w = .ok (.enter f args) w:=by
 obtain ⟨fn,h1,h2,h3⟩:=h
 have h4 : fn.name ≠ "runtime.NumGoroutine":=by simpa using h2
 have h5 : fn.body ≠ none:=fun e=>by rw [e] at h3; cases h3
 simp [callFunc,h1,h4,h5]
theorem zhr {f : FuncId} {args : Array Operand} {ts : Array TypeId} {As : List AV} {M1 : List Own} {M2 : List Own} {K : AV → List Own → Prop} {KP : List PanicEntry → List Own → Prop}
  (ho : o.op = .call { callee:=.value (.func f),args:=args,argTypes:=ts }) (ha : OpdAll T0 fr args.toList As) (c : AF P T0 f As M1 K KP) (hM : M = M1 ++ M2) :
  AO P T0 ops o fr M (fun A M' => ∃ M1',M' = M1' ++ M2 ∧ K A M1') (fun ch M' => ∃ M1',M' = M1' ++ M2 ∧ KP ch M1'):=fun w0 G F a w next Qc hs hf hk hp=>by
 subst hM
 have hr : AllRep G As (args.toList.map a.eval):=ha.use (o:=o) (ops:=ops) hs.tab (fun x hx=>by simp [ho,Op.operands,Call.operands]; exact .inr (by simpa using hx)) hf
 have hrun : (execOp a.eval o).run P w = .ok (.enter f (args.toList.map a.eval).toArray) w:=by
  have e : Array.map a.eval args = (args.toList.map a.eval).toArray:=by rw [← Array.toList_map,Array.toArray_toList]
  simp only [execOp,ho,resolve]
  simp [Deferred.ofValue,Act.eval,invoke,zap c.able,e]
 unfold Oper.wp; rw [hrun,Oper.upon_enter]
 rw [List.append_assoc] at hs
 refine (c.calls w0 G (M2 ++ F) w _ hs hr).mono ?_
 rintro e w' (⟨u,A,M',G',rfl,q,hu,hl,hs'⟩ | ⟨ch,M',G',rfl,q,hl,hs'⟩)
 ·exact hk A (M' ++ M2) G' u w' ⟨M',rfl,q⟩ hl (by rw [List.append_assoc]; exact hs') hu
 ·exact hp ch (M' ++ M2) G' w' ⟨M',rfl,q⟩ hl (by rw [List.append_assoc]; exact hs')
theorem zw0 {M : List Own} {f : FuncId} {args : Array Operand} {ts : Array TypeId} {As : List AV} {A : AV} (ho : o.op = .call { callee:=.value (.func f),args:=args,argTypes:=ts }) (ha : OpdAll T0 fr args.toList As) (c : AP P T0 f As A) : AY P T0 ops o fr M A:=fun w0 G F a w next Qc hs hf hk _ =>
 zhr (M:=M) (M1:=[]) ho ha c (M2:=M) rfl w0 G F a w next Qc hs hf (fun A' M' G' u w' h hl hs' hu=>by
  obtain ⟨M1,h1,h2,h3⟩:=h
  subst h3; subst h1
  exact hk A _ G' u w' ⟨rfl,rfl⟩ hl hs' (h2 _ _ hu)) (fun _ _ _ _ ⟨_,_,f⟩=>f.elim)
theorem z09 {x : Operand} {f : FuncId} {caps : List Value} {args : Array Operand} {ts : Array TypeId} {As Cs : List AV} {M1 : List Own} {M2 : List Own} {K : AV → List Own → Prop} {KP : List PanicEntry → List Own → Prop}
  (ho : o.op = .call { callee:=.value x,args:=args,argTypes:=ts }) (hx : Opd T0 fr x (vA (.func (.func f) #[] caps.toArray))) (hcs : ∀ G,AllRep G Cs caps) (ha : OpdAll T0 fr args.toList As) (c : AF P T0 f (As ++ Cs) M1 K KP) (hM : M = M1 ++ M2) :
  AO P T0 ops o fr M (fun A M' => ∃ M1',M' = M1' ++ M2 ∧ K A M1') (fun ch M' => ∃ M1',M' = M1' ++ M2 ∧ KP ch M1'):=fun w0 G F a w next Qc hs hf hk hp=>by
 subst hM
 have hr : AllRep G As (args.toList.map a.eval):=ha.use (o:=o) (ops:=ops) hs.tab (fun x hx=>by simp [ho,Op.operands,Call.operands]; exact .inr (by simpa using hx)) hf
 have h1:=(hx.use (o:=o) (ops:=ops) (by simp [ho,Op.operands,Call.operands]) hs.tab hf).eq
 have hrun : (execOp a.eval o).run P w = .ok (.enter f (args.toList.map a.eval ++ caps).toArray) w:=by
  have e : Array.map a.eval args ++ caps.toArray = (args.toList.map a.eval ++ caps).toArray:=by rw [← Array.toList_map,← List.toArray_appendList,Array.toArray_toList]; simp
  simp only [execOp,ho,resolve]
  simp [Deferred.ofValue,h1,invoke,zap c.able,e]
 unfold Oper.wp; rw [hrun,Oper.upon_enter]
 rw [List.append_assoc] at hs
 refine (c.calls w0 G (M2 ++ F) w _ hs (hr.append (hcs G))).mono ?_
 rintro e w' (⟨u,A,M',G',rfl,q,hu,hl,hs'⟩ | ⟨ch,M',G',rfl,q,hl,hs'⟩)
 ·exact hk A (M' ++ M2) G' u w' ⟨M',rfl,q⟩ hl (by rw [List.append_assoc]; exact hs') hu
 ·exact hp ch (M' ++ M2) G' w' ⟨M',rfl,q⟩ hl (by rw [List.append_assoc]; exact hs')
end
end
section
open Go Go.RowKit
section
variable {P : Program} {T0 : Gh} {N : Fz} {Q : ko} {fr : Fr} {M : List Own} {ops : Array Oper} {o : Oper}
def Fld (P : Program) (t i off : Nat) (ft : TypeId) : Prop := ∃ (fs : Array Field) (f : Field),P.underlying t = some (.struct fs) ∧ fs[i]? = some f ∧ f.offset = off ∧ f.type = ft
def kg (A : AV) (l : List AV) : Prop := ∀ G u,Rep G A u → AllRep G l u.cells.toList
theorem zeo {l : List AV} : kg (qb l) l:=fun G u h=>by obtain ⟨us,rfl,r⟩:=h.agg; simpa [Value.cells] using r
theorem z9l {v : Value} (h : v.cells = #[v]) : kg (vA v) [vA v]:=fun G u r=>by rw [r.eq,h]; exact ⟨Rep.va _ _,trivial⟩
theorem z8p {α : Type} {T : Ty α} {l : List α} : kg (jl T l) [jl T l]:=fun G u r=>by
 have hr:=r
 obtain ⟨_,_,a,n,rfl,_⟩:=r
 exact ⟨hr,trivial⟩
theorem qan {α : Type} {T : Ty α} {l : List α} : kg (slA T l) [slA T l]:=fun G u r=>by
 have hr:=r
 obtain ⟨a,n,cap,rfl,_⟩:=r.sl
 exact ⟨hr,trivial⟩
structure StT (P : Program) (t : TypeId) (Z : List AV) (pl : List (Nat × Nat)) : Prop where
 und : ∃ fs : Array Field,P.underlying t = some (.struct fs) ∧ fs.toList.mapM (fun f=>(P.info? f.type).map fun i=>(f.offset,i.size)) = some pl
 zero : ∃ zs : List Value,(P.info? t).map (fun i=>(i.zero,i.size)) = some (some (.agg zs.toArray),zs.length) ∧ Z = zs.map vA
theorem StT.mk' {t : TypeId} {pl : List (Nat × Nat)} (fs : Array Field) (zs : List Value) (h1 : P.underlying t = some (.struct fs)) (h2 : fs.toList.mapM (fun f=>(P.info? f.type).map fun i=>(f.offset,i.size)) = some pl)
  (h3 : (P.info? t).map (fun i=>(i.zero,i.size)) = some (some (.agg zs.toArray),zs.length)) : StT P t (zs.map vA) pl:=⟨⟨fs,h1,h2⟩,zs,h3,rfl⟩
theorem yb (G : Gh) : ∀ zs : List Value,AllRep G (zs.map vA) zs
 |[]=>trivial
 |z :: zs=>⟨Rep.va _ _,yb G zs⟩
theorem x_ {G : Gh} : ∀ {zs us : List Value},AllRep G (zs.map vA) us → us = zs
 |[],[],_=>rfl
 |_ :: _,_ :: _,h=>by rw [h.1.eq,x_ h.2]
def setC (acc : List AV) (off : Nat) (l : List AV) : List AV:=acc.take off ++ l ++ acc.drop (off + l.length)
def yc (T0 : Gh) (fr : Fr) (pl : List (Nat × Nat)) : List (Nat × Operand) → List AV → List AV → Prop
 |[],acc,res=>res = acc
 |(i,x) :: r,acc,res => ∃ A l off,Opd T0 fr x A ∧ kg A l ∧ pl[i]? = some (off,l.length) ∧ off + l.length ≤ acc.length ∧ yc T0 fr pl r (setC acc off l) res
theorem zgf {pl : List (Nat × Nat)} {acc : List AV} : yc T0 fr pl [] acc acc:=rfl
theorem z6r {pl : List (Nat × Nat)} {i : Nat} {x : Operand} {r : List (Nat × Operand)} {acc res l : List AV} {A : AV} {off : Nat} (hx : Opd T0 fr x A) (hc : kg A l) (hp : pl[i]? = some (off,l.length)) (hn : Nat.ble (off + l.length) acc.length = true) (h : yc T0 fr pl r (setC acc off l) res) : yc T0 fr pl ((i,x) :: r) acc res :=
 ⟨A,l,off,hx,hc,hp,by simpa using hn,h⟩
section
variable {pl : List (Nat × Nat)} {i : Nat} {x : Operand} {r : List (Nat × Operand)} {res s : List AV} {A a0 a1 a2 a3 a4 a5 a6 B0 B1 : AV}
theorem qa0 (hx : Opd T0 fr x (qb [B0,B1])) (hp : pl[i]? = some (0,2)) (h : yc T0 fr pl r (B0 :: B1 :: s) res) : yc T0 fr pl ((i,x) :: r) (a0 :: a1 :: s) res:=⟨_,_,0,hx,zeo,hp,by simp,h⟩
end
theorem AllRep.setC {G : Gh} {acc l : List AV} {us vs : List Value} {off : Nat} (h : AllRep G acc us) (k : AllRep G l vs) : AllRep G (setC acc off l) (us.take off ++ vs ++ us.drop (off + vs.length)):=by
 unfold Go.Proofs.YtgfmjmfphmjdkaaGreatDoor.setC
 rw [k.len]
 exact ((h.take off).append k).append (h.drop _)
theorem zu4 : ∀ (vs : List Value) (cs : List Value) (off : Nat),off + vs.length ≤ cs.length → (vs.zipIdx.foldl (fun (cs : Array Value) (c,j)=>cs.setIfInBounds (off + j) c) cs.toArray) = (cs.take off ++ vs ++ cs.drop (off + vs.length)).toArray:=by
 intro vs cs off h
 have gen : ∀ (vs : List Value) (k : Nat) (cs : List Value),off + k + vs.length ≤ cs.length → ((vs.zipIdx k).foldl (fun (cs : Array Value) (c,j)=>cs.setIfInBounds (off + j) c) cs.toArray) = (cs.take (off + k) ++ vs ++ cs.drop (off + k + vs.length)).toArray:=by
  intro vs
  induction vs with
  |nil=>intro k cs h; simp
  |cons v vs ih =>
   intro k cs h
   simp only [List.zipIdx_cons,List.foldl_cons,List.setIfInBounds_toArray]
   simp only [List.length_cons] at h
   rw [ih (k + 1) (cs.set (off + k) v) (by simp; omega)]
   congr 1
   have hs:=list_seg_step cs (off + k) v vs (by omega)
   rw [show off + (k + 1) = off + k + 1 by omega,show off + k + 1 + vs.length = off + k + 1 + vs.length from rfl,hs]
   simp only [List.length_cons]
 have:=gen vs 0 cs (by omega)
 simpa using this
theorem zj3 {G : Gh} {a : Act} (hT : Gh.le T0 G) {place : Nat → Option (Nat × Nat)} {pl : List (Nat × Nat)} (hpl : ∀ i q,pl[i]? = some q → place i = some q) :
  ∀ (ps : List (Nat × Operand)) (acc res : List AV) (cs : List Value),yc T0 fr pl ps acc res → (∀ p ∈ ps,p.2 ∈ o.op.operands) → frOn G (reads ops o) fr a.tmps → AllRep G acc cs →
    ∃ ds : List Value,Instr.fill place cs.toArray (ps.map fun (i,x)=>(i,a.eval x)) = some ds.toArray ∧ AllRep G res ds
 |[],acc,res,cs,h,_,_,r=>⟨cs,rfl,by rw [h]; exact r⟩
 |(i,x) :: ps,acc,res,cs,h,hm,hf,r=>by
  obtain ⟨A,l,off,hx,hc,hp,hn,hr⟩:=h
  have hv:=hc G _ (hx.use (o:=o) (ops:=ops) (hm (i,x) (by simp)) hT hf)
  have hvl : (a.eval x).cells.size = l.length:=by have:=hv.len; simpa using this
  have hcl:=r.len
  obtain ⟨ds,e1,e2⟩:=zj3 hT hpl ps _ res _ hr (fun p hp'=>hm p (by simp [hp'])) hf (r.setC hv (off:=off))
  refine ⟨ds, ?_,e2⟩
  rw [← e1]
  simp only [List.map_cons,Instr.fill,hpl i _ hp,hvl]
  have h1 : ¬ (l.length ≠ l.length ∨ off + l.length > cs.toArray.size):=by
   simp only [List.size_toArray,hcl]; omega
  simp only [ne_eq,not_true_eq_false,decide_false,Bool.false_or,List.size_toArray]
  rw [if_neg (by simp [hcl]; omega)]
  congr 1
  have:=zu4 (a.eval x).cells.toList cs off (by simp only [Array.length_toList,hvl,hcl]; exact hn)
  rw [← this]
  rw [← Array.foldl_toList,Array.toList_zipIdx]
theorem zp9 {t : TypeId} {parts : Array (Nat × Operand)} {Z res : List AV} {pl : List (Nat × Nat)} (ho : o.op = .build t parts) (hs : StT P t Z pl) (hp : yc T0 fr pl parts.toList Z res) : AY P T0 ops o fr M (qb res):=xd fun w0 G F a w st hf=>by
 obtain ⟨⟨fs,hu,hpl⟩,zs,hz,rfl⟩:=hs
 obtain ⟨i,hi,hi2⟩:=Option.map_eq_some_iff.1 hz
 obtain ⟨hz1,hz2⟩:=Prod.mk.inj hi2
 have hplaces:=run_places (P:=P) w fs.toList pl hpl
 obtain ⟨ds,e1,e2⟩:=zj3 (o:=o) (ops:=ops) (G:=G) (a:=a) st.tab (place:=fun k=>pl.toArray[k]?) (pl:=pl) (fun k q h=>by simpa using h) parts.toList _ res zs hp
  (fun p hp'=>by simp only [ho,Op.operands]; simp; exact ⟨p.1,by simpa using hp'⟩) hf (yb G zs)
 refine ⟨.agg ds.toArray, ?_,.of ⟨ds,rfl,e2⟩⟩
 have hmap : (parts.map fun (i,x)=>(i,a.eval x)).toList = parts.toList.map fun (i,x)=>(i,a.eval x):=by simp
 have e1' : Instr.fill (fun x=>pl[x]?) zs.toArray (parts.toList.map fun (i,x)=>(i,a.eval x)) = some ds.toArray:=by simpa using e1
 have hrun : (Instr.build t (parts.map fun (i,x)=>(i,a.eval x))).run P w = .ok (.agg ds.toArray) w:=by
  refine run_build w t _ _ ?_
  unfold Program.built
  simp only [hi,hz1,hu,hpl,hmap,Value.cells]
  simpa using e1'
 simp [execOp,ho,hrun]
theorem zwy {t : TypeId} {x : Operand} {i off : Nat} {l : List AV} {A : AV} {ft : TypeId} (ho : o.op = .field t x i) (hx : Opd T0 fr x (qb l))
  (hu : Fld P t i off ft) (ha : ∀ w,(isAgg ft).run P w = .ok false w) (hA : l[off]? = some A) : AY P T0 ops o fr M A:=xd fun w0 G F a w hs hf=>by
 obtain ⟨us,h1,h2⟩:=(hx.use (o:=o) (ops:=ops) (by simp [ho,Op.operands]) hs.tab hf).agg
 obtain ⟨fs,f,h3,h4,rfl,rfl⟩:=hu
 obtain ⟨u,h5,h6⟩:=h2.get _ hA
 exact ⟨u,by simp [execOp,ho,h1,Instr.field,run_underlying h3,h4,asAgg,part,ha,h5],h6⟩
structure El {α : Type} (P : Program) (T : Ty α) (e : TypeId) (d : α) (bytes : Nat) (av : α → AV) : Prop where
 info : ∃ z,(P.info? e).map (fun i=>(i.zero,i.size,i.bytes)) = some (some z,T.k,bytes) ∧ z.cells.toList = T.enc d
 pos : 0 < T.k
 one : ∀ x,∀ v ∈ T.enc x,v.oneCell' = true
 load : (∀ w,(isAgg e).run P w = .ok true w) ∧ (∀ x,av x = qb ((T.enc x).map vA)) ∨ (∀ w,(isAgg e).run P w = .ok false w) ∧ T.k = 1 ∧ (∀ x v,T.enc x = [v] → av x = vA v)
theorem El.size {α : Type} {T : Ty α} {e : TypeId} {d : α} {by' : Nat} {av : α → AV} (h : El P T e d by' av) (w : World) : (sizeOf e).run P w = .ok T.k w:=by
 obtain ⟨z,hi,_⟩:=h.info
 obtain ⟨i,h1,h2⟩:=Option.map_eq_some_iff.1 hi
 simp only [Prod.mk.injEq] at h2
 simp [sizeOf,typeInfo,h1,h2.2.1]
theorem jw {α : Type} (T : Ty α) : ∀ (l : List α) (i j : Nat) (x : α),l[i]? = some x → j < T.k → (l.flatMap T.enc)[i * T.k + j]? = (T.enc x)[j]?
 |[],i,j,x,h,_=>by simp at h
 |y :: l,0,j,x,h,hj=>by
  simp at h; subst h
  simp only [List.flatMap_cons,Nat.zero_mul,Nat.zero_add]
  rw [List.getElem?_append_left (by rw [T.len]; exact hj)]
 |y :: l,i + 1,j,x,h,hj=>by
  simp only [List.flatMap_cons]
  rw [show (i + 1) * T.k + j = T.k + (i * T.k + j) by rw [Nat.add_mul]; omega,← T.len y,List.getElem?_append_right (by omega)]
  simp only [Nat.add_sub_cancel_left]
  rw [T.len y]
  exact jw T l i j x (by simpa using h) hj
theorem z8u {α : Type} {T : Ty α} {x : Operand} {t e : TypeId} {ts : Array TypeId} {l : List α} (ho : o.op = .call { callee:=.builtin .len,args := #[x],argTypes:=ts }) (ht : ts[0]? = some t) (hu : P.underlying t = some (.slice e)) (hx : Opd T0 fr x (slA T l)) : AY P T0 ops o fr M (I l.length):=xd fun w0 G F a w hs hf=>by
 obtain ⟨ad,n,cap,h1,h2,_⟩:=(hx.use (o:=o) (ops:=ops) (by simp [ho,Op.operands,Call.operands]) hs.tab hf).sl
 subst h2
 exact ⟨_,by simp [execOp,ho,resolve,invoke,builtin,Builtin.len_,ht,h1,run_underlying hu,goInt],Rep.va _ _⟩
theorem zr6 {x : Operand} {t : TypeId} {ts : Array TypeId} {s : ByteArray} (ho : o.op = .call { callee:=.builtin .len,args := #[x],argTypes:=ts }) (ht : ts[0]? = some t) (hu : P.underlying t = some .string) (hx : Opd T0 fr x (vA (.string s))) : AY P T0 ops o fr M (I s.size):=xd fun w0 G F a w hs hf=>by
 have h1:=(hx.use (o:=o) (ops:=ops) (by simp [ho,Op.operands,Call.operands]) hs.tab hf).eq
 exact ⟨_,by simp [execOp,ho,resolve,invoke,builtin,Builtin.len_,ht,h1,run_underlying hu,goInt],Rep.va _ _⟩
theorem zmf {α : Type} {T : Ty α} {x y : Operand} {t e : TypeId} {l : List α} {d : α} {by' : Nat} {av : α → AV} {k : IntKind} {n : Nat} {z : α} (ho : o.op = .indexAddr t x y) (hu : P.underlying t = some (.slice e)) (he : El P T e d by' av) (hx : Opd T0 fr x (slA T l)) (hy : Opd T0 fr y (vA (.int k (n : Int)))) (hn : l[n]? = some z) : AY P T0 ops o fr M (ipA (T.enc z)):=xd fun w0 G F a w hs hf=>by
 obtain ⟨ad,m,cap,h1,h2,_,_,_,h3⟩:=(hx.use (o:=o) (ops:=ops) (by simp [ho,Op.operands]) hs.tab hf).sl
 have h4:=(hy.use (o:=o) (ops:=ops) (by simp [ho,Op.operands]) hs.tab hf).eq
 subst h2
 have hlt : n < l.length:=(List.getElem?_eq_some_iff.1 hn).1
 obtain ⟨b,off,rfl,hc⟩:=h3 (by intro h; subst h; simp at hlt)
 refine ⟨.pointer (some ⟨b,off + n * T.k,none⟩), ?_,.of ⟨b,off + n * T.k,rfl,fun j v hv => ?_⟩⟩
 ·have hr : 0 ≤ (n : Int) ∧ (n : Int) < (l.length : Int):=by omega
  simp only [execOp,ho,h1,h4]
  simp [Instr.indexAt,asIntOf,run_underlying hu,he.size,hlt,Addr.add_lit]
 ·have hj : j < T.k:=by rw [← T.len z]; exact (List.getElem?_eq_some_iff.1 hv).1
  rw [Nat.add_assoc]
  exact hc _ v (by rw [jw T l n j z hn hj]; exact hv)
theorem zr5 {α : Type} {T : Ty α} {x : Operand} {e : TypeId} {d z : α} {by' : Nat} {av : α → AV} (ho : o.op = .load e x) (he : El P T e d by' av) (hx : Opd T0 fr x (ipA (T.enc z))) : AY P T0 ops o fr M (av z):=xd fun w0 G F a w hs hf=>by
 obtain ⟨b,off,h1,h2⟩:=(hx.use (o:=o) (ops:=ops) (by simp [ho,Op.operands]) hs.tab hf).ip
 rcases he.load with ⟨ha,hv⟩ | ⟨ha,hk,hv⟩
 ·refine ⟨.agg (T.enc z).toArray, ?_,by rw [hv]; exact .of ⟨_,rfl,yb _ _⟩⟩
  have hl:=run_loadCells_list (P:=P) (w:=w) ⟨b,off,none⟩ (T.enc z) (fun j v hv=>by rw [Addr.add_lit]; exact hs.imm _ _ _ (h2 j v hv))
  rw [T.len] at hl
  simp only [execOp,ho,h1,Instr.loadAt,Instr.sureAddr,loadVar]
  simp [ha,he.size,hl]
 ·obtain ⟨v,hz⟩ : ∃ v,T.enc z = [v]:=by
   have:=T.len z
   rw [hk] at this
   exact List.length_eq_one_iff.1 this
  refine ⟨v, ?_,by rw [hv z v hz]; exact Rep.va _ _⟩
  have hc:=hs.imm _ _ _ (h2 0 v (by rw [hz]; rfl))
  simp only [Nat.add_zero] at hc
  simp only [execOp,ho,h1,Instr.loadAt,Instr.sureAddr,loadVar]
  simp [ha,load,Sem.run,hc]
theorem zp8 {x : Operand} {t : TypeId} {v : Value} {r : List Value} (ho : o.op = .load t x) (ha : ∀ w,(isAgg t).run P w = .ok false w) (hx : Opd T0 fr x (ipA (v :: r))) : AY P T0 ops o fr M (vA v):=xd fun w0 G F a w hs hf=>by
 obtain ⟨b,off,h1,h2⟩:=(hx.use (o:=o) (ops:=ops) (by simp [ho,Op.operands]) hs.tab hf).ip
 have hc:=hs.imm _ _ _ (h2 0 v rfl)
 simp only [Nat.add_zero] at hc
 refine ⟨v, ?_,Rep.va _ _⟩
 simp only [execOp,ho,h1,Instr.loadAt,Instr.sureAddr,loadVar]
 simp [ha,load,Sem.run,hc]
theorem jj {x : Operand} {t : TypeId} {v : Value} {cs : List Value} (ho : o.op = .load t x) (ha : ∀ w,(isAgg t).run P w = .ok false w) (hx : Opd T0 fr x (ipA cs)) (hv : cs[0]? = some v) : AY P T0 ops o fr M (vA v):=by
 cases cs with
 |nil=>simp at hv
 |cons a r=>simp at hv; subst hv; exact zp8 ho ha hx
theorem zc_ {x : Operand} {t : TypeId} {n : Nat} {cs : List Value} (ho : o.op = .load t x) (ha : ∀ w,(isAgg t).run P w = .ok true w) (hz : ∀ w,(sizeOf t).run P w = .ok n w) (hx : Opd T0 fr x (ipA cs)) (hn : n ≤ cs.length) : AY P T0 ops o fr M (qb ((cs.take n).map vA)):=xd fun w0 G F a w hs hf=>by
 obtain ⟨b,off,h1,h2⟩:=(hx.use (o:=o) (ops:=ops) (by simp [ho,Op.operands]) hs.tab hf).ip
 refine ⟨.agg (cs.take n).toArray, ?_,.of ⟨_,rfl,yb _ _⟩⟩
 have hl:=run_loadCells_list (P:=P) (w:=w) ⟨b,off,none⟩ (cs.take n) (fun j v hv=>by
  rw [Addr.add_lit]
  refine hs.imm _ _ _ (h2 j v ?_)
  rw [List.getElem?_take] at hv
  split at hv
  ·exact hv
  ·cases hv)
 rw [List.length_take,Nat.min_eq_left hn] at hl
 simp only [execOp,ho,h1,Instr.loadAt,Instr.sureAddr,loadVar]
 simp [ha,hz,hl]
theorem zup {cs : List Value} {b off n : Nat} {G : Gh} (h : ∀ j v,cs[j]? = some v → G b (off + j) = some v) : Rep G (ipA (cs.drop n)) (.pointer (some ⟨b,off + n,none⟩)) :=
 .of ⟨b,off + n,rfl,fun j v hv=>by rw [Nat.add_assoc]; exact h _ _ (by rw [List.getElem?_drop] at hv; exact hv)⟩
theorem zmi {x : Operand} {t : TypeId} {i off : Nat} {ft : TypeId} {cs : List Value} (ho : o.op = .fieldAddr t x i) (hu : Fld P t i off ft)
  (hsz : ∀ w,∃ n,(sizeOf ft).run P w = .ok (n + 1) w) (hx : Opd T0 fr x (ipA cs)) : AY P T0 ops o fr M (ipA (cs.drop off)):=xd fun w0 G F a w hs hf=>by
 obtain ⟨b,of,h1,h2⟩:=(hx.use (o:=o) (ops:=ops) (by simp [ho,Op.operands]) hs.tab hf).ip
 obtain ⟨fs,f,h3,h4,rfl,rfl⟩:=hu
 obtain ⟨n,h5⟩:=hsz w
 refine ⟨.pointer (some ⟨b,of + f.offset,none⟩), ?_,zup h2⟩
 simp only [execOp,ho,h1,Instr.fieldAt]
 simp [run_underlying h3,h4,Instr.sureAddr,fieldPlace,h5,Addr.add_lit]
theorem zl {x y : Operand} {t e : TypeId} {n k' m : Nat} {k : IntKind} {cs : List Value} (ho : o.op = .indexAddr t x y) (hu : P.underlying t = some (.array n e)) (hz : ∀ w,(sizeOf e).run P w = .ok k' w) (hx : Opd T0 fr x (ipA cs)) (hy : Opd T0 fr y (vA (.int k (m : Int)))) (hm : m < n) : AY P T0 ops o fr M (ipA (cs.drop (m * k'))):=xd fun w0 G F a w hs hf=>by
 obtain ⟨b,of,h1,h2⟩:=(hx.use (o:=o) (ops:=ops) (by simp [ho,Op.operands]) hs.tab hf).ip
 have h4:=(hy.use (o:=o) (ops:=ops) (by simp [ho,Op.operands]) hs.tab hf).eq
 refine ⟨.pointer (some ⟨b,of + m * k',none⟩), ?_,zup h2⟩
 have hr : (m : Int) < (n : Int):=by omega
 simp only [execOp,ho,h1,h4]
 simp [Instr.indexAt,asIntOf,run_underlying hu,hz,hm,Instr.sureAddr,Addr.add_lit]
theorem zhx {t e : TypeId} {n k : Nat} {z : Value} {w : World} {parts : Array (Nat × Value)} {cells : Array Value} (hu : P.underlying t = some (.slice e)) (hsz : (sizeOf e).run P w = .ok k w) (hz : (zeroValue e).run P w = .ok z w) (hn : n * k ≤ 16777216)
  (hf : Instr.fill (fun i=>some (i * k,k)) ((Array.range (n * k)).map fun x=>z.cells[x % z.cells.size]!) parts.toList = some cells) :
  (Instr.buildSlice t n parts).run P w = .ok (.slice (some ⟨w.heap.size,0,none⟩) n n) (w.alloc (.cells cells e)):=by
 have hn' : ¬ (2 ^ 24 < n * k):=by omega
 have e0 : ∀ f g : Nat → Value,(Array.range 0).map f = (Array.range 0).map g:=fun f g=>by apply Array.ext'; simp [Array.toList_range]
 unfold Instr.buildSlice
 simp only [Sem.run_bind,run_underlying hu,Result.andThen_ok,hsz,hn',if_false,gt_iff_lt]
 by_cases h0 : n * k = 0
 ·rw [h0] at hf
  rw [e0 _ (fun _=>default)] at hf
  simp only [h0,if_true,Sem.run_pure,Result.andThen_ok]
  simp [newRow,newObj,Sem.run,hf]
 ·simp only [h0,if_false,Sem.run_bind,hz,Result.andThen_ok,Sem.run_pure,hf]
  simp [newRow,newObj,Sem.run]
theorem ze8 (zc : Array Value) (k : Nat) (h : zc.size = k) : ∀ n : Nat,(List.range (n * k)).map (fun x=>zc[x % k]!) = (List.range n).flatMap fun _=>zc.toList
 |0=>by simp
 |n + 1=>by
  rw [Nat.add_mul,Nat.one_mul,List.range_add,List.map_append,ze8 zc k h n,List.range_succ,List.flatMap_append]
  congr 1
  simp only [List.map_map,List.flatMap_cons,List.flatMap_nil,List.append_nil]
  apply List.ext_getElem
  ·simp [h]
  ·intro i h1 h2
   have hi : i < k:=by simpa using h1
   have hm : (n * k + i) % k = i:=by rw [Nat.add_comm,Nat.add_mul_mod_self_right,Nat.mod_eq_of_lt hi]
   simp [hm,h,hi]
theorem z1a {α : Type} {T : Ty α} {G : Gh} {w : World} {l : List α} (hl : l.length ≤ maxLen) : Rep (fun b o=>if b = w.heap.size then (l.flatMap T.enc).toArray[o]? else G b o) (jl T l) (.slice (some ⟨w.heap.size,0,none⟩) l.length l.length) :=
 .of ⟨_,_,rfl,rfl,hl,fun _=>⟨_,0,rfl,fun j v hv=>by simp only [Nat.zero_add,if_true]; simpa using hv⟩⟩
theorem z1n {α : Type} {T : Ty α} {l : List α} {G : Gh} {u : Value} (h : Rep G (jl T l) u) : Rep G (slA T l) u :=
 let ⟨G0,h0,a,n,e1,e2,e3,r⟩:=h; ⟨G0,h0,a,n,n,e1,e2,Nat.le_refl _,e3,(fun e=>by
  rcases Nat.eq_zero_or_pos n with hn | hn
  ·exact hn
  ·obtain ⟨b,off,hb,_⟩:=r (by intro hl; subst hl; simp at e2; omega)
   rw [e] at hb; cases hb),r⟩
theorem jc {α : Type} {T : Ty α} {l : List α} : Sub (jl T l) (slA T l):=fun _ _ h=>z1n h
theorem qa {α : Type} {T : Ty α} {t e : TypeId} {n : Nat} {parts : Array (Nat × Operand)} (l : List α) {d : α} {by' : Nat} {av : α → AV} (ho : o.op = .buildSlice t n parts) (hu : P.underlying t = some (.slice e)) (he : El P T e d by' av) (hl : l.length = n) (hn : n * T.k ≤ 16777216)
  (hp : ∃ res,yc T0 fr ((List.range n).map fun i=>(i * T.k,T.k)) parts.toList (((List.range n).flatMap fun _=>T.enc d).map vA) res ∧ res = (l.flatMap T.enc).map vA) :
  AY P T0 ops o fr M (jl T l):=fun w0 G F a w next Qc hs hf hk _=>by
 obtain ⟨z,hi,hz⟩:=he.info
 obtain ⟨i,h1,h2⟩:=Option.map_eq_some_iff.1 hi
 simp only [Prod.mk.injEq] at h2
 obtain ⟨res,hparts,hres⟩:=hp
 have hzl : z.cells.size = T.k:=by rw [← Array.length_toList,hz,T.len]
 have hzeros : ((Array.range (n * T.k)).map fun x=>z.cells[x % z.cells.size]!) = ((List.range n).flatMap fun _=>T.enc d).toArray:=by
  apply Array.ext'
  simp only [Array.toList_map,Array.toList_range]
  rw [hzl,← hz]
  exact ze8 z.cells T.k hzl n
 obtain ⟨ds,e1,e2⟩:=zj3 (o:=o) (ops:=ops) (G:=G) (a:=a) hs.tab (place:=fun i=>some (i * T.k,T.k)) (pl:=(List.range n).map fun i=>(i * T.k,T.k)) (fun i q h=>by
  simp only [List.getElem?_map,Option.map_eq_some_iff] at h
  obtain ⟨j,hj,rfl⟩:=h
  obtain ⟨hlt,rfl⟩:=List.getElem?_eq_some_iff.1 hj
  simp) parts.toList _ res _ hparts (fun p hp'=>by simp only [ho,Op.operands]; simp; exact ⟨p.1,by simpa using hp'⟩) hf (yb G _)
 subst hres
 obtain rfl:=x_ e2
 have hrun : (execOp a.eval o).run P w = .ok (.value (.slice (some ⟨w.heap.size,0,none⟩) n n)) (w.alloc (.cells (l.flatMap T.enc).toArray e)):=by
  have hmap : (parts.map fun (i,x)=>(i,a.eval x)).toList = parts.toList.map fun (i,x)=>(i,a.eval x):=by simp
  have hr:=zhx (t:=t) (n:=n) (parts:=parts.map fun (i,x)=>(i,a.eval x)) (cells:=(l.flatMap T.enc).toArray) hu (he.size w) (z:=z) (by simp [zeroValue,typeInfo,h1,h2.1]) hn (by rw [hzeros,hmap]; exact e1)
  simp only [execOp,ho]
  simp only [Sem.run_bind,hr,Result.andThen_ok,Sem.run_pure]
 obtain ⟨s1,s2⟩:=hs.allocG (l.flatMap T.enc).toArray e
 unfold Oper.wp; rw [hrun]
 refine hk (jl T l) M _ _ _ ⟨rfl,rfl⟩ s2 s1 ?_
 subst hl
 exact z1a (by have:=he.pos; unfold maxLen; have : l.length ≤ l.length * T.k:=Nat.le_mul_of_pos_right _ he.pos; omega)
theorem AY.sub {A A' : AV} (h : AY P T0 ops o fr M A) (s : Sub A A') : AY P T0 ops o fr M A':=fun w0 G F a w next Qc hs hf hk hp =>
 h w0 G F a w next Qc hs hf (fun A1 M1 G1 u w1 e hl hs1 hu=>by obtain ⟨rfl,rfl⟩:=e; exact hk A' _ G1 u w1 ⟨rfl,rfl⟩ hl hs1 (s G1 u hu)) (fun c M1 G1 w1 f=>f.elim)
theorem z8x {α : Type} {T : Ty α} {l : List α} {c : Code} (s : Nat) (hs : fr.get s = some (slA T l)) (h : l.length ≤ 9223372036854775807 → AW P T0 N c Q fr M) : AW P T0 N c Q fr M:=fun w0 G F a w hc=>by
 obtain ⟨u,_,hu⟩:=hc.fr s _ trivial hs
 obtain ⟨_,n,cap,_,e2,e3,e4,_⟩:=hu.sl
 simp only [maxLen] at e4
 exact h (by omega) w0 G F a w hc
end
end
section
open Go Go.RowKit
theorem St.grow_new {T0 G : Gh} {w0 w w' : World} {M : List Own} {m' : Own} (h : St T0 w0 G M w) (hg : w.grownBy w' none) (hm : m'.holds G w') (hf : ∀ b,m'.foot = some b → w.heap.size ≤ b ∧ b < w'.heap.size) : St T0 w0 G (m' :: M) w':=by
 have old : ∀ b,b < w.heap.size → w'.heap[b]? = w.heap[b]?:=fun b hb=>hg.block b hb (by simp)
 refine ⟨⟨hg.os.trans h.below.os,hg.tape.trans h.below.tape,hg.output.trans h.below.output,Nat.le_trans h.below.size hg.size,fun b hb=>(old b (Nat.lt_of_lt_of_le hb h.below.size)).trans (h.below.block b hb)⟩,
  h.tab,fun b o v hv => ?_,fun x hx => ?_,fun x hx b hb => ?_, ?_⟩
 ·have h1:=h.imm b o v hv
  exact (World.cell?_of_block (w:=w) (old b (u6 h1))).trans h1
 ·rcases List.mem_cons.1 hx with rfl | hx
  ·exact hm
  ·exact x.loc (fun b hb=>old b (h.foot x hx b hb).2.1) (h.own x hx)
 ·rcases List.mem_cons.1 hx with rfl | hx
  ·obtain ⟨h1,h2⟩:=hf b hb
   refine ⟨Nat.le_trans h.below.size h1,h2,fun o => ?_⟩
   cases hg' : G b o with
   |none=>rfl
   |some v=>have:=u6 (h.imm _ _ _ hg'); omega
  ·obtain ⟨a1,a2,a3⟩:=h.foot x hx b hb
   exact ⟨a1,Nat.lt_of_lt_of_le a2 hg.size,a3⟩
 ·cases hb : m'.foot with
  |none=>simp only [List.filterMap_cons,hb]; exact h.sep
  |some b =>
   simp only [List.filterMap_cons,hb,List.nodup_cons]
   refine ⟨fun hin => ?_,h.sep⟩
   obtain ⟨x,hx,hxf⟩:=List.mem_filterMap.1 hin
   have:=(h.foot x hx _ hxf).2.1
   have:=(hf b hb).1
   omega
theorem xi {M F : List Own} {i : Nat} {m m' : Own} (h : M[i]? = some m) : (M ++ F)[i]? = some m ∧ (M ++ F).set i m' = M.set i m' ++ F:=by
 have hlt : i < M.length:=(List.getElem?_eq_some_iff.1 h).1
 exact ⟨by rw [List.getElem?_append_left hlt]; exact h,List.set_append_left i m' hlt⟩
theorem zgg {w : World} {base e k n : Nat} {u : Value} {xs : List Value} (h : w.ownsRow base e k u n xs) : ∀ b,u.ownBlock = some b → b < w.heap.size:=fun b hb=>(h.lt b hb).2
section
variable {P : Program} {T0 : Gh} {N : Fz} {Q : ko} {fr : Fr} {M : List Own} {ops : Array Oper} {o : Oper}
theorem yh {α : Type} {T : Ty α} {e : TypeId} {u : Value} {l : List α} {G : Gh} {w : World} (h : (z_ T e u l).holds G w) : (u = .slice none 0 0 ∧ l = []) ∨ ∃ g cap,u = .slice (some ⟨g,0,none⟩) l.length cap ∧ l.length ≤ cap ∧ cap ≤ maxLen:=by
 rcases h.2 with ⟨h1,h2⟩ | ⟨g,cap,cur,h1,_,_,h4,h5,_⟩
 ·exact .inl ⟨h1,List.eq_nil_of_length_eq_zero h2⟩
 ·exact .inr ⟨g,cap,h1,h4,h5⟩
theorem z4p {α : Type} (T : Ty α) (e : TypeId) : Ent T0 fr M fr (z_ T e (.slice none 0 0) [] :: M):=fun w0 G F t w s r =>
 ⟨G,Gh.le.refl _,⟨s.below,s.tab,s.imm,fun m hm=>by
    rcases List.mem_cons.1 hm with rfl | hm
    ·exact World.ownsRow_nil w 0 e T.k
    ·exact s.own m hm,fun m hm b hb=>by
    rcases List.mem_cons.1 hm with rfl | hm
    ·cases hb
    ·exact s.foot m hm b hb,by
    have : List.filterMap Own.foot (z_ T e (.slice none 0 0) [] :: (M ++ F)) = List.filterMap Own.foot (M ++ F):=rfl
    exact this ▸ s.sep⟩,r⟩
theorem z8w {α : Type} (T : Ty α) (e : TypeId) {c : Code} (h : AW P T0 N c Q fr (z_ T e (.slice none 0 0) [] :: M)) : AW P T0 N c Q fr M:=zqc (z4p T e) h
theorem vo {α : Type} (T : Ty α) (d : α) : ∀ n : Nat,(List.range n).flatMap (fun _=>T.enc d) = (List.replicate n d).flatMap T.enc
 |0=>by simp
 |n + 1=>by rw [List.range_succ,List.flatMap_append,vo T d n,List.replicate_succ',List.flatMap_append]; simp
theorem zw5 {α : Type} {T : Ty α} {t e : TypeId} {x y : Operand} {n : Nat} {d : α} {by' : Nat} {av : α → AV} {k k' : IntKind} (ho : o.op = .makeSlice t x y) (hu : P.underlying t = some (.slice e)) (he : El P T e d by' av) (hx : Opd T0 fr x (vA (.int k (n : Int)))) (hy : Opd T0 fr y (vA (.int k' (n : Int))))
  (hn : by' * n ≤ 140737488355328) (hm : n ≤ maxLen) : AO P T0 ops o fr M (fun A M' => ∃ u,A = vA u ∧ M' = z_ T e u (List.replicate n d) :: M) (fun _ _=>False):=fun w0 G F a w next Qc hs hf hk _=>by
 obtain ⟨z,hi,hz⟩:=he.info
 obtain ⟨i,h1,h2⟩:=Option.map_eq_some_iff.1 hi
 simp only [Prod.mk.injEq] at h2
 have e1:=(hx.use (o:=o) (ops:=ops) (by simp [ho,Op.operands]) hs.tab hf).eq
 have e2:=(hy.use (o:=o) (ops:=ops) (by simp [ho,Op.operands]) hs.tab hf).eq
 obtain ⟨w',hr,hown,hg⟩:=run_make_full (P:=P) w 0 t e i z T.k hu h1 h2.1 h2.2.1 k k' n (by rw [h2.2.2]; omega) hm (Nat.zero_le _)
 have hcells : (madeCells z.cells (n * T.k)).toList = (List.replicate n d).flatMap T.enc:=by
  have hzk : z.cells.size = T.k:=by rw [← Array.length_toList,hz,T.len]
  unfold madeCells
  simp only [Array.toList_map,Array.toList_range]
  rw [hzk,ze8 z.cells T.k hzk n,hz]
  exact vo T d n
 unfold Oper.wp
 have hrun : (execOp a.eval o).run P w = .ok (.value (.slice (some ⟨w.heap.size,0,none⟩) n n)) w':=by
  simp only [execOp,ho,e1,e2]; simp [hr]
 rw [hrun]
 refine hk (vA _) _ G _ w' ⟨_,rfl,rfl⟩ (Gh.le.refl _) ?_ (Rep.va _ _)
 refine hs.grow_new hg ?_ fun b hb => ?_
 ·show w'.ownsRow 0 e T.k _ (List.replicate n d).length ((List.replicate n d).flatMap T.enc)
  rw [← hcells,List.length_replicate]; exact hown
 ·have hb' : some w.heap.size = some b:=hb
  obtain rfl:=Option.some.inj hb'
  exact ⟨Nat.le_refl _,zgg hown _ rfl⟩
theorem zw8 {α : Type} {T : Ty α} {t e : TypeId} {x y : Operand} {l m : List α} {d : α} {by' : Nat} {av : α → AV} {u : Value} (i : Nat) (ho : o.op = .call { callee:=.builtin .append,args := #[x,y],argTypes := #[t,t] }) (hu : P.underlying t = some (.slice e)) (he : El P T e d by' av)
  (hx : Opd T0 fr x (vA u)) (hM : M[i]? = some (z_ T e u l)) (hy : Opd T0 fr y (slA T m)) (hn : (l.length + m.length) * by' ≤ 140737488355328) (hm : l.length + m.length ≤ maxLen) :
  AO P T0 ops o fr M (fun A M' => ∃ u',A = vA u' ∧ M' = M.set i (z_ T e u' (l ++ m))) (fun _ _=>False):=fun w0 G F a w next Qc hs hf hk _=>by
 obtain ⟨z,hi,hz⟩:=he.info
 obtain ⟨it,h1,h2⟩:=Option.map_eq_some_iff.1 hi
 simp only [Prod.mk.injEq] at h2
 have e1:=(hx.use (o:=o) (ops:=ops) (by simp [ho,Op.operands,Call.operands]) hs.tab hf).eq
 obtain ⟨ad,n,cap,e2,e3,_,_,e4,e5⟩:=(hy.use (o:=o) (ops:=ops) (by simp [ho,Op.operands,Call.operands]) hs.tab hf).sl
 subst e3
 obtain ⟨hM1,hM2⟩:=xi (F:=F) (m':=z_ T e u l) hM
 have hrow : w.ownsRow 0 e T.k u l.length (l.flatMap T.enc):=hs.own _ (List.mem_of_getElem? hM1)
 have hrun0 : ∀ v w',(Builtin.append_ #[t,t] o.type #[u,a.eval y]).run P w = .ok v w' → (execOp a.eval o).run P w = .ok (.value v) w':=fun v w' h=>by
  simp only [execOp,ho,resolve]
  simp [invoke,builtin,e1,h]
 cases ad with
 |none =>
  have hcap:=e4 rfl
  have hm0 : m = []:=by
   cases m with
   |nil=>rfl
   |cons y ys=>obtain ⟨b,off,hb,_⟩:=e5 (by simp); cases hb
  subst hm0 hcap
  have hr:=run_append_owned_none (P:=P) w 0 t o.type e it T.k hu h1 u l.length (l.flatMap T.enc) hrow
  have hrun:=hrun0 _ _ (by rw [e2]; exact hr)
  unfold Oper.wp; rw [hrun]
  refine hk (vA u) _ G u w ⟨u,rfl,rfl⟩ (Gh.le.refl _) ?_ (Rep.va _ _)
  have : M.set i (z_ T e u (l ++ [])) = M:=by
   rw [List.append_nil]
   exact List.ext_getElem? fun j=>by
    rw [List.getElem?_set]
    split
    ·rename_i hij; subst hij
     split
     ·exact hM.symm
     ·rename_i hnl; exact absurd (List.getElem?_eq_some_iff.1 hM).1 hnl
    ·rfl
  rw [this]; exact hs
 |some ad =>
  obtain ⟨u',w',hr,hown',hg,_⟩:=run_append_own (P:=P) w 0 t o.type e it z T.k by' hu h1 h2.1 h2.2.1 h2.2.2 (by rw [← Array.length_toList,hz,T.len]) he.pos u l.length (l.flatMap T.enc) hrow
   ad m.length cap (m.flatMap T.enc) (zei T m) (fun j v hv=>by
    obtain ⟨b,off,hb,hc⟩:=e5 (by intro h; subst h; simp at hv)
    obtain rfl:=Option.some.inj hb
    rw [Addr.add_lit]
    exact hs.imm _ _ _ (hc j v hv)) (fun v hv=>by
    obtain ⟨x,_,hx⟩:=List.mem_flatMap.1 hv
    exact he.one x v hx) hm hn (Nat.zero_le _)
  have hrun:=hrun0 _ _ (by rw [e2]; exact hr)
  unfold Oper.wp; rw [hrun]
  refine hk (vA u') _ G u' w' ⟨u',rfl,rfl⟩ (Gh.le.refl _) ?_ (Rep.va _ _)
  have hown2 : w'.ownsRow 0 e T.k u' (l ++ m).length ((l ++ m).flatMap T.enc):=by
   rw [List.length_append,List.flatMap_append]; exact hown'
  rw [← (xi (F:=F) (m':=z_ T e u' (l ++ m)) hM).2]
  refine hs.grown hM1 hg hown2 fun b hb=>⟨?_,zgg hown' b hb⟩
  have hb' : u'.ownBlock = some b:=hb
  have hnews : ∀ j v,(m.flatMap T.enc)[j]? = some v → w.cell? (ad.add j) = some v:=fun j v hv=>by
   obtain ⟨b,off,hb,hc⟩:=e5 (by intro h; subst h; simp at hv)
   obtain rfl:=Option.some.inj hb
   rw [Addr.add_lit]
   exact hs.imm _ _ _ (hc j v hv)
  have hones : ∀ v ∈ m.flatMap T.enc,v.oneCell' = true:=fun v hv=>by
   obtain ⟨x,_,hx⟩:=List.mem_flatMap.1 hv
   exact he.one x v hx
  have hzk : z.cells.size = T.k:=by rw [← Array.length_toList,hz,T.len]
  rcases yh (G:=G) (T:=T) (e:=e) (l:=l) hrow with ⟨rfl,rfl⟩ | ⟨g,cp,rfl,h4,h5⟩
  ·right
   obtain ⟨u2,w2,hr2,hown3,_,_⟩:=run_append_own (P:=P) w w.heap.size t o.type e it z T.k by' hu h1 h2.1 h2.2.1 h2.2.2 hzk he.pos _ 0 [] (World.ownsRow_nil w _ e T.k)
    ad m.length cap (m.flatMap T.enc) (zei T m) hnews hones (by simpa using hm) (by simpa using hn) (Nat.le_refl _)
   rw [hr2] at hr
   obtain ⟨rfl,rfl⟩ : u2 = u' ∧ w2 = w':=by injection hr with a b; exact ⟨a,b⟩
   exact (hown3.lt b hb').1
  ·by_cases hroom : l.length + m.length ≤ cp
   ·left
    obtain ⟨w2,hr2,_,_⟩:=run_append_fits (P:=P) w 0 t o.type e it T.k hu h1 h2.2.1 g l.length cp (l.flatMap T.enc) hrow ad m.length cap (m.flatMap T.enc) (zei T m) hnews hones hroom
    rw [hr2] at hr
    obtain ⟨rfl,rfl⟩ : _ = u' ∧ w2 = w':=by injection hr with a b; exact ⟨a,b⟩
    exact hb'
   ·right
    have hm':=hm
    simp only [maxLen] at hm'
    have hr2:=run_append_grow (P:=P) w t o.type e it z hu h1 h2.1 ⟨g,0,none⟩ l.length cp (l.flatMap T.enc) (by rw [zei,h2.2.1]) (hrow.cells (g:=g) rfl) ad m.length cap (m.flatMap T.enc) (by rw [zei,h2.2.1]) hnews (by omega) (by omega) (growslice_fits (by omega) (by rw [h2.2.2]; exact hn))
    rw [hr2] at hr
    obtain ⟨rfl,_⟩ : _ = u' ∧ _ = w':=by injection hr with a b; exact ⟨a,b⟩
    have : some w.heap.size = some b:=hb'
    obtain rfl:=Option.some.inj this
    exact Nat.le_refl _
theorem wn {α : Type} {T : Ty α} {t e : TypeId} {x y : Operand} {l m : List α} {d : α} {by' : Nat} {av : α → AV} (ho : o.op = .call { callee:=.builtin .append,args := #[x,y],argTypes := #[t,t] }) (hu : P.underlying t = some (.slice e)) (he : El P T e d by' av)
  (hx : Opd T0 fr x (jl T l)) (hy : Opd T0 fr y (slA T m)) (hn : (l.length + m.length) * by' ≤ 140737488355328) (hm : l.length + m.length ≤ maxLen) : AY P T0 ops o fr M (slA T (l ++ m)):=fun w0 G F a w next Qc hs hf hk _=>by
 obtain ⟨z,hi,hz⟩:=he.info
 obtain ⟨it,h1,h2⟩:=Option.map_eq_some_iff.1 hi
 simp only [Prod.mk.injEq] at h2
 have hzk : z.cells.size = T.k:=by rw [← Array.length_toList,hz,T.len]
 obtain ⟨G0,hG0,xa,xn,e1,e2,e3,e4⟩:=hx.use (o:=o) (ops:=ops) (by simp [ho,Op.operands,Call.operands]) hs.tab hf
 have hxrep : Rep G (slA T l) (a.eval x):=z1n ⟨G0,hG0,xa,xn,e1,e2,e3,e4⟩
 obtain ⟨ad,n,cap,f2,f3,_,_,f4,f5⟩:=(hy.use (o:=o) (ops:=ops) (by simp [ho,Op.operands,Call.operands]) hs.tab hf).sl
 subst e2 f3
 have hrun0 : ∀ v w',(Builtin.append_ #[t,t] o.type #[a.eval x,a.eval y]).run P w = .ok v w' → (execOp a.eval o).run P w = .ok (.value v) w':=fun v w' h=>by
  simp only [execOp,ho,resolve]
  simp [invoke,builtin,h]
 have hm':=hm
 simp only [maxLen] at hm'
 by_cases hm0 : m = []
 ·subst hm0
  have hr : (Builtin.append_ #[t,t] o.type #[a.eval x,a.eval y]).run P w = .ok (a.eval x) w:=by
   rw [e1,f2]
   cases xa <;> cases ad <;> simp [Builtin.append_,run_underlying hu,sizeOf,typeInfo,h1,Builtin.lenOf,Builtin.firstCells,loadCells,loadCellsFrom,storeCells]
  have hrun:=hrun0 _ _ hr
  unfold Oper.wp; rw [hrun]
  refine hk _ M G _ w ⟨rfl,rfl⟩ (Gh.le.refl _) hs ?_
  rw [List.append_nil]; exact hxrep
 ·obtain ⟨b,off,rfl,hc⟩:=f5 hm0
  have hnews : ∀ j v,(m.flatMap T.enc)[j]? = some v → w.cell? ((⟨b,off,none⟩ : Addr).add j) = some v:=fun j v hv=>by
   rw [Addr.add_lit]; exact hs.imm _ _ _ (hc j v hv)
  have hmpos : 0 < m.length:=List.length_pos_iff.2 hm0
  have fin : ∀ (cells : Array Value) (cp : Nat),cells.toList.take ((l ++ m).length * T.k) = (l ++ m).flatMap T.enc → (l ++ m).length ≤ cp → cp ≤ maxLen →
    (execOp a.eval o).run P w = .ok (.value (.slice (some ⟨w.heap.size,0,none⟩) (l ++ m).length cp)) (w.drew.alloc (.cells cells e)) → o.wp P a w next Qc:=fun cells cp h3 h4 h5 hrun=>by
   obtain ⟨s1,s2⟩:=hs.drew.allocG cells e
   unfold Oper.wp; rw [hrun]
   refine hk _ M _ _ _ ⟨rfl,rfl⟩ s2 s1 (.of ⟨_,_,cp,rfl,rfl,h4,h5,(fun e=>nomatch e),fun _=>⟨_,0,rfl,fun j v hv => ?_⟩⟩)
   simp only [Nat.zero_add]
   rw [← h3,List.getElem?_take] at hv
   split at hv
   ·rw [if_pos trivial]; simpa using hv
   ·cases hv
  by_cases hl0 : l = []
  ·subst hl0
   cases xa with
   |none =>
    have hr:=run_append_nil (P:=P) w t o.type e it z hu h1 h2.1 ⟨b,off,none⟩ m.length cap (m.flatMap T.enc) (by rw [zei,h2.2.1]) hnews hmpos (by simp at hm'; omega) (by rw [h2.2.2]; simp at hn; omega)
    refine fin _ _ ?_ ?_ ?_ (hrun0 _ _ (by rw [e1,f2]; simpa using hr))
    ·simp only [List.nil_append,Array.toList_append]
     rw [← zei T m]; exact List.take_left
    ·simpa using grownCap_ge w m.length 0 e
    ·exact grownCap_le_maxLen w m.length 0 e (by simpa using hm)
   |some xa =>
    have hr:=run_append_grow (P:=P) w t o.type e it z hu h1 h2.1 xa 0 0 [] (by simp) (fun j v hv=>by simp at hv) ⟨b,off,none⟩ m.length cap (m.flatMap T.enc) (by rw [zei,h2.2.1]) hnews (by omega) (by simp at hm'; omega) (growslice_fits (by omega) (by rw [h2.2.2]; simpa using hn))
    refine fin _ _ ?_ ?_ ?_ (hrun0 _ _ (by rw [e1,f2]; simpa using hr))
    ·simp only [List.nil_append,Array.toList_append]
     rw [← zei T m]; simp
    ·simpa using grownCap_ge w m.length 0 e
    ·exact grownCap_le_maxLen w m.length 0 e (by simpa using hm)
  ·obtain ⟨b',off',rfl,hc'⟩:=e4 hl0
   have holds : ∀ j v,(l.flatMap T.enc)[j]? = some v → w.cell? ((⟨b',off',none⟩ : Addr).add j) = some v:=fun j v hv=>by
    rw [Addr.add_lit]; exact hs.imm _ _ _ (hG0 _ _ _ (hc' j v hv))
   have hr:=run_append_grow (P:=P) w t o.type e it z hu h1 h2.1 ⟨b',off',none⟩ l.length l.length (l.flatMap T.enc) (by rw [zei,h2.2.1]) holds ⟨b,off,none⟩ m.length cap (m.flatMap T.enc) (by rw [zei,h2.2.1]) hnews (by omega) (by omega) (growslice_fits (by omega) (by rw [h2.2.2]; exact hn))
   refine fin _ _ ?_ ?_ ?_ (hrun0 _ _ (by rw [e1,f2,List.length_append]; exact hr))
   ·rw [List.length_append,List.flatMap_append,Nat.add_mul,← zei T l,← zei T m,← List.length_append]
    simp only [Array.toList_append]
    exact List.take_left
   ·rw [List.length_append]; exact grownCap_ge w _ _ e
   ·exact grownCap_le_maxLen w _ _ e hm
def rpA (u : Value) (off : Nat) : AV:=fun _ p => ∃ g n cap,u = .slice (some ⟨g,0,none⟩) n cap ∧ p = .pointer (some ⟨g,off,none⟩)
theorem Rep.rp {u : Value} {off : Nat} {G : Gh} {p : Value} (h : Rep G (rpA u off) p) : ∃ g n cap,u = .slice (some ⟨g,0,none⟩) n cap ∧ p = .pointer (some ⟨g,off,none⟩):=let ⟨_,_,r⟩:=h; r
theorem zr7 {α : Type} {T : Ty α} {x : Operand} {t e e' : TypeId} {ts : Array TypeId} {l : List α} {u : Value} (i : Nat) (ho : o.op = .call { callee:=.builtin .len,args := #[x],argTypes:=ts }) (ht : ts[0]? = some t) (hu : P.underlying t = some (.slice e')) (hx : Opd T0 fr x (vA u)) (hM : M[i]? = some (z_ T e u l)) : AY P T0 ops o fr M (I l.length):=xd fun w0 G F a w hs hf=>by
 have h1:=(hx.use (o:=o) (ops:=ops) (by simp [ho,Op.operands,Call.operands]) hs.tab hf).eq
 have hrow:=hs.own _ (List.mem_of_getElem? (xi (F:=F) (m':=z_ T e u l) hM).1)
 rcases yh hrow with ⟨rfl,rfl⟩ | ⟨g,cap,rfl,_⟩
 ·exact ⟨_,by simp [execOp,ho,resolve,invoke,builtin,Builtin.len_,ht,h1,run_underlying hu,goInt],Rep.va _ _⟩
 ·exact ⟨_,by simp [execOp,ho,resolve,invoke,builtin,Builtin.len_,ht,h1,run_underlying hu,goInt],Rep.va _ _⟩
theorem zme {α : Type} {T : Ty α} {x y : Operand} {t e : TypeId} {l : List α} {d : α} {by' : Nat} {av : α → AV} {k : IntKind} {n : Nat} {u : Value} (i : Nat) (ho : o.op = .indexAddr t x y) (hu : P.underlying t = some (.slice e)) (he : El P T e d by' av) (hx : Opd T0 fr x (vA u)) (hM : M[i]? = some (z_ T e u l)) (hy : Opd T0 fr y (vA (.int k (n : Int)))) (hn : n < l.length) : AY P T0 ops o fr M (rpA u (n * T.k)):=xd fun w0 G F a w hs hf=>by
 have h1:=(hx.use (o:=o) (ops:=ops) (by simp [ho,Op.operands]) hs.tab hf).eq
 have h4:=(hy.use (o:=o) (ops:=ops) (by simp [ho,Op.operands]) hs.tab hf).eq
 have hrow:=hs.own _ (List.mem_of_getElem? (xi (F:=F) (m':=z_ T e u l) hM).1)
 rcases yh hrow with ⟨rfl,rfl⟩ | ⟨g,cap,rfl,_⟩
 ·simp at hn
 ·refine ⟨.pointer (some ⟨g,n * T.k,none⟩), ?_,.of ⟨g,_,_,rfl,rfl⟩⟩
  simp only [execOp,ho,h1,h4]
  simp [Instr.indexAt,asIntOf,run_underlying hu,he.size,hn,Addr.add_lit]
theorem zmh {x : Operand} {t : TypeId} {i off of2 : Nat} {ft : TypeId} {u : Value} (ho : o.op = .fieldAddr t x i) (hu : Fld P t i off ft)
  (hsz : ∀ w,∃ n,(sizeOf ft).run P w = .ok (n + 1) w) (hx : Opd T0 fr x (rpA u of2)) : AY P T0 ops o fr M (rpA u (of2 + off)):=xd fun w0 G F a w hs hf=>by
 obtain ⟨g,n,cap,h1,h2⟩:=(hx.use (o:=o) (ops:=ops) (by simp [ho,Op.operands]) hs.tab hf).rp
 obtain ⟨fs,f,h3,h4,rfl,rfl⟩:=hu
 obtain ⟨m,h5⟩:=hsz w
 refine ⟨.pointer (some ⟨g,of2 + f.offset,none⟩), ?_,.of ⟨g,n,cap,h1,rfl⟩⟩
 simp only [execOp,ho,h2,Instr.fieldAt]
 simp [run_underlying h3,h4,Instr.sureAddr,fieldPlace,h5,Addr.add_lit]
theorem zjk {α : Type} {T : Ty α} {e : TypeId} {u : Value} {l : List α} {G : Gh} {w : World} (h : (z_ T e u l).holds G w) {g n cap : Nat} (hu : u = .slice (some ⟨g,0,none⟩) n cap) {j : Nat} {v : Value} (hv : (l.flatMap T.enc)[j]? = some v) : w.cell? ⟨g,j,none⟩ = some v:=by
 have h' : w.ownsRow 0 e T.k u l.length (l.flatMap T.enc):=h
 have:=h'.cells (g:=g) (by rw [hu]; rfl) j v hv
 rwa [Addr.add_lit,Nat.zero_add] at this
theorem zmc {α : Type} {T : Ty α} {x : Operand} {t e : TypeId} {l : List α} {off : Nat} {u v : Value} (i : Nat) (ho : o.op = .load t x) (ha : ∀ w,(isAgg t).run P w = .ok false w) (hM : M[i]? = some (z_ T e u l)) (hx : Opd T0 fr x (rpA u off)) (hv : (l.flatMap T.enc)[off]? = some v) : AY P T0 ops o fr M (vA v):=xd fun w0 G F a w hs hf=>by
 obtain ⟨g,n,cap,h1,h2⟩:=(hx.use (o:=o) (ops:=ops) (by simp [ho,Op.operands]) hs.tab hf).rp
 have hrow:=hs.own _ (List.mem_of_getElem? (xi (F:=F) (m':=z_ T e u l) hM).1)
 have hc:=zjk hrow h1 hv
 refine ⟨v, ?_,Rep.va _ _⟩
 simp only [execOp,ho,h2,Instr.loadAt,Instr.sureAddr,loadVar]
 simp [ha,load,Sem.run,hc]
end
end
section
open Go Go.RowKit
theorem St.freeze {T0 G : Gh} {w0 w : World} {M : List Own} {i : Nat} {α : Type} {T : Ty α} {e : TypeId} {u : Value} {l : List α} (h : St T0 w0 G M w) (hi : M[i]? = some (z_ T e u l)) :
  ∃ G',Gh.le G G' ∧ St T0 w0 G' (M.eraseIdx i) w ∧ Rep G' (slA T l) u:=by
 have hmem:=List.mem_of_getElem? hi
 have hlt : i < M.length:=(List.getElem?_eq_some_iff.1 hi).1
 have hget : M[i] = z_ T e u l:=(List.getElem?_eq_some_iff.1 hi).2
 have hrow:=h.own _ hmem
 have hsub : List.Sublist (M.eraseIdx i) M:=List.eraseIdx_sublist M i
 rcases yh hrow with ⟨rfl,rfl⟩ | ⟨g,cap,rfl,h4,h5⟩
 ·exact ⟨G,Gh.le.refl _,h.sub hsub,.of ⟨none,0,0,rfl,rfl,Nat.le_refl _,by decide,fun _=>rfl,fun hn=>absurd rfl hn⟩⟩
 ·obtain ⟨f1,f2,f3⟩:=h.foot _ hmem g rfl
  have hle : Gh.le G (fun b o=>if b = g then w.cell? ⟨g,o,none⟩ else G b o):=fun b o v hv=>by
   by_cases hb : b = g
   ·subst hb; rw [f3 o] at hv; cases hv
   ·simp only [if_neg hb]; exact hv
  refine ⟨_,hle,(h.sub hsub).gmono hle (fun b o v hv => ?_) (fun m hm b hb o => ?_),.of ⟨_,_,cap,rfl,rfl,h4,h5,(fun e=>nomatch e),fun _=>⟨g,0,rfl,fun j v hv => ?_⟩⟩⟩
  ·by_cases hb : b = g
   ·subst hb; simpa using hv
   ·simp only [if_neg hb] at hv; exact h.imm _ _ _ hv
  ·-- the other ones have other feet
   have hne : b ≠ g:=fun hbg=>by
    subst hbg
    have hsep:=h.sep
    have hsplit : M = M.take i ++ z_ T e (.slice (some ⟨b,0,none⟩) l.length cap) l :: M.drop (i + 1):=by rw [← hget]; simp
    rw [List.eraseIdx_eq_take_drop_succ] at hm
    rw [hsplit,List.filterMap_append,List.filterMap_cons] at hsep
    have hfoot : (z_ T e (.slice (some ⟨b,0,none⟩) l.length cap) l).foot = some b:=rfl
    simp only [hfoot,List.nodup_append,List.nodup_cons] at hsep
    rcases List.mem_append.1 hm with hm | hm
    ·exact hsep.2.2 b (List.mem_filterMap.2 ⟨m,hm,hb⟩) b (by simp) rfl
    ·exact hsep.2.1.1 (List.mem_filterMap.2 ⟨m,hm,hb⟩)
   simp only [if_neg hne]
   exact (h.foot m (hsub.subset hm) b hb).2.2 o
  ·simp only [Nat.zero_add,if_true]
   exact zjk hrow rfl hv
def FzA {α : Type} (u : Value) (T : Ty α) (l : List α) (A A' : AV) : Prop := ∀ G G' v,Gh.le G G' → Rep G' (slA T l) u → Rep G A v → Rep G' A' v
theorem zu0 {α : Type} {u : Value} {T : Ty α} {l : List α} : FzA u T l (vA u) (slA T l):=fun _ _ _ _ h r=>by rw [r.eq]; exact h
theorem zuz {α : Type} {u : Value} {T : Ty α} {l : List α} {A : AV} : FzA u T l A A:=fun _ _ _ hl _ r=>r.mono hl
def FzL {α : Type} (u : Value) (T : Ty α) (l : List α) : List AV → List AV → Prop
 |[],[]=>True
 |A :: r,A' :: r'=>FzA u T l A A' ∧ FzL u T l r r'
 |_,_=>False
theorem z34 {α : Type} {u : Value} {T : Ty α} {l : List α} : FzL u T l [] []:=trivial
theorem zzz {α : Type} {u : Value} {T : Ty α} {l : List α} {A A' : AV} {r r' : List AV} (h : FzA u T l A A') (k : FzL u T l r r') : FzL u T l (A :: r) (A' :: r'):=⟨h,k⟩
theorem FzL.rep {α : Type} {u : Value} {T : Ty α} {l : List α} {G G' : Gh} (hl : Gh.le G G') (hu : Rep G' (slA T l) u) : ∀ {r r' us},FzL u T l r r' → AllRep G r us → AllRep G' r' us
 |[],[],[],_,_=>trivial
 |_ :: _,_ :: _,_ :: _,h,k=>⟨h.1 G G' _ hl hu k.1,FzL.rep hl hu h.2 k.2⟩
 |[],_ :: _,_,h,_=>h.elim
 |_ :: _,[],_,h,_=>h.elim
theorem z7p {α : Type} {u : Value} {T : Ty α} {l : List α} {r r' : List AV} (h : FzL u T l r r') : FzA u T l (qb r) (qb r'):=fun G G' v hl hu k=>by
 obtain ⟨us,rfl,q⟩:=k.agg
 exact .of ⟨us,rfl,FzL.rep hl hu h q⟩
theorem z7o {α : Type} {u : Value} {T : Ty α} {l : List α} {r r' : List AV} (h : FzL u T l r r') : FzA u T l (zy r) (zy r'):=fun G G' v hl hu k=>by
 obtain ⟨us,rfl,q⟩:=k.tup
 exact .of ⟨us,rfl,FzL.rep hl hu h q⟩
section
variable {P : Program} {T0 : Gh} {N : Fz} {Q : ko} {fr : Fr} {M : List Own} {ops : Array Oper} {o : Oper}
theorem zha {M F : List Own} {i : Nat} (h : i < M.length) : (M ++ F).eraseIdx i = M.eraseIdx i ++ F:=List.eraseIdx_append_of_lt_length h F
def FzFr {α : Type} (u : Value) (T : Ty α) (l : List α) : Fr → Fr → Prop
 |[],[]=>True
 |(s,A) :: r,(s',A') :: r'=>s = s' ∧ FzA u T l A A' ∧ FzFr u T l r r'
 |_,_=>False
theorem z35 {α : Type} {u : Value} {T : Ty α} {l : List α} : FzFr u T l [] []:=trivial
theorem zz0 {α : Type} {u : Value} {T : Ty α} {l : List α} {s : Nat} {A A' : AV} {r r' : Fr} (h : FzA u T l A A') (k : FzFr u T l r r') : FzFr u T l ((s,A) :: r) ((s,A') :: r'):=⟨rfl,h,k⟩
theorem FzFr.get {α : Type} {u : Value} {T : Ty α} {l : List α} : ∀ {r r' : Fr},FzFr u T l r r' → ∀ s A',r'.get s = some A' → ∃ A,r.get s = some A ∧ FzA u T l A A'
 |[],[],_,s,A',e=>by simp [Fr.get] at e
 |(x,A) :: r,(x',B) :: r',h,s,A',e=>by
  obtain ⟨rfl,h1,h2⟩:=h
  by_cases hx : s = x
  ·subst hx; rw [qm] at e; obtain rfl:=Option.some.inj e; exact ⟨A,qm _ _ _,h1⟩
  ·rw [qf hx] at e
   obtain ⟨A2,k1,k2⟩:=FzFr.get h2 s A' e
   exact ⟨A2,by rw [qf hx]; exact k1,k2⟩
 |[],_ :: _,h,_,_,_=>h.elim
 |(_,_) :: _,[],h,_,_,_=>h.elim
theorem zny {α : Type} {T : Ty α} {e : TypeId} {u : Value} {l : List α} {fr' : Fr} (i : Nat) (hM : M[i]? = some (z_ T e u l)) (hz : FzFr u T l fr fr') : Ent T0 fr M fr' (M.eraseIdx i):=fun w0 G F t w st r=>by
 have hlt : i < M.length:=(List.getElem?_eq_some_iff.1 hM).1
 obtain ⟨G',h1,h2,h3⟩:=st.freeze (xi (F:=F) (m':=z_ T e u l) hM).1
 rw [zha hlt] at h2
 refine ⟨G',h1,h2,fun x B _ e => ?_⟩
 obtain ⟨A,k1,k2⟩:=hz.get x B e
 obtain ⟨v,k3,k4⟩:=r x A trivial k1
 exact ⟨v,k3,k2 G G' v h1 h3 k4⟩
theorem zsb {α : Type} {T : Ty α} {e : TypeId} {u : Value} {l : List α} {c : Code} {fr' : Fr} (i : Nat) (hM : M[i]? = some (z_ T e u l)) (hz : FzFr u T l fr fr') (h : AW P T0 N c Q fr' (M.eraseIdx i)) : AW P T0 N c Q fr M:=zqc (zny i hM hz) h
theorem AF.freeze {f : FuncId} {As : List AV} {K K' : AV → List Own → Prop} {KP : List PanicEntry → List Own → Prop} (h : AF P T0 f As M K KP)
  (hk : ∀ A M',K A M' → ∃ (α : Type) (T : Ty α) (e : TypeId) (u : Value) (l : List α) (i : Nat) (A' : AV),M'[i]? = some (z_ T e u l) ∧ FzA u T l A A' ∧ K' A' (M'.eraseIdx i)) : AF P T0 f As M K' KP :=
 ⟨h.able,fun w0 G F w vs hs hr=>(h.calls w0 G F w vs hs hr).mono fun e w' q=>by
  rcases q with ⟨v,A,M',G',e1,e2,e3,e4,e5⟩ | q
  ·obtain ⟨α,T,e,u,l,i,A',k1,k2,k3⟩:=hk A M' e2
   have hlt : i < M'.length:=(List.getElem?_eq_some_iff.1 k1).1
   obtain ⟨G2,h1,h2,h3⟩:=e5.freeze (xi (F:=F) (m':=z_ T e u l) k1).1
   rw [zha hlt] at h2
   exact .inl ⟨v,A',_,G2,e1,k3,k2 G' G2 v h1 h3 e3,e4.trans h1,h2⟩
  ·exact .inr q⟩
theorem zos {α : Type} (T : Ty α) : ∀ (l : List α) (n : Nat) (z : α) (cs : List Value),T.enc z = cs → n < l.length → (l.set n z).flatMap T.enc = (l.flatMap T.enc).take (n * T.k) ++ cs ++ (l.flatMap T.enc).drop (n * T.k + T.k)
 |[],_,_,_,_,h=>by simp at h
 |x :: l,0,z,cs,e,_=>by
  subst e
  simp [← T.len x]
 |x :: l,n + 1,z,cs,e,h=>by
  have ih:=zos T l n z cs e (by simpa using h)
  simp only [List.set_cons_succ,List.flatMap_cons,ih]
  have hx:=T.len x
  rw [show (n + 1) * T.k = (T.enc x).length + n * T.k by rw [hx,Nat.add_mul]; omega,List.take_length_add_append,show (T.enc x).length + n * T.k + T.k = (T.enc x).length + (n * T.k + T.k) by omega,List.drop_length_add_append]
  simp
theorem ze9 (C E : List Value) (p k L : Nat) (hE : E.length = k) (h : p + k ≤ L) (hL : L ≤ C.length) : (C.take p ++ E ++ C.drop (p + k)).take L = (C.take L).take p ++ E ++ (C.take L).drop (p + k):=by
 apply List.ext_getElem?
 intro j
 by_cases h1 : j < p
 ·have a1 : j < L:=by omega
  simp [List.getElem?_take,List.getElem?_append,h1,a1,show j < C.length by omega,show j < p + E.length by omega,show j < min p C.length by omega,show j < min p (min L C.length) by omega,show j < min p C.length + E.length by omega]
 ·by_cases h2 : j < p + k
  ·have a1 : j < L:=by omega
   have a2 : min p C.length = p:=by omega
   have a3 : min p (min L C.length) = p:=by omega
   have a4 : min p L = p:=by omega
   simp [List.getElem?_take,List.getElem?_append,h1,a1,a2,a3,a4,hE,show j - p < k by omega]
  ·have a2 : min p C.length = p:=by omega
   have a3 : min p (min L C.length) = p:=by omega
   have a4 : min p L = p:=by omega
   have a5 : p + k + (j - p - k) = j:=by omega
   have a6 : ¬ (j - p < k):=by omega
   by_cases a1 : j < L
   ·simp [List.getElem?_take,List.getElem?_append,List.getElem?_drop,h1,a1,a2,a3,a4,hE,a5,a6]
   ·simp [List.getElem?_take,List.getElem?_append,List.getElem?_drop,h1,a1,a2,a3,a4,hE,a5,a6]
theorem zmm {α : Type} {T : Ty α} {x y : Operand} {e : TypeId} {l : List α} {d z : α} {by' : Nat} {av : α → AV} {n : Nat} {u : Value} {A : AV} (i : Nat) (ho : o.op = .store e x y) (he : El P T e d by' av) (hM : M[i]? = some (z_ T e u l)) (hx : Opd T0 fr x (rpA u (n * T.k))) (hn : n < l.length)
  (hy : Opd T0 fr y A) (hc : kg A ((T.enc z).map vA)) : AO P T0 ops o fr M (fun _ M'=>M' = M.set i (z_ T e u (l.set n z))) (fun _ _=>False):=fun w0 G F a w next Qc hs hf hk _=>by
 obtain ⟨g,m,cap,h1,h2⟩:=(hx.use (o:=o) (ops:=ops) (by simp [ho,Op.operands]) hs.tab hf).rp
 have hv:=x_ (hc G _ (hy.use (o:=o) (ops:=ops) (by simp [ho,Op.operands]) hs.tab hf))
 obtain ⟨hM1,hM2⟩:=xi (F:=F) (m':=z_ T e u (l.set n z)) hM
 have hrow:=hs.own _ (List.mem_of_getElem? hM1)
 subst h1
 rcases hrow.2 with ⟨h',_⟩ | ⟨g',cap',cur,h',_,hg,hnc,hcm,hcs,htake⟩
 ·cases h'
 simp only [Value.slice.injEq,Option.some.injEq,Addr.mk.injEq,and_true,true_and] at h'
 obtain ⟨rfl,rfl,rfl⟩:=h'
 have hsz : (a.eval y).cells.size = T.k:=by rw [← Array.length_toList,hv,T.len]
 have hbound : n * T.k + T.k ≤ l.length * T.k:=by
  have : (n + 1) * T.k ≤ l.length * T.k:=Nat.mul_le_mul_right _ hn
  rw [Nat.add_mul] at this; omega
 have hcap : l.length * T.k ≤ cur.size:=by rw [hcs]; exact Nat.mul_le_mul_right _ hnc
 have hst:=run_storeCells_at P g (n * T.k) e (T.enc z) 0 cur w hg (by rw [T.len]; omega) (he.one z)
 simp only [Nat.add_zero,T.len] at hst
 have hrun : (execOp a.eval o).run P w = .ok .skip (w.setRow g (cur.toList.take (n * T.k) ++ T.enc z ++ cur.toList.drop (n * T.k + T.k)).toArray):=by
  simp only [execOp,ho,h2,Instr.storeAt,Instr.sureAddr,storeVar]
  simp [he.size,hsz,hv,hst]
 unfold Oper.wp; rw [hrun]
 refine hk z0_ _ G undef _ rfl (Gh.le.refl _) ?_ (Rep.any _ _)
 rw [← hM2]
 refine hs.grown hM1 ⟨rfl,rfl,rfl,by simp,fun k _ hk=>setRow_other w g k _ (fun e=>hk (by simp [z_,Value.ownBlock,e]))⟩ ?_ (fun b hb => ?_)
 ·refine ⟨by rw [zei,List.length_set],.inr ⟨g,cap,_,by rw [List.length_set],Nat.zero_le _,setRow_heap w g cur _ e _ hg,by rw [List.length_set]; exact hnc,hcm, ?_, ?_⟩⟩
  ·rw [← hcs]; simp [T.len]; have:=cur.size; omega
  ·rw [List.length_set,zos T l n z (T.enc z) rfl hn,← htake]
   exact ze9 cur.toList (T.enc z) (n * T.k) T.k (l.length * T.k) (T.len z) hbound (by simpa using hcap)
 ·refine ⟨.inl hb, ?_⟩
  have hb' : some g = some b:=hb
  obtain rfl:=Option.some.inj hb'
  simpa using (Array.getElem?_eq_some_iff.1 hg).1
theorem kw {α : Type} (T : Ty α) : ∀ (l : List α) (n : Nat),(l.drop n).flatMap T.enc = (l.flatMap T.enc).drop (n * T.k)
 |[],n=>by simp
 |x :: l,0=>by simp
 |x :: l,n + 1=>by
  rw [List.drop_succ_cons,kw T l n,List.flatMap_cons,Nat.add_mul,Nat.one_mul,Nat.add_comm (n * T.k),← T.len x,List.drop_length_add_append]
theorem kc {α : Type} (T : Ty α) : ∀ (l : List α) (n : Nat),(l.take n).flatMap T.enc = (l.flatMap T.enc).take (n * T.k)
 |[],n=>by simp
 |x :: l,0=>by simp
 |x :: l,n + 1=>by
  rw [List.take_succ_cons,List.flatMap_cons,kc T l n,List.flatMap_cons,Nat.add_mul,Nat.one_mul,Nat.add_comm (n * T.k),← T.len x,List.take_length_add_append]
theorem z2b {α : Type} {T : Ty α} {l : List α} {G : Gh} {a : Option Addr} {n lo hi m : Nat} (h : (l ≠ [] → ∃ b off,a = some ⟨b,off,none⟩ ∧ ∀ j v,(l.flatMap T.enc)[j]? = some v → G b (off + j) = some v)) (hn : n = l.length) (h1 : lo ≤ hi) (h2 : hi ≤ n) (h3 : hi ≤ m) :
  ((l.drop lo).take (hi - lo) ≠ [] → ∃ b off,(if m = lo then a else a.map (·.add (lo * T.k))) = some ⟨b,off,none⟩ ∧ ∀ j v,(((l.drop lo).take (hi - lo)).flatMap T.enc)[j]? = some v → G b (off + j) = some v):=fun hne=>by
 have hlo : lo < hi:=by
  rcases Nat.lt_or_ge lo hi with h | h
  ·exact h
  ·exact absurd (by rw [Nat.sub_eq_zero_of_le h]; simp) hne
 obtain ⟨b,off,rfl,hc⟩:=h (by intro e; subst e; simp at hn; omega)
 refine ⟨b,off + lo * T.k,by rw [if_neg (by omega)]; simp [Addr.add_lit],fun j v hv => ?_⟩
 rw [kc,kw,List.getElem?_take] at hv
 split at hv
 ·rw [List.getElem?_drop] at hv
  rw [Nat.add_assoc]; exact hc _ v hv
 ·cases hv
theorem zd4 {t e : TypeId} (hu : P.underlying t = some (.slice e)) : P.underlying t = some (.slice (P.elem t)):=by
 have : P.elem t = e:=by simp [Program.elem,hu]
 rw [this]; exact hu
def zsk (lo : Option Operand) (n : Nat) (T0 : Gh) (fr : Fr) : Prop:=match lo with | none=>n = 0 | some x => ∃ k,Opd T0 fr x (vA (.int k (n : Int)))
def zus (hi : Option Operand) (n len : Nat) (T0 : Gh) (fr : Fr) : Prop:=match hi with | none=>n = len | some x => ∃ k,Opd T0 fr x (vA (.int k (n : Int)))
theorem zue {T0 : Gh} {fr : Fr} : zsk none 0 T0 fr:=rfl
theorem zur {n : Nat} {T0 : Gh} {fr : Fr} : zus none n n T0 fr:=rfl
theorem jp {len cap lo hi : Nat} {isS : Bool} {vlo vhi : Option Value} {w : World} (h1 : lo ≤ hi) (h2 : hi ≤ cap) (hl : (vlo = none ∧ lo = 0) ∨ ∃ k,vlo = some (.int k (lo : Int))) (hh : (vhi = none ∧ hi = len) ∨ ∃ k,vhi = some (.int k (hi : Int))) :
  (Instr.sliceBounds isS len cap vlo vhi none).run P w = .ok (lo,hi,cap) w:=by
 rcases hl with ⟨rfl,rfl⟩ | ⟨k,rfl⟩ <;> rcases hh with ⟨rfl,rfl⟩ | ⟨k',rfl⟩ <;>
  simp [Instr.sliceBounds,run_sliceBound,h1,h2]
theorem zp7 {α : Type} {T : Ty α} {t e : TypeId} {x : Operand} {lo hi : Option Operand} {l : List α} {d : α} {by' a b : Nat} {av : α → AV} (ho : o.op = .slice t x lo hi none) (hu : P.underlying t = some (.slice e)) (he : El P T e d by' av) (hx : Opd T0 fr x (slA T l)) (hlo : zsk lo a T0 fr) (hhi : zus hi b l.length T0 fr) (h1 : a ≤ b) (h2 : b ≤ l.length) :
  AY P T0 ops o fr M (slA T ((l.drop a).take (b - a))):=xd fun w0 G F ac w hs hf=>by
 obtain ⟨ad,n,cap,e1,e2,e3,e4,e5,e6⟩:=(hx.use (o:=o) (ops:=ops) (by simp [ho,Op.operands]) hs.tab hf).sl
 have hl : ((lo.map ac.eval) = none ∧ a = 0) ∨ ∃ k,(lo.map ac.eval) = some (.int k (a : Int)):=by
  cases lo with
  |none=>exact .inl ⟨rfl,hlo⟩
  |some y=>obtain ⟨k,hk⟩:=hlo; exact .inr ⟨k,by rw [Option.map_some,(hk.use (o:=o) (ops:=ops) (by simp [ho,Op.operands]) hs.tab hf).eq]⟩
 have hh : ((hi.map ac.eval) = none ∧ b = n) ∨ ∃ k,(hi.map ac.eval) = some (.int k (b : Int)):=by
  cases hi with
  |none=>exact .inl ⟨rfl,by rw [e2]; exact hhi⟩
  |some y=>obtain ⟨k,hk⟩:=hhi; exact .inr ⟨k,by rw [Option.map_some,(hk.use (o:=o) (ops:=ops) (by simp [ho,Op.operands]) hs.tab hf).eq]⟩
 have hb:=jp (P:=P) (isS:=true) (cap:=cap) (w:=w) h1 (by omega) hl hh
 refine ⟨.slice (if cap = a then ad else ad.map (·.add (a * T.k))) (b - a) (cap - a), ?_,.of ⟨_,_,_,rfl,by simp; omega,by omega,by omega,fun hn => ?_,z2b e6 e2 h1 (by omega) (by omega)⟩⟩
 ·simp only [execOp,ho,e1]
  simp [run_sliceAt_slice _ _ _ _ _ _ (zd4 hu),Instr.slice,run_underlying hu,hb,he.size]
 ·cases ad with
  |none=>have:=e5 rfl; omega
  |some ad=>split at hn <;> simp at hn
end
end
section
open Go Go.RowKit
def z8_ (A : AV) : Prop := ∀ G u,Rep G A u → u.oneCell' = true
theorem z6s {v : Value} (h : v.oneCell' = true) : z8_ (vA v):=fun _ _ r=>by rw [r.eq]; exact h
theorem z6t {α : Type} {T : Ty α} {l : List α} : z8_ (slA T l):=fun _ _ r=>by obtain ⟨a,n,cap,rfl,_⟩:=r.sl; rfl
theorem z3l {α : Type} {T : Ty α} {l : List α} : z8_ (jl T l):=fun _ _ r=>by obtain ⟨_,_,a,n,rfl,_⟩:=r; rfl
def OnesA : List AV → Prop
 |[]=>True
 |A :: l=>z8_ A ∧ OnesA l
theorem z_h : OnesA []:=trivial
theorem z_g {A : AV} {l : List AV} (h : z8_ A) (k : OnesA l) : OnesA (A :: l):=⟨h,k⟩
theorem OnesA.all {G : Gh} : ∀ {l us},OnesA l → AllRep G l us → ∀ v ∈ us,v.oneCell' = true
 |[],[],_,_,_,h=>by simp at h
 |_ :: _,_ :: _,h,r,v,hv=>by
  rcases List.mem_cons.1 hv with rfl | hv
  ·exact h.1 _ _ r.1
  ·exact OnesA.all h.2 r.2 v hv
section
variable {P : Program} {T0 : Gh} {N : Fz} {Q : ko} {fr : Fr} {M : List Own} {ops : Array Oper} {o : Oper}
theorem z2p {e : TypeId} {l : List AV} (hr : ∀ G F (a : Act) (w w0 : World),St T0 w0 G (M ++ F) w → frOn G (reads ops o) fr a.tmps → ∃ cs : List Value,(execOp a.eval o).run P w = .ok (.value (.pointer (some ⟨w.heap.size,0,none⟩))) (w.alloc (.cells cs.toArray e)) ∧ AllRep G l cs) :
  AO P T0 ops o fr M (fun A M' => ∃ b,A = vA (.pointer (some ⟨b,0,none⟩)) ∧ M' = qh b e l :: M) (fun _ _=>False):=fun w0 G F a w next Qc hs hf hk _=>by
 obtain ⟨cs,hrun,hrep⟩:=hr G F a w w0 hs hf
 unfold Oper.wp; rw [hrun]
 exact hk _ (qh w.heap.size e l :: M) G _ _ ⟨w.heap.size,rfl,rfl⟩ (Gh.le.refl _) (hs.alloc _ _ rfl ⟨cs,heap_alloc_new w _,hrep⟩) (Rep.va _ _)
theorem z8z {e : TypeId} {x : Operand} {A : AV} {l : List AV} (ho : o.op = .box e x) (hx : Opd T0 fr x A) (hc : kg A l) : AO P T0 ops o fr M (fun A M' => ∃ b,A = vA (.pointer (some ⟨b,0,none⟩)) ∧ M' = qh b e l :: M) (fun _ _=>False) :=
 z2p fun G F a w w0 hs hf=>⟨(a.eval x).cells.toList,by
  simp only [execOp,ho,Instr.box,newVar,newRow,newObj]
  simp [Sem.run],hc G _ (hx.use (o:=o) (ops:=ops) (by simp [ho,Op.operands]) hs.tab hf)⟩
theorem zqd {e : TypeId} {zs : List Value} {z : Value} (ho : o.op = .alloc e) (hz : (P.info? e).map (·.zero) = some (some z)) (hzs : z.cells.toList = zs) : AO P T0 ops o fr M (fun A M' => ∃ b,A = vA (.pointer (some ⟨b,0,none⟩)) ∧ M' = qh b e (zs.map vA) :: M) (fun _ _=>False) :=
 z2p fun G F a w w0 hs hf=>⟨zs,by
  obtain ⟨i,h1,h2⟩:=Option.map_eq_some_iff.1 hz
  have hzv : (zeroValue e).run P w = .ok z w:=by simp [zeroValue,typeInfo,h1,h2]
  subst hzs
  simp only [execOp,ho,Instr.alloc,newVar,newRow,newObj]
  simp [hzv,Sem.run],yb _ _⟩
theorem zmg {x : Operand} {t : TypeId} {i off b of2 : Nat} {ft : TypeId} (ho : o.op = .fieldAddr t x i) (hu : Fld P t i off ft)
  (hsz : ∀ w,∃ n,(sizeOf ft).run P w = .ok (n + 1) w) (hx : Opd T0 fr x (vA (.pointer (some ⟨b,of2,none⟩)))) : AY P T0 ops o fr M (vA (.pointer (some ⟨b,of2 + off,none⟩))):=xd fun w0 G F a w hs hf=>by
 have h2:=(hx.use (o:=o) (ops:=ops) (by simp [ho,Op.operands]) hs.tab hf).eq
 obtain ⟨fs,f,h3,h4,rfl,rfl⟩:=hu
 obtain ⟨m,h5⟩:=hsz w
 refine ⟨_, ?_,Rep.va _ _⟩
 simp only [execOp,ho,h2,Instr.fieldAt]
 simp [run_underlying h3,h4,Instr.sureAddr,fieldPlace,h5,Addr.add_lit]
theorem zcd {b : Nat} {e : TypeId} {cells : List AV} {G : Gh} {w : World} (h : (qh b e cells).holds G w) : ∃ cs : List Value,w.heap[b]? = some (.cells cs.toArray e (0,0)) ∧ AllRep G cells cs:=h
theorem zmb {x : Operand} {t e : TypeId} {b off : Nat} {cells : List AV} {A : AV} (i : Nat) (ho : o.op = .load t x) (ha : ∀ w,(isAgg t).run P w = .ok false w) (hM : M[i]? = some (qh b e cells)) (hx : Opd T0 fr x (vA (.pointer (some ⟨b,off,none⟩)))) (hA : cells[off]? = some A) : AY P T0 ops o fr M A:=xd fun w0 G F a w hs hf=>by
 have h2:=(hx.use (o:=o) (ops:=ops) (by simp [ho,Op.operands]) hs.tab hf).eq
 obtain ⟨cs,h3,h4⟩:=zcd (hs.own _ (List.mem_of_getElem? (xi (F:=F) (m':=qh b e cells) hM).1))
 obtain ⟨u,h5,h6⟩:=h4.get _ hA
 have hc : w.cell? ⟨b,off,none⟩ = some u:=by rw [cell_of_row _ _ _ _ _ _ h3]; simpa using h5
 refine ⟨u, ?_,h6⟩
 simp only [execOp,ho,h2,Instr.loadAt,Instr.sureAddr,loadVar]
 simp [ha,load,Sem.run,hc]
theorem zma {x : Operand} {t e : TypeId} {b off n : Nat} {cells : List AV} (i : Nat) (ho : o.op = .load t x) (ha : ∀ w,(isAgg t).run P w = .ok true w) (hz : ∀ w,(sizeOf t).run P w = .ok n w) (hM : M[i]? = some (qh b e cells)) (hx : Opd T0 fr x (vA (.pointer (some ⟨b,off,none⟩)))) (hn : off + n ≤ cells.length) : AY P T0 ops o fr M (qb ((cells.drop off).take n)):=xd fun w0 G F a w hs hf=>by
 have h2:=(hx.use (o:=o) (ops:=ops) (by simp [ho,Op.operands]) hs.tab hf).eq
 obtain ⟨cs,h3,h4⟩:=zcd (hs.own _ (List.mem_of_getElem? (xi (F:=F) (m':=qh b e cells) hM).1))
 refine ⟨.agg ((cs.drop off).take n).toArray, ?_,.of ⟨_,rfl,(h4.drop off).take n⟩⟩
 have hlen:=h4.len
 have hl:=run_loadCells_list (P:=P) (w:=w) ⟨b,off,none⟩ ((cs.drop off).take n) (fun j v hv=>by
  rw [Addr.add_lit,cell_of_row _ _ _ _ _ _ h3]
  rw [List.getElem?_take] at hv
  split at hv
  ·rw [List.getElem?_drop] at hv; simpa using hv
  ·cases hv)
 rw [List.length_take,List.length_drop,Nat.min_eq_left (by omega)] at hl
 simp only [execOp,ho,h2,Instr.loadAt,Instr.sureAddr,loadVar]
 simp [ha,hz,hl]
theorem zeu {x y : Operand} {t e : TypeId} {b off : Nat} {cells l : List AV} {A : AV} (i : Nat) (ho : o.op = .store t x y) (hz : ∀ w,(sizeOf t).run P w = .ok l.length w) (hM : M[i]? = some (qh b e cells)) (hx : Opd T0 fr x (vA (.pointer (some ⟨b,off,none⟩)))) (hy : Opd T0 fr y A) (hc : kg A l) (h1 : OnesA l) (hn : off + l.length ≤ cells.length) :
  AO P T0 ops o fr M (fun _ M'=>M' = M.set i (qh b e (setC cells off l))) (fun _ _=>False):=fun w0 G F a w next Qc hs hf hk _=>by
 have h2:=(hx.use (o:=o) (ops:=ops) (by simp [ho,Op.operands]) hs.tab hf).eq
 have hv:=hc G _ (hy.use (o:=o) (ops:=ops) (by simp [ho,Op.operands]) hs.tab hf)
 obtain ⟨hM1,hM2⟩:=xi (F:=F) (m':=qh b e (setC cells off l)) hM
 obtain ⟨cs,h3,h4⟩:=zcd (hs.own _ (List.mem_of_getElem? hM1))
 have hlen:=h4.len
 have hvl:=hv.len
 have hst:=run_storeCells_at P b off e (a.eval y).cells.toList 0 cs.toArray w h3 (by simp only [List.size_toArray]; omega) (h1.all hv)
 simp only [Nat.add_zero] at hst
 have hrun : (execOp a.eval o).run P w = .ok .skip (w.setRow b (cs.take off ++ (a.eval y).cells.toList ++ cs.drop (off + (a.eval y).cells.toList.length)).toArray):=by
  have hsz : (a.eval y).cells.size = l.length:=by simpa using hvl
  simp only [execOp,ho,h2,Instr.storeAt,Instr.sureAddr,storeVar]
  simp only [Sem.run_bind,hz,Result.andThen_ok,hsz,ne_eq,not_true_eq_false,if_false]
  simp at hst
  simp [hst]
 unfold Oper.wp; rw [hrun]
 refine hk z0_ _ G undef _ rfl (Gh.le.refl _) ?_ (Rep.any _ _)
 rw [← hM2]
 refine hs.grown hM1 ⟨rfl,rfl,rfl,by simp,fun k _ hk=>setRow_other w b k _ (fun e=>hk (by simp [qh,e]))⟩ ?_ (fun b' hb=>⟨.inl hb, ?_⟩)
 ·exact ⟨_,setRow_heap w b cs.toArray _ e _ h3,h4.setC hv⟩
 ·have hb' : some b = some b':=hb
  obtain rfl:=Option.some.inj hb'
  simpa using (Array.getElem?_eq_some_iff.1 h3).1
theorem z5a {t t' : TypeId} {x y : Operand} {k : IntKind} {a b : Nat} (ho : o.op = .binOp .add t x y t') (hx : Opd T0 fr x (vA (.int k (a : Int)))) (hy : Opd T0 fr y (vA (.int k (b : Int)))) (hf : Fit k ((a + b : Nat) : Int)) : AY P T0 ops o fr M (vA (.int k ((a + b : Nat) : Int))):=by
 have e : ((a + b : Nat) : Int) = (a : Int) + (b : Int):=Int.natCast_add a b
 rw [e] at hf ⊢; exact zw2 ho hx hy hf
theorem z49 {t t' : TypeId} {x y : Operand} {k : IntKind} {a b : Nat} (ho : o.op = .binOp .mul t x y t') (hx : Opd T0 fr x (vA (.int k (a : Int)))) (hy : Opd T0 fr y (vA (.int k (b : Int)))) (hf : Fit k ((a * b : Nat) : Int)) : AY P T0 ops o fr M (vA (.int k ((a * b : Nat) : Int))):=by
 have e : ((a * b : Nat) : Int) = (a : Int) * (b : Int):=Int.natCast_mul a b
 rw [e] at hf ⊢; exact zwu ho hx hy hf
theorem z45 {t t' : TypeId} {x y : Operand} {k : IntKind} {a b : Nat} (ho : o.op = .binOp .sub t x y t') (hx : Opd T0 fr x (vA (.int k (a : Int)))) (hy : Opd T0 fr y (vA (.int k (b : Int)))) (hb : b ≤ a) (hf : Fit k ((a - b : Nat) : Int)) : AY P T0 ops o fr M (vA (.int k ((a - b : Nat) : Int))):=by
 have e : ((a - b : Nat) : Int) = (a : Int) - (b : Int):=by omega
 rw [e] at hf ⊢; exact zho ho hx hy hf
theorem z47 {t t' : TypeId} {x y : Operand} {k : IntKind} {a b : Nat} (ho : o.op = .binOp .quo t x y t') (hx : Opd T0 fr x (vA (.int k (a : Int)))) (hy : Opd T0 fr y (vA (.int k (b : Int)))) (hb : 0 < b) (hf : Fit k ((a / b : Nat) : Int)) : AY P T0 ops o fr M (vA (.int k ((a / b : Nat) : Int))):=by
 have e : ((a / b : Nat) : Int) = (a : Int) / (b : Int):=Int.natCast_ediv a b
 rw [e] at hf ⊢; exact zwr ho hx hy (by omega) (by omega) hf
theorem z46 {t t' : TypeId} {x y : Operand} {k : IntKind} {a b : Nat} (ho : o.op = .binOp .rem t x y t') (hx : Opd T0 fr x (vA (.int k (a : Int)))) (hy : Opd T0 fr y (vA (.int k (b : Int)))) (hb : 0 < b) : AY P T0 ops o fr M (vA (.int k ((a % b : Nat) : Int))):=by
 have e : ((a % b : Nat) : Int) = (a : Int) % (b : Int):=Int.natCast_emod a b
 rw [e]; exact zwq ho hx hy (by omega) (by omega)
end
end
end Go.Proofs.YtgfmjmfphmjdkaaGreatDoor
