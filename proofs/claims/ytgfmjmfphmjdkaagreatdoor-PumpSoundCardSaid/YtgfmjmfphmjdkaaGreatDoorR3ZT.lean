/- Several texts in one: see the comment ahead of each. No condition. -/
import Derived.Test.YtgfmjmfphmjdkaaGreatDoorR3ZA
import Derived.OwnWalkIn
import Derived.OrdersIn
import Derived.TacticsIn
import Derived.RangeFuncLeaves
import Derived.RangeFuncOwn
set_option linter.unusedSimpArgs false
set_option linter.unusedVariables false
set_option linter.unusedSectionVars false
namespace Go.Proofs.YtgfmjmfphmjdkaaGreatDoor
set_option maxHeartbeats 4000000
section
open Go Go.RowKit
section
variable {P : Program} {n : Nat}
abbrev Fr1 (ro : Option Nat) : Fence:={ Fence.wide with round:=ro }
def zef : List Oper → Bool
 |[]=>true
 |o :: l=>(match o.op with | .defer _=>false | _=>true) && zef l
theorem zgj {l : List Oper} (h : zef l = true) : ∀ o ∈ l,∀ c,o.op ≠ .defer c:=by
 induction l with
 |nil=>intro o ho; cases ho
 |cons x l ih =>
  simp only [zef,Bool.and_eq_true] at h
  intro o ho c hc
  rcases List.mem_cons.1 ho with rfl | ho
  ·rw [hc] at h; simp at h
  ·exact ih h.2 o ho c hc
theorem z8o {ro : Option Nat} {f : FuncId} {args : Array Value} {w : World} {R : Ending → World → Prop} (h : Calls P f args w R) : CallsIn (Fr1 ro) n P f args w R:=(callsIn_wide (n:=n)).2 h
theorem z92 {ro : Option Nat} {row : String} {args : Array Value} {w : World} {R : Value → World → Prop} (h : Rows P row args w R) : RowsIn (Fr1 ro) n P row args w R:=fun c cs _=>let ⟨v,w',r,s⟩:=h c cs; ⟨v,w',r,stepsIn_wide.2 s⟩
theorem z3k {ro : Option Nat} {o : Oper} {a : Act} {w : World} {next : Act → World → Prop} {Q : Exit → Act → World → Prop} (hd : ∀ c,o.op ≠ .defer c) (h : o.wp P a w next Q) : o.wpIn (Fr1 ro) n P a w next Q:=by
 refine ⟨fun _ _=>trivial, ?_⟩
 rw [Oper.semAt_plain _ _ _ hd]
 unfold Oper.wp at h
 generalize (execOp a.eval o).run P w = r at *
 cases r with
 |ok nx w' =>
  cases nx <;> simp only [Oper.upon,Oper.uponIn] at h ⊢ <;> first
   |exact h
   |exact ⟨fun e=>(by cases e),z8o h⟩
   |exact ⟨fun e=>(by cases e),z92 h⟩
   |exact h.elim
 |halt x w'=>cases x <;> simp only [Oper.upon,Oper.uponIn] at h ⊢ <;> first | exact h | exact h.elim
theorem zfv {F : Fence} {o : Oper} {a : Act} {w : World} {K K' : Act → World → Prop} {Q : Exit → Act → World → Prop} (hk : ∀ a w,K a w → K' a w) (h : o.wpIn F n P a w K Q) : o.wpIn F n P a w K' Q:=Oper.wpIn_mono hk h
theorem znf {ro : Option Nat} {ops : Array Oper} {Q : Exit → Act → World → Prop} (hq : ¬ LetsOut Q) : ∀ (l : List Oper) (a : Act) (w : World),(∀ o ∈ l,∀ c,o.op ≠ .defer c) → wpList P ops Q l a w → wpListIn (Fr1 ro) n P ops Q l a w
 |[],_,_,_,h=>h
 |o :: l,a,w,hd,h=>by
  unfold wpList at h; unfold wpListIn
  split
  ·rename_i hw; rw [if_pos hw] at h
   rcases h with h | h
   ·exact zfv (fun a w h=>znf hq l a w (fun o ho=>hd o (List.mem_cons_of_mem _ ho)) h) (z3k (hd o (List.mem_cons_self)) h)
   ·exact (hq h.2).elim
  ·rename_i hw; rw [if_neg hw] at h
   exact ⟨fun _ _=>trivial,znf hq l _ w (fun o ho=>hd o (List.mem_cons_of_mem _ ho)) h⟩
theorem zqe {ro : Option Nat} {md : Region.Mode} {ops : Array Oper} {Q : Exit → Act → World → Prop} (hq : ¬ LetsOut Q) (hd : ∀ o ∈ ops,∀ c,o.op ≠ .defer c) : ∀ (k : Nat) (listed : Array Bool) (a : Act) (w : World),wpAny P md ops Q k listed a w → wpAnyIn (Fr1 ro) n P md ops Q k listed a w
 |0,_,_,_,h=>h
 |k + 1,listed,a,w,h=>by
  refine ⟨h.1,fun i hi => ?_⟩
  have h2:=h.2 i hi
  unfold wpOp at h2; unfold wpOpIn
  cases ho : ops[i]? with
  |none=>rw [ho] at h2; exact zqe hq hd k _ a w h2
  |some o =>
   rw [ho] at h2
   simp only at h2 ⊢
   split
   ·rename_i hw; rw [if_pos hw] at h2
    rcases h2 with h2 | h2
    ·exact zfv (fun a w h=>zqe hq hd k _ a w h) (z3k (hd o (Array.mem_of_getElem? ho)) h2)
    ·exact (hq h2.2).elim
   ·rename_i hw; rw [if_neg hw] at h2
    exact ⟨fun _ _=>trivial,zqe hq hd k _ _ w h2⟩
end
end
section
open Go Go.RowKit
section
variable {P : Program} {T0 : Gh} {N : Fz} {Q : ko} {fr : Fr} {M : List Own}
def fnA (f : FuncId) (caps : List AV) : AV:=fun G u => ∃ us : List Value,u = .func (.func f) #[] us.toArray ∧ AllRep G caps us
theorem Rep.fn {G : Gh} {f : FuncId} {caps : List AV} {u : Value} (h : Rep G (fnA f caps) u) : ∃ us : List Value,u = .func (.func f) #[] us.toArray ∧ AllRep G caps us :=
 let ⟨_,h0,us,e,r⟩:=h; ⟨us,e,r.mono h0⟩
abbrev yA (l : Nat) : AV:=vA (.func (.yield l) #[] #[])
def zgi (b : Nat) (o : Obj) : Own where
 foot:=some b
 holds:=fun _ w=>w.heap[b]? = some o
 mono:=fun _ h=>h
 loc:=fun h r=>(h _ rfl).trans r
theorem St.turn {G : Gh} {w0 w : World} {b : Nat} {o o' : Obj} (h : St T0 w0 G (zgi b o :: M) w) : St T0 w0 G (zgi b o' :: M) (w.putObj b o'):=by
 have hb : w.heap[b]? = some o:=h.own _ List.mem_cons_self
 have hlt:=(Array.getElem?_eq_some_iff.1 hb).1
 have:=St.grown (i:=0) (m:=zgi b o) (m':=zgi b o') h rfl (grownBy_putObj' w b o') (World.putObj_heap_same hlt) (fun c hc=>⟨.inl hc,by cases hc; simpa using hlt⟩)
 simpa using this
theorem St.tab' {T1 G : Gh} {w0 w : World} (h : St T0 w0 G M w) (hl : Gh.le T1 G) : St T1 w0 G M w:=⟨h.below,hl,h.imm,h.own,h.foot,h.sep⟩
def AWr (P : Program) (T0 : Gh) (n lo : Nat) (c : Code) (Q : ko) (fr : Fr) (M : List Own) : Prop :=
 ∀ (m : Nat) w0 G F a w,Con T0 ⟨n,[]⟩ w0 G F fr M a w → c.wpIn (Fr1 (some lo)) m P (cQ T0 ⟨n,[]⟩ w0 G F Q) a w
theorem zn7 {n lo : Nat} {x y : Code} (h : AWr P T0 n lo x (zz (AWr P T0 n lo y Q) Q) fr M) : AWr P T0 n lo (.seq x y) Q fr M:=fun m w0 G F a w hc =>
 wpIn_seq (wpIn_mono (h m w0 G F a w hc) fun e a' w' q=>by
  obtain ⟨fr',M',G',q1,q2,q3⟩:=q
  cases e with
  |normal=>exact wpIn_mono (q1 m w0 G' F a' w' q3) fun _ _ _ q=>q.mono (fun _ _ _ h=>h) q2
  |_=>exact ⟨fr',M',G',q1,q2,q3⟩)
theorem zko {n lo : Nat} (h : Q .normal fr M) : AWr P T0 n lo .skip Q fr M:=fun _ _ _ _ _ _ hc=>wpIn_skip ⟨fr,M,_,h,Gh.le.refl _,hc⟩
theorem zn8 {n lo : Nat} (h : Q .ret fr M) : AWr P T0 n lo .ret Q fr M:=fun _ _ _ _ _ _ hc=>wpIn_ret ⟨fr,M,_,h,Gh.le.refl _,hc⟩
theorem zkp {n lo t : Nat} {x y : Code} {c : Bool} (hc : fr.get t = some (B c)) (ht : c = true → AWr P T0 n lo x Q fr M) (hf : c = false → AWr P T0 n lo y Q fr M) : AWr P T0 n lo (.cond (.tmp t) x y) Q fr M:=fun m w0 G F a w h =>
 wpIn_cond_split (h.slot hc).eq (fun e=>ht e m w0 G F a w h) (fun e=>hf e m w0 G F a w h)
theorem zll {n : Nat} {w0 : World} {G : Gh} {F : List Own} (hq : ∀ fr M,¬ Q .outgrown fr M) : ¬ LetsOut (cQ T0 ⟨n,[]⟩ w0 G F Q):=fun ⟨_,_,fr,M,_,q,_⟩=>hq fr M q
theorem zca {n lo id : Nat} {l : List Oper} (hd : zef l = true) (hq : ∀ fr M,¬ Q .outgrown fr M) (h : AL P T0 ⟨n,[]⟩ false l.toArray Q l fr M) : AWr P T0 n lo (.region id l.toArray false) Q fr M:=fun m w0 G F a w hc=>by
 simp only [AL,Bool.false_eq_true,if_false] at h
 exact wpIn_region_lit (znf (zll hq) _ _ _ (zgj hd) (h w0 G F a w hc))
theorem zi4 {l : List Oper} {w0 : World} {G : Gh} {F : List Own} {a : Act} {w : World} (hB : Region.lexB .any l.toArray = true) (h : AL P T0 N true l.toArray Q l fr M) (hc : Con T0 N w0 G F fr M a w) :
  wpAny P .any l.toArray (cQ T0 N w0 G F Q) l.toArray.size (Array.replicate l.toArray.size false) a { w with drawn:=w.drawn + 1 }:=by
 have h' : AQ2 P T0 N l.toArray (fun fr'=>Q .normal fr' M) (fun o fr'=>zb2 .any l.toArray = true ∧ AE P T0 N l.toArray Q [o] fr' M) M l fr:=by simpa [AL] using h
 simp only [Region.lexB,Bool.and_eq_true] at hB
 rcases v6 _ _ h' with h1 | h1
 ·have h2:=u9 _ _ h1
  refine za6 (QA:=fun fr' => ∃ fr1,(∀ s,fr'.get s = fr1.get s) ∧ Q .normal fr1 M) (G0:=G) (F:=F) (w0:=w0) ?_ _ _ fr G _ _ (Gh.le.refl _) ⟨hc.st.drew,hc.fr,hc.size,hc.defers⟩ ?_
  ·rintro fr' G' a' w' hl ⟨fr1,he,hq⟩ hc'
   exact ⟨fr1,M,G',hq,hl,hc'.st,fun s A hs e=>hc'.fr s A hs (by rw [he s]; exact e),hc'.size,hc'.defers⟩
  ·have:=zdo (md:=.any) (QA:=fun fr' => ∃ fr1,(∀ s,fr'.get s = fr1.get s) ∧ Q .normal fr1 M) (fun fr fr' he h=>by obtain ⟨fr1,h1,h2⟩:=h; exact ⟨fr1,fun s=>(he s).trans (h1 s),h2⟩) l 0 (Array.replicate l.toArray.size false) fr (by simp) (by simpa using hB.2) h2
   simpa using this
 ·obtain ⟨hne,_,_,hlast,_⟩:=yp _ _ h1
  have h2:=zhq _ _ h1
  have hpos : l.toArray.size - 1 < l.toArray.size:=by
   have:=List.length_pos_iff.2 hne
   simp; omega
  have h3:=zdn (md:=.any) (fun o fr fr' he h=>by obtain ⟨fr1,h1,h2⟩:=h; exact ⟨fr1,fun s=>(he s).trans (h1 s),h2⟩) hlast l 0 (Array.replicate l.toArray.size false) fr (by simp) (by simp) (by simpa using hB.2) (y5 _) h2
  have e : l.toArray.size = l.length:=by simp
  rw [← e] at h3
  refine za5 (G0:=G) (F:=F) (w0:=w0) (Array.getElem?_eq_getElem hpos) ?_ _ _ fr G _ _ (Gh.le.refl _) ⟨hc.st.drew,hc.fr,hc.size,hc.defers⟩ h3
  rintro fr' G' a' w' hl ⟨o,ho,fr1,he,_,hq⟩ hc'
  have hoe : o = l.toArray[l.toArray.size - 1]:=Option.some.inj (ho.symm.trans (Array.getElem?_eq_getElem hpos))
  subst hoe
  exact q_ (fun _ _ _ q=>q.mono (fun _ _ _ h=>h) hl) _ _ _ (hq w0 G' F a' w' ⟨hc'.st,fun s A hs e=>hc'.fr s A hs (by rw [he s]; exact e),hc'.size,hc'.defers⟩)
theorem zb_ {n lo id : Nat} {l : List Oper} (hm : P.follows .mixedOrders = true) (hB : Region.lexB .any l.toArray = true) (hd : zef l = true) (hq : ∀ fr M,¬ Q .outgrown fr M) (h : AL P T0 ⟨n,[]⟩ true l.toArray Q l fr M) : AWr P T0 n lo (.region id l.toArray true) Q fr M:=fun m w0 G F a w hc =>
 wpIn_region_any hm (zqe (zll hq) (fun o ho=>zgj hd o (by simpa using ho)) _ _ _ _ (zi4 hB h hc))
def zxg {α : Type} (P : Program) (T0 : Gh) (lo : Nat) (el : α → AV) (full : List α) (Y X : List α → List Own) : Prop :=
 ∀ w0 pre x t G F w v,pre ++ x :: t = full → St T0 w0 G (Y pre ++ F) w → Rep G (el x) v → YieldAt Fence.wide 0 P lo #[v] w fun e w' =>
   ∃ G',Gh.le G G' ∧ ((e = .returned (.bool true) ∧ St T0 w0 G' (Y (pre ++ [x]) ++ F) w') ∨ (e = .returned (.bool false) ∧ St T0 w0 G' (X (pre ++ [x]) ++ F) w'))
structure IterC {α : Type} (P : Program) (f : FuncId) (caps : List AV) (Mi : List Own) (el : α → AV) (full : List α) : Prop where
 enter : ∀ args w,(callFunc f args).run P w = .ok (.enter f args) w
 calls : ∀ T0 w0 G F w us lo Y X,St T0 w0 G ((Mi ++ Y []) ++ F) w → AllRep G caps us → zxg P T0 lo el full Y X → Calls P f (.func (.yield lo) #[] #[] :: us).toArray w fun e w' =>
  ∃ v G',e = .returned v ∧ Gh.le G G' ∧ (St T0 w0 G' (Y full ++ F) w' ∨ ∃ pre t,pre ++ t = full ∧ St T0 w0 G' (X pre ++ F) w')
def itQ {α : Type} (full : List α) (Y X : List α → List Own) : ko
 |.normal,_,M=>List.Sublist (Y full) M ∨ ∃ pre t,pre ++ t = full ∧ List.Sublist (X pre) M
 |.ret,_,M=>List.Sublist (Y full) M ∨ ∃ pre t,pre ++ t = full ∧ List.Sublist (X pre) M
 |_,_,_=>False
theorem z0l {f : FuncId} {fn : Func} (hf : P.funcs[f]? = some fn) (hname : (fn.name == "runtime.NumGoroutine") = false) (hb : fn.body.isNone = false) (args : Array Value) (w : World) : (callFunc f args).run P w = .ok (.enter f args) w:=by
 have h1 : ¬ fn.name = "runtime.NumGoroutine":=by simpa using hname
 have h2 : ¬ fn.body = none:=fun e=>by rw [e] at hb; cases hb
 simp [callFunc,Sem.run_bind,hf,Result.andThen,h1,h2]
theorem zpc {α : Type} {n : Nat} {f : FuncId} {fn : Func} {c : Code} {caps : List AV} {Mi : List Own} {el : α → AV} {full : List α} (hf : P.funcs[f]? = some fn) (hb : fn.body = some c) (hname : (fn.name == "runtime.NumGoroutine") = false)
  (hN : fn.ntmps = n) (hA : Nat.ble (caps.length + 1) n = true) (hr : fn.results = #[]) (h : ∀ T0 lo Y X,zxg P T0 lo el full Y X → AW P T0 ⟨n,[]⟩ c (itQ full Y X) (zet 0 (yA lo :: caps)) (Mi ++ Y [])) : IterC P f caps Mi el full:=by
 refine ⟨z0l hf hname (by simp [hb]),fun T0 w0 G F w us lo Y X hs hrep hy=>calls_of_wp hf hb ?_⟩
 have hvs : AllRep G (yA lo :: caps) (.func (.yield lo) #[] #[] :: us):=⟨Rep.va _ _,hrep⟩
 have hlen:=hvs.len
 have hA' : caps.length + 1 ≤ n:=by simpa using hA
 simp only [List.length_cons] at hlen
 have hrel:=zbo (yA lo :: caps) (.func (.yield lo) #[] #[] :: us) 0 [] (List.replicate (fn.ntmps - (us.length + 1)) undef) rfl hvs
 refine wp_mono (h T0 lo Y X hy w0 G F _ w ⟨hs, ?_, ?_,rfl⟩) ?_
 ·have e : ((Value.func (.yield lo) #[] #[] :: us).toArray ++ Array.replicate (fn.ntmps - (Value.func (.yield lo) #[] #[] :: us).toArray.size) undef) = ([] ++ (Value.func (.yield lo) #[] #[] :: us) ++ List.replicate (fn.ntmps - (us.length + 1)) undef).toArray:=by simp
  simp only [e]; exact hrel
 ·simp; omega
 ·have fin : ∀ (a : Act) (w' : World) (fr' : Fr) (M' : List Own) (G' : Gh),(List.Sublist (Y full) M' ∨ ∃ pre t,pre ++ t = full ∧ List.Sublist (X pre) M') → Gh.le G G' → Con T0 ⟨n,[]⟩ w0 G' F fr' M' a w' →
    a.defers = [] ∧ ∃ v,(results fn a.tmps).run P w' = .ok v w' ∧ ∃ v' G',Ending.returned v = .returned v' ∧ Gh.le G G' ∧ (St T0 w0 G' (Y full ++ F) w' ∨ ∃ pre t,pre ++ t = full ∧ St T0 w0 G' (X pre ++ F) w'):=fun a w' fr' M' G' q hl hc =>
   ⟨hc.defers,_,results_none hr _ _ _,_,G',rfl,hl,q.imp (fun q=>hc.st.sub (q.append (List.Sublist.refl F))) (fun ⟨pre,t,e,q⟩=>⟨pre,t,e,hc.st.sub (q.append (List.Sublist.refl F))⟩)⟩
  rintro e a w' ⟨fr',M',G',q,hl,hc⟩
  cases e with
  |normal=>exact fin _ _ _ _ _ q hl hc
  |ret=>exact fin _ _ _ _ _ q hl hc
  |panic c=>exact q.elim
  |exit _=>exact q.elim
  |goto _=>exact q.elim
  |outgrown=>exact q.elim
def ALi (P : Program) (T0 : Gh) (N : Fz) (ops : Array Oper) (Q : ko) (l : List Oper) (fr : Fr) (M : List Own) : Prop :=
 ∀ w0 G F a w,Con T0 N w0 G F fr M a w → wpListIn (Fr1 none) 1 P ops (cQ T0 N w0 G F Q) l a w
theorem uj {id : Nat} {l : List Oper} (h : ALi P T0 N l.toArray Q l fr M) : AW P T0 N (.region id l.toArray false) Q fr M:=fun w0 G F a w hc =>
 wpIn_wide.1 (wpIn_region_lit (F:=Fr1 none) (n:=1) (h w0 G F a w hc))
theorem xu {ops : Array Oper} {F : Fence} {m : Nat} {Q Q' : Exit → Act → World → Prop} (hq : ∀ e a w,Q e a w → Q' e a w) : ∀ (l : List Oper) (a : Act) (w : World),wpListIn F m P ops Q l a w → wpListIn F m P ops Q' l a w
 |[],_,_,h=>hq _ _ _ h
 |o :: l,a,w,h=>by
  unfold wpListIn at h ⊢
  split
  ·rename_i hw; rw [if_pos hw] at h
   refine ⟨h.1, ?_⟩
   have h:=h.2
   generalize (o.semAt F.round a.eval).run P w = r at *
   cases r with
   |ok n w' =>
    cases n <;> simp only [Oper.uponIn] at h ⊢ <;>
     first
      |exact xu hq l _ _ h
      |exact ⟨h.1,CallsIn.mono h.2 (fun e w'' he=>by
        cases e
        ·exact xu hq l _ _ he
        ·exact hq _ _ _ he
        ·obtain ⟨x,y,z⟩:=he; exact ⟨x,y,hq _ _ _ z⟩)⟩
      |exact ⟨h.1,RoundIn.mono h.2 (fun e w'' he=>by
        cases e
        ·exact xu hq l _ _ he
        ·exact hq _ _ _ he
        ·obtain ⟨x,y,z⟩:=he; exact ⟨x,y,hq _ _ _ z⟩)⟩
      |exact ⟨h.1,RowsIn.mono h.2 (fun _ _ he=>xu hq l _ _ he)⟩
   |halt x w'=>cases x <;> simp only [Oper.uponIn] at h ⊢ <;> first | exact hq _ _ _ h | exact h
  ·rename_i hw; rw [if_neg hw] at h; exact ⟨h.1,xu hq l _ _ h.2⟩
theorem z84 {ops : Array Oper} {o : Oper} {rest : List Oper} {A : AV} {x : Nat} (hy : QY P T0 ops o fr M A) (hx : o.dst = some x) (hd : Nat.blt x N.n = true) (hn : zef [o] = true) (h : ALi P T0 N ops Q rest ((x,A) :: fr) M) : ALi P T0 N ops Q (o :: rest) fr M:=fun w0 G F a w hc=>by
 have hd' : ∀ y,o.dst = some y → y < N.n:=fun y hy'=>by rw [hx] at hy'; obtain rfl:=Option.some.inj hy'; simpa using hd
 have hput : ∀ A : AV,fr.put o.dst A = (x,A) :: fr:=fun A=>by rw [hx]; rfl
 obtain ⟨h1,h2⟩:=hy w0 G F a w hc.st (fun s A _ e=>hc.fr s A trivial e)
 unfold wpListIn
 by_cases hw : Region.wanted o (yielded ops a.tmps) = true
 ·rw [if_pos hw]
  refine z3k (zgj hn o (by simp)) (h1 hw _ _ fun G' u w' hl hs hu => ?_)
  have hc':=hc.put hl hs hd' hu
  rw [hput] at hc'
  exact xu (fun _ _ _ q=>q.mono (fun _ _ _ h=>h) hl) _ _ _ (h w0 G' F _ w' hc')
 ·rw [if_neg hw]
  have hc':=hc.put (Gh.le.refl _) hc.st hd' (h2 (by simpa using hw))
  rw [hput] at hc'
  exact ⟨fun _ _=>trivial,h w0 G F _ w hc'⟩
def qaw (ops : Array Oper) (o : Oper) (fr : Fr) : Prop := ∀ G (a : Act),frRel G fr a.tmps → Region.wanted o (yielded ops a.tmps) = true
theorem zdp {ops : Array Oper} {o : Oper} (hg : o.guard = none) : qaw ops o fr:=fun _ _ _=>by simp [Region.wanted,hg]
theorem zoi {ops : Array Oper} {o : Oper} {g t : Nat} {want k c : Bool} (hg : o.guard = some (g,want)) (ht : (ops[g]?).bind (·.dst) = some t) (hs : u_ fr t k c) (hc : (k && (c == want)) = true) : qaw ops o fr:=fun G a h=>by
 rw [zal hg ht hs (fun s A _ e=>h s A trivial e),hc]
theorem za2 {α : Type} {el : α → AV} {full : List α} {Y X : List α → List Own} {lo s t d : Nat} {ops : Array Oper} {o : Oper} {rest : List Oper} {ts : Array TypeId} {A : AV} (pre tl : List α) (x : α) (Mi : List Own) (hop : o.op = .call { callee:=.value (.tmp s),args := #[.tmp t],argTypes:=ts }) (hx : o.dst = some d) (hd : Nat.blt d N.n = true)
  (hw : qaw ops o fr) (hs : fr.get s = some (yA lo)) (ht : fr.get t = some A) (hA : Sub A (el x)) (hy : zxg P T0 lo el full Y X) (hf : pre ++ x :: tl = full)
  (h1 : ALi P T0 N ops Q rest ((d,B true) :: fr) (Mi ++ Y (pre ++ [x]))) (h2 : ALi P T0 N ops Q rest ((d,B false) :: fr) (Mi ++ X (pre ++ [x]))) : ALi P T0 N ops Q (o :: rest) fr (Mi ++ Y pre):=fun w0 G F a w hc=>by
 have es : a.eval (.tmp s) = .func (.yield lo) #[] #[]:=(hc.slot hs).eq
 have et:=hA _ _ (hc.slot ht)
 have pm : ∀ Z : List Own,List.Perm (Z ++ (Mi ++ F)) ((Mi ++ Z) ++ F):=fun Z=>by
  rw [← List.append_assoc]; exact (List.perm_append_comm).append_right F
 obtain ⟨fn,tmps,assign,body,e1,e2⟩:=hy w0 pre x tl G (Mi ++ F) w _ hf (hc.st.perm (pm _)) et
 have hd' : ∀ y,o.dst = some y → y < N.n:=fun y hy'=>by rw [hx] at hy'; obtain rfl:=Option.some.inj hy'; simpa using hd
 have hput : ∀ A : AV,fr.put o.dst A = (d,A) :: fr:=fun A=>by rw [hx]; rfl
 have er : (execOp a.eval o).run P w = .ok (.round lo fn tmps assign body) w:=by
  simp only [execOp,hop,resolve,es]
  simpa [invoke,Deferred.ofValue,Sem.run_bind,Result.andThen] using e1
 unfold wpListIn
 rw [if_pos (hw G a hc.fr)]
 unfold Oper.wpIn
 refine ⟨fun _ _=>trivial, ?_⟩
 rw [Oper.semAt_plain _ _ _ (by rw [hop]; intro c hc'; cases hc'),er]
 refine ⟨fun e=>(by cases e), ?_⟩
 refine RoundIn.mono (R:=_) (by exact e2) ?_
 rintro e w' ⟨G',hl,⟨rfl,hst⟩ | ⟨rfl,hst⟩⟩
 ·have hc':=hc.put (M':=Mi ++ Y (pre ++ [x])) hl (hst.perm (pm _).symm) hd' (Rep.va G' (.bool true))
  rw [hput] at hc'
  exact xu (fun _ _ _ q=>q.mono (fun _ _ _ h=>h) hl) _ _ _ (h1 w0 G' F _ w' hc')
 ·have hc':=hc.put (M':=Mi ++ X (pre ++ [x])) hl (hst.perm (pm _).symm) hd' (Rep.va G' (.bool false))
  rw [hput] at hc'
  exact xu (fun _ _ _ q=>q.mono (fun _ _ _ h=>h) hl) _ _ _ (h2 w0 G' F _ w' hc')
theorem zht {ops : Array Oper} (h : Q .normal fr M) : ALi P T0 N ops Q [] fr M:=fun _ _ _ _ _ hc=>⟨fr,M,_,h,Gh.le.refl _,hc⟩
theorem zhp {n lo id : Nat} {c : Code} (h : AWr P T0 n lo c (zg id Q) fr M) : AWr P T0 n lo (.block id c) Q fr M:=fun m w0 G F a w hc =>
 wpIn_block (wpIn_mono (h m w0 G F a w hc) fun e a' w' q=>by
  obtain ⟨fr',M',G',q1,q2,q3⟩:=q
  cases e with
  |exit id' =>
   by_cases hi : id' = id
   ·subst hi
    simp only [zg,Nat.beq_refl,cond_true] at q1
    simp only [Exit.inBlock,if_true]
    exact ⟨fr',M',G',q1,q2,q3⟩
   ·have : Nat.beq id' id = false:=zat hi
    simp only [zg,this,cond_false] at q1
    simp only [Exit.inBlock,if_neg hi]
    exact ⟨fr',M',G',q1,q2,q3⟩
  |_=>exact ⟨fr',M',G',q1,q2,q3⟩)
theorem zqv {next : Fr → List Own → Prop} (h : ∀ fr M,¬ Q .outgrown fr M) : ∀ fr M,¬ zz next Q .outgrown fr M:=h
theorem zqw {id : Nat} (h : ∀ fr M,¬ Q .outgrown fr M) : ∀ fr M,¬ zg id Q .outgrown fr M:=h
end
end
section
open Go Go.RowKit
section
variable {P : Program} {T0 : Gh} {N : Fz} {Q : ko} {fr : Fr} {M : List Own}
def zti (p q : Prop) (A X : List Own) : ko
 |.normal,_,M=>p ∧ List.Sublist A M
 |.ret,_,M=>q ∧ List.Sublist X M
 |_,_,_=>False
def zge (p : Prop) : Own where
 foot:=none
 holds:=fun _ _=>p
 mono:=fun _ h=>h
 loc:=fun _ h=>h
theorem St.pure {G : Gh} {w0 w : World} {p : Prop} (h : St T0 w0 G M w) (hp : p) : St T0 w0 G (zge p :: M) w :=
 ⟨h.below,h.tab,h.imm,fun m hm=>(List.mem_cons.1 hm).elim (fun e=>by subst e; exact hp) (h.own m),fun m hm b hb=>(List.mem_cons.1 hm).elim (fun e=>by subst e; cases hb) (fun hm=>h.foot m hm b hb),by simpa [zge] using h.sep⟩
abbrev zne (D : Nat) : Deferred:={ target:=.collected D,args := #[] }
abbrev zky (D : Nat) : Own:=zgi D (.deferred (some []))
theorem zxu {α : Type} {el : α → AV} {full : List α} {g p : Nat} {assign body : Code} {R : Exit → Act → World → Prop} {a : Act} {w w0 : World} {G : Gh} {F Mr : List Own} {f : FuncId} {caps : List AV} (p1 p2 : List α → Prop) (Y X : List α → List Own)
  (Mi : List Own) (h1 : p1 []) (hc : Con T0 N w0 G F fr (Y [] ++ (Mi ++ Mr)) a w) (hg : fr.get g = some (fnA f caps)) (it : IterC P f caps Mi el full) (hp : Nat.blt p N.n = true)
  (hbody : ∀ lo pre x t,pre ++ x :: t = full → p1 pre → AWr P T0 N.n lo assign (zz (fun fr' M'=>AWr P T0 N.n lo body (zti (p1 (pre ++ [x])) (p2 (pre ++ [x])) (Y (pre ++ [x])) (X (pre ++ [x]))) fr' M') fun _ _ _=>False) ((p,el x) :: fr) (Y pre))
  (hdone : ∀ D a' w' G',p1 full → Gh.le G G' → Con T0 ⟨N.n,zne D :: N.D⟩ w0 G' F fr (zky D :: (Y full ++ Mr)) a' w' → R .normal a' w')
  (hstop : ∀ D a' w' G' pre t,pre ++ t = full → p2 pre → Gh.le G G' → Con T0 ⟨N.n,zne D :: N.D⟩ w0 G' F fr (zky D :: (X pre ++ Mr)) a' w' → R .ret a' w') :
  (Code.rangeFunc (.tmp g) #[p] assign body).wp P R a w:=by
 obtain ⟨us,eg,hus⟩:=(hc.slot hg).fn
 refine wpIn_wide.1 (wpIn_rangeFunc (F:=Fence.wide) (n:=1) fun fn _ => ?_)
 obtain ⟨rec,hrec⟩ : ∃ rec : LoopState → Option Code → Loop,rec = fun st pe=>{ state:=st,pending:=pe,fn,tmps:=a.tmps,params := #[p],assign,body,defers:=w.heap.size }:=⟨_,rfl⟩
 have st0 : St T0 w0 G (zgi (w.heap.size + 1) (.loop (rec .ready none)) :: zky w.heap.size :: ((Y [] ++ (Mi ++ Mr)) ++ F)) ((w.alloc (.deferred (some []))).alloc (.loop (rec .ready none))):=by
  have s1:=hc.st.alloc (.deferred (some [])) (zky w.heap.size) rfl (heap_alloc_new w _)
  have e : (w.alloc (.deferred (some []))).heap.size = w.heap.size + 1:=by simp
  refine s1.alloc (.loop (rec .ready none)) (zgi (w.heap.size + 1) (.loop (rec .ready none))) (by rw [e]; rfl) ?_
  have:=heap_alloc_new (w.alloc (.deferred (some []))) (.loop (rec .ready none))
  rw [e] at this; exact this
 refine ⟨w.heap.size + 1,[zne w.heap.size],(w.alloc (.deferred (some []))).alloc (.loop (rec .ready none)),{ target:=.fn (.func f) us.toArray,args := #[.func (.yield (w.heap.size + 1)) #[] #[]] },(w.alloc (.deferred (some []))).alloc (.loop (rec .ready none)),f,(.func (.yield (w.heap.size + 1)) #[] #[] :: us).toArray,(w.alloc (.deferred (some []))).alloc (.loop (rec .ready none)), ?_, ?_,fun _ _=>trivial, ?_,fun e=>(by cases e), ?_⟩
 ·rw [hrec]; exact run_enterLoop_outer _ _ _ _ _
 ·simp only [resolve,eg]
  simp [go_sem]
 ·simp [invoke,go_sem,it.enter]
 ·generalize hlo : w.heap.size + 1 = lo at *
  generalize hD : w.heap.size = D at *
  generalize (w.alloc (.deferred (some []))).alloc (.loop (rec .ready none)) = w1 at *
  have stG : St G w0 G ((Mi ++ (zgi lo (.loop (rec .ready none)) :: zge (p1 []) :: Y [])) ++ (zky D :: (Mr ++ F))) w1:=by
   have sp : St G w0 G (zge (p1 []) :: zgi lo (.loop (rec .ready none)) :: zky D :: ((Y [] ++ (Mi ++ Mr)) ++ F)) w1:=(st0.tab' (Gh.le.refl G)).pure h1
   refine sp.perm (List.Perm.trans ?_ (List.Perm.swap _ _ _))
   refine (List.perm_middle.append_right _).trans ?_
   refine List.Perm.cons _ ((List.perm_middle.append_right _).trans ?_)
   refine List.Perm.cons _ (List.perm_middle.trans (List.Perm.cons _ ?_))
   rw [← List.append_assoc,← List.append_assoc]
   exact (List.perm_append_comm.append_right Mr).append_right F
  have key:=it.calls G w0 G (zky D :: (Mr ++ F)) w1 us lo (fun pre=>zgi lo (.loop (rec .ready none)) :: zge (p1 pre) :: Y pre) (fun pre=>zgi lo (.loop (rec .done (some .ret))) :: zge (p2 pre) :: X pre) stG hus ?_
  ·refine callsIn_wide.2 (Calls.mono key ?_)
   rintro e w' ⟨v,G',rfl,hl,st | ⟨pre,t,hpre,st⟩⟩
   ·have st2 : St T0 w0 G' (zgi lo (.loop (rec .ready none)) :: ((zky D :: (Y full ++ Mr)) ++ F)) w':=by
     refine ((st.tab' (hc.st.tab.trans hl)).sub (M':=zgi lo (.loop (rec .ready none)) :: (Y full ++ (zky D :: (Mr ++ F)))) (List.Sublist.cons_cons _ (List.sublist_cons_self _ _))).perm ?_
     simp only [List.cons_append,List.append_assoc]
     exact List.Perm.cons _ (List.perm_middle).symm
    have hpp : p1 full:=st.own (zge _) (by simp)
    have hh : w'.heap[lo]? = some (.loop (rec .ready none)):=st2.own _ List.mem_cons_self
    obtain ⟨W4,re,st4⟩ : ∃ W4,(Instr.endLoop lo).run P w' = .ok (none) W4 ∧ St T0 w0 G' ((zky D :: (Y full ++ Mr)) ++ F) W4:=by
     have re:=run_endLoop (P:=P) hh (by rw [hrec]; simp)
     have st4:=(st2.turn (o':=.loop { rec .ready none with state:=.exhausted })).sub (List.sublist_cons_self _ _)
     subst hrec
     exact ⟨_,re,st4⟩
    refine ⟨none,_,re,hdone D _ _ G' hpp hl ⟨st4,frOn.gmono hl hc.fr,hc.size, ?_⟩⟩
    simp [hc.defers]
   ·have st2 : St T0 w0 G' (zgi lo (.loop (rec .done (some .ret))) :: ((zky D :: (X pre ++ Mr)) ++ F)) w':=by
     refine ((st.tab' (hc.st.tab.trans hl)).sub (M':=zgi lo (.loop (rec .done (some .ret))) :: (X pre ++ (zky D :: (Mr ++ F)))) (List.Sublist.cons_cons _ (List.sublist_cons_self _ _))).perm ?_
     simp only [List.cons_append,List.append_assoc]
     exact List.Perm.cons _ (List.perm_middle).symm
    have hpp : p2 pre:=st.own (zge _) (by simp)
    have hh : w'.heap[lo]? = some (.loop (rec .done (some .ret))):=st2.own _ List.mem_cons_self
    obtain ⟨W4,re,st4⟩ : ∃ W4,(Instr.endLoop lo).run P w' = .ok (some .ret) W4 ∧ St T0 w0 G' ((zky D :: (X pre ++ Mr)) ++ F) W4:=by
     have re:=run_endLoop (P:=P) hh (by rw [hrec]; simp)
     have st4:=(st2.turn (o':=.loop { rec .done (some .ret) with state:=.exhausted })).sub (List.sublist_cons_self _ _)
     subst hrec
     exact ⟨_,re,st4⟩
    refine ⟨some .ret,_,re,wpIn_ret (hstop D _ _ G' pre t hpre hpp hl ⟨st4,frOn.gmono hl hc.fr,hc.size, ?_⟩)⟩
    simp [hc.defers]
  ·intro w0' pre x t G1 F1 W v hpre hst hv
   have hh : W.heap[lo]? = some (.loop (rec .ready none)):=hst.own (zgi lo _) (by simp)
   have hy:=run_yield (P:=P) (args := #[v]) hh (by rw [hrec]; rfl)
   refine ⟨_,_,_,_,hy, ?_⟩
   have hGl : Gh.le G G1:=hst.tab
   have hpre1 : p1 pre:=hst.own (zge _) (by simp)
   have hst1 : St T0 w0' G1 (Y pre ++ (zgi lo (.loop (rec .ready none)) :: F1)) W :=
    ((hst.tab' (hc.st.tab.trans hGl)).sub (M':=zgi lo (.loop (rec .ready none)) :: (Y pre ++ F1)) (List.Sublist.cons_cons _ (List.sublist_cons_self _ _))).perm List.perm_middle
   refine roundIn_of_wpIn (F:=Fence.wide) (n:=0) trivial ?_
   have ea : (rec .ready none).assign = assign:=by rw [hrec]
   have eb : (rec .ready none).body = body:=by rw [hrec]
   have et : (((rec .ready none).params.zip #[v]).foldl (fun tmps (t,a)=>tmps.setIfInBounds t a) (rec .ready none).tmps) = a.tmps.setIfInBounds p v:=by rw [hrec]; simp
   rw [ea,eb,et]
   have hpn : p < N.n:=by simpa using hp
   have hput:=frRel.put (d:=some p) (frOn.gmono hGl hc.fr) (by rintro y hy; obtain rfl:=Option.some.inj hy; rw [hc.size]; exact hpn) hv
   refine wpIn_mono (hbody lo pre x t hpre hpre1 0 w0' G1 _ { tmps:=a.tmps.setIfInBounds p v,defers:=[] } _ ⟨hst1,hput,by simp [hc.size],rfl⟩) ?_
   rintro e a2 W2 ⟨fr2,M2,G2,p1,p2,p3⟩
   cases e with
   |panic c=>exact p1.elim
   |exit _=>exact p1.elim
   |goto _=>exact p1.elim
   |outgrown=>exact p1.elim
   |ret=>exact p1.elim
   |normal =>
   have hh2 : W2.heap[lo]? = some (.loop (rec .ready none)):=p3.st.own (zgi lo _) (by simp)
   refine ⟨_,run_beginRound hh2 (by rw [hrec]), ?_⟩
   have hst2 : St T0 w0' G2 (M2 ++ (zgi lo (.loop { rec .ready none with state:=.busy }) :: F1)) (W2.putObj lo (.loop { rec .ready none with state:=.busy })) :=
    ((p3.st.perm (List.perm_middle).symm).turn (o':=.loop { rec .ready none with state:=.busy })).perm List.perm_middle
   refine wpIn_mono (p1 0 w0' G2 _ a2 _ ⟨hst2,p3.fr,p3.size,p3.defers⟩) ?_
   rintro e a3 W3 ⟨fr3,M3,G3,q1,q2,q3⟩
   have fin : ∀ (q : Prop),q → ∀ (Z : List Own),List.Sublist Z M3 → ∀ jump : Option Code,∃ W4,(Instr.endRound lo jump).run P W3 = .ok (.bool jump.isNone) W4 ∧ St G w0' G3 ((zgi lo (.loop (rec (if jump.isNone then .ready else .done) jump)) :: zge q :: Z) ++ F1) W4:=fun q hq Z hz jump=>by
    have s1 : St G w0' G3 (zgi lo (.loop { rec .ready none with state:=.busy }) :: (Z ++ F1)) W3 :=
     (((q3.st.sub (hz.append (List.Sublist.refl _))).tab' ((hGl.trans p2).trans q2))).perm (List.perm_middle).symm
    have s2 : St G w0' G3 (zgi lo (.loop { rec .ready none with state:=.busy }) :: (zge q :: (Z ++ F1))) W3:=(s1.pure hq).perm (List.Perm.swap _ _ _)
    have hb : W3.heap[lo]? = some (.loop { rec .ready none with state:=.busy }):=s1.own _ List.mem_cons_self
    have re:=run_endRound (P:=P) jump hb
    refine ⟨_,re, ?_⟩
    have:=s2.turn (o':=.loop { ({ rec .ready none with state:=.busy } : Loop) with state:=if jump.isNone then .ready else .done,pending:=jump })
    rw [hrec] at this ⊢
    exact this
   cases e with
   |normal=>obtain ⟨W4,r1,r2⟩:=fin _ q1.1 _ q1.2 none; exact ⟨_,W4,r1,G3,p2.trans q2,.inl ⟨rfl,by simpa using r2⟩⟩
   |ret=>obtain ⟨W4,r1,r2⟩:=fin _ q1.1 _ q1.2 (some .ret); exact ⟨_,W4,r1,G3,p2.trans q2,.inr ⟨rfl,by simpa using r2⟩⟩
   |panic c=>exact q1.elim
   |exit _=>exact q1.elim
   |goto _=>exact q1.elim
   |outgrown=>exact q1.elim
abbrev zd8:=List Deferred → ko
def mQ (T0 : Gh) (n : Nat) (w0 : World) (G : Gh) (F : List Own) (Q : zd8) : Exit → Act → World → Prop:=fun e a w => ∃ D fr M G',Q D e fr M ∧ Gh.le G G' ∧ Con T0 ⟨n,D⟩ w0 G' F fr M a w
def AWM (P : Program) (T0 : Gh) (n : Nat) (D : List Deferred) (c : Code) (Q : zd8) (fr : Fr) (M : List Own) : Prop := ∀ w0 G F a w,Con T0 ⟨n,D⟩ w0 G F fr M a w → c.wp P (mQ T0 n w0 G F Q) a w
theorem mQ.mono {n : Nat} {w0 : World} {G0 G1 : Gh} {F : List Own} {Q Q' : zd8} (h : ∀ D e fr M,Q D e fr M → Q' D e fr M) (hl : Gh.le G0 G1) {e : Exit} {a : Act} {w : World} (q : mQ T0 n w0 G1 F Q e a w) : mQ T0 n w0 G0 F Q' e a w :=
 let ⟨D,fr,M,G,q1,q2,q3⟩:=q; ⟨D,fr,M,G,h _ _ _ _ q1,hl.trans q2,q3⟩
theorem z2m {n : Nat} {D : List Deferred} {c : Code} {Q : zd8} (h : AW P T0 ⟨n,D⟩ c (Q D) fr M) : AWM P T0 n D c Q fr M:=fun w0 G F a w hc =>
 wp_mono (h w0 G F a w hc) fun _ _ _ ⟨fr',M',G',q1,q2,q3⟩=>⟨D,fr',M',G',q1,q2,q3⟩
theorem zcb {n : Nat} {D : List Deferred} {x y : Code} {Q : zd8} (h : AW P T0 ⟨n,D⟩ x (zz (fun fr' M'=>AWM P T0 n D y Q fr' M') (Q D)) fr M) : AWM P T0 n D (.seq x y) Q fr M:=fun w0 G F a w hc =>
 wp_seq (wp_mono (h w0 G F a w hc) fun e a' w' q=>by
  obtain ⟨fr',M',G',q1,q2,q3⟩:=q
  cases e with
  |normal=>exact wp_mono (q1 w0 G' F a' w' q3) fun _ _ _ q=>q.mono (fun _ _ _ _ h=>h) q2
  |_=>exact ⟨D,fr',M',G',q1,q2,q3⟩)
def z2x (next : List Deferred → Fr → List Own → Prop) (Q : zd8) : zd8
 |D,.normal,fr,M=>next D fr M
 |D,e,fr,M=>Q D e fr M
theorem zp_ {n : Nat} {D : List Deferred} {x y : Code} {Q : zd8} (h : AWM P T0 n D x (z2x (fun D' fr' M'=>AWM P T0 n D' y Q fr' M') Q) fr M) : AWM P T0 n D (.seq x y) Q fr M:=fun w0 G F a w hc =>
 wp_seq (wp_mono (h w0 G F a w hc) fun e a' w' q=>by
  obtain ⟨D',fr',M',G',q1,q2,q3⟩:=q
  cases e with
  |normal=>exact wp_mono (q1 w0 G' F a' w' q3) fun _ _ _ q=>q.mono (fun _ _ _ _ h=>h) q2
  |_=>exact ⟨D',fr',M',G',q1,q2,q3⟩)
theorem zml {n id : Nat} {D : List Deferred} {c : Code} {Q : zd8} (h : AWM P T0 n D c (fun D'=>zg id (Q D')) fr M) : AWM P T0 n D (.block id c) Q fr M:=fun w0 G F a w hc =>
 wp_block (wp_mono (h w0 G F a w hc) fun e a' w' q=>by
  obtain ⟨D',fr',M',G',q1,q2,q3⟩:=q
  cases e with
  |exit id' =>
   by_cases hi : id' = id
   ·subst hi
    simp only [zg,Nat.beq_refl,cond_true] at q1
    simp only [Exit.inBlock,if_true]
    exact ⟨D',fr',M',G',q1,q2,q3⟩
   ·have : Nat.beq id' id = false:=zat hi
    simp only [zg,this,cond_false] at q1
    simp only [Exit.inBlock,if_neg hi]
    exact ⟨D',fr',M',G',q1,q2,q3⟩
  |_=>exact ⟨D',fr',M',G',q1,q2,q3⟩)
theorem zmk {α : Type} {el : α → AV} {full : List α} {n g p : Nat} {D : List Deferred} {assign body : Code} {Q : zd8} {f : FuncId} {caps : List AV} (p1 p2 : List α → Prop) (Y X : List α → List Own) (Mi Mr : List Own) (h1 : p1 [])
  (hM : List.Perm (Y [] ++ (Mi ++ Mr)) M) (hg : fr.get g = some (fnA f caps)) (it : IterC P f caps Mi el full) (hp : Nat.blt p n = true)
  (hbody : ∀ lo pre x t,pre ++ x :: t = full → p1 pre → AWr P T0 n lo assign (zz (fun fr' M'=>AWr P T0 n lo body (zti (p1 (pre ++ [x])) (p2 (pre ++ [x])) (Y (pre ++ [x])) (X (pre ++ [x]))) fr' M') fun _ _ _=>False) ((p,el x) :: fr) (Y pre))
  (hdone : ∀ d,p1 full → Q (zne d :: D) .normal fr (zky d :: (Y full ++ Mr))) (hstop : ∀ d pre t,pre ++ t = full → p2 pre → Q (zne d :: D) .ret fr (zky d :: (X pre ++ Mr))) : AWM P T0 n D (.rangeFunc (.tmp g) #[p] assign body) Q fr M:=fun w0 G F a w hc =>
 zxu (N:=⟨n,D⟩) p1 p2 Y X Mi h1 ⟨hc.st.perm (hM.append_right F),hc.fr,hc.size,hc.defers⟩ hg it hp hbody
  (fun d _ _ G' hpp hl hc'=>⟨_,fr,_,G',hdone d hpp,hl,hc'⟩) (fun d _ _ G' pre t hpre hpp hl hc'=>⟨_,fr,_,G',hstop d pre t hpre hpp,hl,hc'⟩)
def qaz (P : Program) (T0 : Gh) (fn : Func) (K : AV → List Own → Prop) : zd8:=fun D e fr M=>(e = .normal ∨ e = .ret) ∧ ∃ A M' M1,((D = [] ∧ M = M1) ∨ ∃ d,D = [zne d] ∧ M = zky d :: M1) ∧ zi3 P T0 fn fr M1 A ∧ List.Sublist M' M1 ∧ K A M'
theorem zmq {n : Nat} {f : FuncId} {fn : Func} {c : Code} {As : List AV} {K : AV → List Own → Prop} (hf : P.funcs[f]? = some fn) (hb : fn.body = some c) (hname : (fn.name == "runtime.NumGoroutine") = false)
  (hN : fn.ntmps = n) (hA : Nat.ble As.length n = true) (h : AWM P T0 n [] c (qaz P T0 fn K) (zet 0 As) M) : AF P T0 f As M K:=by
 refine ⟨⟨fn,hf,hname,by simp [hb]⟩,fun w0 G F w vs hs hr=>callsIn_wide.1 (callsIn_of_wp_marks (F:=Fence.wide) (n:=1) hf hb trivial (wpIn_wide.2 ?_) rfl)⟩
 have hlen:=hr.len
 have hA' : As.length ≤ n:=by simpa using hA
 have hrel:=zbo As vs 0 [] (List.replicate (fn.ntmps - vs.length) undef) rfl hr
 refine wp_mono (h w0 G F _ w ⟨hs, ?_, ?_,rfl⟩) ?_
 ·have e : (vs.toArray ++ Array.replicate (fn.ntmps - vs.toArray.size) undef) = ([] ++ vs ++ List.replicate (fn.ntmps - vs.length) undef).toArray:=by simp
  simp only [e]; exact hrel
 ·simp; omega
 ·rintro e a w' ⟨D,fr',M',G',⟨he,A,M2,M1,hD,h1,hsub,h2⟩,hl,hc⟩
  have fin : LeavesInM Fence.wide 1 P fn a.tmps (fun e w' =>
    (∃ u A M' G',e = .returned u ∧ K A M' ∧ Rep G' A u ∧ Gh.le G G' ∧ St T0 w0 G' (M' ++ F) w') ∨ (∃ c M' G',e = .panicked c ∧ False ∧ Gh.le G G' ∧ St T0 w0 G' (M' ++ F) w')) a.defers .returning w':=by
   rcases hD with ⟨rfl,rfl⟩ | ⟨d,rfl,rfl⟩
   ·rw [hc.defers]
    obtain ⟨u,h3,h4⟩:=h1 w0 G' F a.tmps w' hc.st hc.fr
    exact ⟨u,h3,.inl ⟨u,A,M2,G',rfl,h2,h4,hl,hc.st.sub (hsub.append (List.Sublist.refl F))⟩⟩
   ·rw [hc.defers]
    have hd : w'.heap[d]? = some (.deferred (some [])):=hc.st.own (zky d) (by simp)
    have hst : St T0 w0 G' (M1 ++ F) (w'.putObj d (.deferred none)):=(St.turn (M:=M1 ++ F) (o':=.deferred none) hc.st).sub (List.sublist_cons_self _ _)
    obtain ⟨u,h3,h4⟩:=h1 w0 G' F a.tmps _ hst hc.fr
    exact ⟨by simp,.inl ⟨d,_,rfl,run_takeDeferred hd,u,h3,.inl ⟨u,A,M2,G',rfl,h2,h4,hl,hst.sub (hsub.append (List.Sublist.refl F))⟩⟩⟩
  rcases he with rfl | rfl
  ·exact fin
  ·exact fin
theorem zcj {fn : Func} {K : AV → List Own → Prop} {A : AV} {M' : List Own} {d : Nat} (h : zi3 P T0 fn fr M A) (hs : List.Sublist M' M) (hk : K A M') : qaz P T0 fn K [zne d] .ret fr (zky d :: M):=⟨.inr rfl,A,M',M,.inr ⟨d,rfl,rfl⟩,h,hs,hk⟩
theorem ud {p q : Prop} {A X : List Own} : ∀ fr M,¬ zti p q A X .outgrown fr M:=fun _ _ h=>h
theorem zij : ∀ (fr : Fr) (M : List Own),¬ (fun _ _ _=>False : ko) .outgrown fr M:=fun _ _ h=>h
end
end
end Go.Proofs.YtgfmjmfphmjdkaaGreatDoor
