/- Several texts in one: see the comment ahead of each. No condition. -/
import Derived.Test.YtgfmjmfphmjdkaaGreatDoorR1ZA
import Derived.Laws.CopyRow
import Derived.Lib.MinMax
import Derived.Lib.DecodeN
import Derived.Test.YtgfmjmfphmjdkaaGreatDoorProg
import Derived.Laws.Runes
import Derived.Laws.BytesString
import Derived.Scope
import Derived.MapKept
import Derived.WalkSmall
set_option linter.unusedSimpArgs false
set_option linter.unusedVariables false
set_option linter.unusedSectionVars false
namespace Go.Proofs.YtgfmjmfphmjdkaaGreatDoor
set_option maxHeartbeats 4000000
section
open Go Go.RowKit
section
variable {P : Program} {T0 : Gh} {N : Fz} {Q : kw} {fr : Fr} {M : List Own} {ops : Array Oper} {o : Oper}
def xi (T0 : Gh) (fr : Fr) (x : Operand) (k : IntKind) (n : Nat) : Prop:=Opd T0 fr x (vA (.int k (n : Int)))
theorem ogn {x : Operand} {c : Bool} {k : IntKind} {n : Nat} (h : fr.opd x = some (gvA c (vA (.int k (n : Int))))) (hc : c = true) : xi T0 fr x k n:=og h hc
theorem qbt {x : Operand} {k : IntKind} {n : Nat} {A : AV} (h : fr.opd x = some A) (e : A = vA (.int k (OfNat.ofNat n))) : xi T0 fr x k (OfNat.ofNat n):=odl h e
theorem odn {x : Operand} {k : IntKind} {n : Nat} (h : fr.opd x = some (vA (.int k (n : Int)))) : xi T0 fr x k n:=od h
theorem z21 {t t' : TypeId} {x y : Operand} {k : IntKind} {a b : Nat} (ho : o.op = .binOp .add t x y t') (hx : xi T0 fr x k a) (hy : xi T0 fr y k b) (hf : Fit k ((a + b : Nat) : Int)) : AY P T0 ops o fr M (vA (.int k ((a + b : Nat) : Int))):=z6n ho hx hy hf
theorem z2z {t t' : TypeId} {x y : Operand} {k : IntKind} {a b : Nat} (ho : o.op = .binOp .mul t x y t') (hx : xi T0 fr x k a) (hy : xi T0 fr y k b) (hf : Fit k ((a * b : Nat) : Int)) : AY P T0 ops o fr M (vA (.int k ((a * b : Nat) : Int))):=z6l ho hx hy hf
theorem z2w {t t' : TypeId} {x y : Operand} {k : IntKind} {a b : Nat} (ho : o.op = .binOp .sub t x y t') (hx : xi T0 fr x k a) (hy : xi T0 fr y k b) (hb : b ≤ a) (hf : Fit k ((a - b : Nat) : Int)) : AY P T0 ops o fr M (vA (.int k ((a - b : Nat) : Int))):=z6h ho hx hy hb hf
theorem z2y {t t' : TypeId} {x y : Operand} {k : IntKind} {a b : Nat} (ho : o.op = .binOp .quo t x y t') (hx : xi T0 fr x k a) (hy : xi T0 fr y k b) (hb : 0 < b) (hf : Fit k ((a / b : Nat) : Int)) : AY P T0 ops o fr M (vA (.int k ((a / b : Nat) : Int))):=z6j ho hx hy hb hf
theorem z2x {t t' : TypeId} {x y : Operand} {k : IntKind} {a b : Nat} (ho : o.op = .binOp .rem t x y t') (hx : xi T0 fr x k a) (hy : xi T0 fr y k b) (hb : 0 < b) : AY P T0 ops o fr M (vA (.int k ((a % b : Nat) : Int))):=z6i ho hx hy hb
def EqK (P : Program) (t : TypeId) (A A' : AV) (b : Bool) : Prop := ∀ (T0 : Gh) (fr : Fr) (M : List Own) (ops : Array Oper) (o : Oper) (x y : Operand) (t' : TypeId),Opd T0 fr x A → Opd T0 fr y A' →
 (o.op = .binOp .eql t x y t' → AY P T0 ops o fr M (B b)) ∧ (o.op = .binOp .neq t x y t' → AY P T0 ops o fr M (B (!b)))
theorem z0v {t t' : TypeId} {x y : Operand} {A A' : AV} {b : Bool} (ho : o.op = .binOp .eql t x y t') (hx : Opd T0 fr x A) (hy : Opd T0 fr y A') (hk : EqK P t A A' b) : AY P T0 ops o fr M (B b):=(hk T0 fr M ops o x y t' hx hy).1 ho
theorem ze6 {t t' : TypeId} {x y : Operand} {A A' : AV} {b : Bool} (ho : o.op = .binOp .neq t x y t') (hx : Opd T0 fr x A) (hy : Opd T0 fr y A') (hk : EqK P t A A' b) : AY P T0 ops o fr M (B (!b)):=(hk T0 fr M ops o x y t' hx hy).2 ho
theorem z9a {t : TypeId} {k : IntKind} {a b : Int} : EqK P t (vA (.int k a)) (vA (.int k b)) (decide (a = b)):=fun _ _ _ _ _ _ _ _ hx hy=>⟨fun ho=>z9q ho hx hy,fun ho=>z9o ho hx hy⟩
theorem z59 {t : TypeId} {a b : Bool} (hu : P.underlying t = some .bool) : EqK P t (B a) (B b) (a == b):=fun _ _ _ _ _ _ _ _ hx hy=>⟨fun ho=>z6m ho hu hx hy,fun ho=>z6k ho hu hx hy⟩
def LnK (P : Program) (T0 : Gh) (M : List Own) (t : TypeId) (A R : AV) : Prop := ∀ (fr : Fr) (ops : Array Oper) (o : Oper) (x : Operand) (ts : Array TypeId),o.op = .call { callee:=.builtin .len,args := #[x],argTypes:=ts } → ts[0]? = some t → Opd T0 fr x A → AY P T0 ops o fr M R
theorem z8a {x : Operand} {t : TypeId} {A R : AV} (ho : o.op = .call { callee:=.builtin .len,args := #[x],argTypes := #[t] }) (hx : Opd T0 fr x A) (hk : LnK P T0 M t A R) : AY P T0 ops o fr M R:=hk fr ops o x _ ho rfl hx
theorem z_9 {α : Type} {T : Ty α} {t e : TypeId} {l : List α} (hu : P.underlying t = some (.slice e)) : LnK P T0 M t (slA T l) (I l.length):=fun _ _ _ _ _ ho ht hx=>z9p ho ht hu hx
theorem z74 {α : Type} {T : Ty α} {t e e' : TypeId} {l : List α} {u : Value} (i : Nat) (hu : P.underlying t = some (.slice e')) (hM : M[i]? = some (zx T e u l)) : LnK P T0 M t (vA u) (I l.length):=fun _ _ _ _ _ ho ht hx=>zty i ho ht hu hx hM
def IxK (P : Program) (T0 : Gh) (M : List Own) (t : TypeId) (A : AV) (n : Nat) (R : AV) : Prop := ∀ (fr : Fr) (ops : Array Oper) (o : Oper) (x y : Operand) (k : IntKind),o.op = .indexAddr t x y → Opd T0 fr x A → xi T0 fr y k n → AY P T0 ops o fr M R
theorem zk6 {x y : Operand} {t : TypeId} {A R : AV} {k : IntKind} {n : Nat} (ho : o.op = .indexAddr t x y) (hx : Opd T0 fr x A) (hy : xi T0 fr y k n) (hk : IxK P T0 M t A n R) : AY P T0 ops o fr M R:=hk fr ops o x y k ho hx hy
theorem zam {α : Type} {T : Ty α} {t e : TypeId} {l : List α} {d z : α} {by' n : Nat} {av : α → AV} (hu : P.underlying t = some (.slice e)) (he : El P T e d by' av) (hn : l[n]? = some z) : IxK P T0 M t (slA T l) n (ipA (T.enc z)):=fun _ _ _ _ _ _ ho hx hy=>zmy ho hu he hx hy hn
theorem z8b {α : Type} {T : Ty α} {t e : TypeId} {l : List α} {d : α} {by' n : Nat} {av : α → AV} {u : Value} (i : Nat) (hu : P.underlying t = some (.slice e)) (he : El P T e d by' av) (hM : M[i]? = some (zx T e u l)) (hn : n < l.length) : IxK P T0 M t (vA u) n (rpA u (n * T.k)):=fun _ _ _ _ _ _ ho hx hy=>zmx i ho hu he hx hM hy hn
def LdK (P : Program) (T0 : Gh) (M : List Own) (t : TypeId) (A R : AV) : Prop := ∀ (fr : Fr) (ops : Array Oper) (o : Oper) (x : Operand),o.op = .load t x → Opd T0 fr x A → AY P T0 ops o fr M R
theorem kr {x : Operand} {t : TypeId} {A R : AV} (ho : o.op = .load t x) (hx : Opd T0 fr x A) (hk : LdK P T0 M t A R) : AY P T0 ops o fr M R:=hk fr ops o x ho hx
theorem qak {α : Type} {T : Ty α} {e : TypeId} {d z : α} {by' : Nat} {av : α → AV} (he : El P T e d by' av) : LdK P T0 M e (ipA (T.enc z)) (av z):=fun _ _ _ _ ho hx=>ztw ho he hx
theorem qdz {t : TypeId} {v : Value} {r : List Value} (ha : ∀ w,(isAgg t).run P w = .ok false w) : LdK P T0 M t (ipA (v :: r)) (vA v):=fun _ _ _ _ ho hx=>zrt ho ha hx
theorem qai {t e : TypeId} {b off : Nat} {cells : List AV} {A : AV} (i : Nat) (ha : ∀ w,(isAgg t).run P w = .ok false w) (hM : M[i]? = some (qd b e cells)) (hA : cells[off]? = some A) : LdK P T0 M t (vA (.pointer (some ⟨b,off,none⟩))) A:=fun _ _ _ _ ho hx=>zmv i ho ha hM hx hA
theorem qah {t e : TypeId} {b off n : Nat} {cells : List AV} (i : Nat) (ha : ∀ w,(isAgg t).run P w = .ok true w) (hz : ∀ w,(sizeOf t).run P w = .ok n w) (hM : M[i]? = some (qd b e cells)) (hn : Nat.ble (off + n) cells.length = true) : LdK P T0 M t (vA (.pointer (some ⟨b,off,none⟩))) (z0 ((cells.drop off).take n)):=fun _ _ _ _ ho hx=>zmu i ho ha hz hM hx (Nat.le_of_ble_eq_true hn)
theorem zz1 {α : Type} (T : Ty α) {l : List α} {n off : Nat} {z : α} {v : Value} (hz : l[n]? = some z) (hv : (T.enc z)[off]? = some v) : (l.flatMap T.enc)[n * T.k + off]? = some v:=by
 have hj : off < T.k:=by rw [← T.len z]; exact (List.getElem?_eq_some_iff.1 hv).1
 rw [j0 T l n off z hz hj]; exact hv
theorem qaj {α : Type} {T : Ty α} {t e : TypeId} {l : List α} {off n : Nat} {z : α} {u v : Value} (i : Nat) (ha : ∀ w,(isAgg t).run P w = .ok false w) (hM : M[i]? = some (zx T e u l)) (hz : l[n]? = some z) (hv : (T.enc z)[off]? = some v) : LdK P T0 M t (rpA u (n * T.k + off)) (vA v):=fun _ _ _ _ ho hx=>zmw i ho ha hM hx (zz1 T hz hv)
def FaK (P : Program) (T0 : Gh) (M : List Own) (t : TypeId) (i : Nat) (A R : AV) : Prop := ∀ (fr : Fr) (ops : Array Oper) (o : Oper) (x : Operand),o.op = .fieldAddr t x i → Opd T0 fr x A → AY P T0 ops o fr M R
theorem qby {x : Operand} {t : TypeId} {i : Nat} {A R : AV} (ho : o.op = .fieldAddr t x i) (hx : Opd T0 fr x A) (hk : FaK P T0 M t i A R) : AY P T0 ops o fr M R:=hk fr ops o x ho hx
theorem qbn {t : TypeId} {i off : Nat} {ft : TypeId} {cs : List Value} (hu : Fld P t i off ft) (hsz : ∀ w,∃ n,(sizeOf ft).run P w = .ok (n + 1) w) : FaK P T0 M t i (ipA cs) (ipA (cs.drop off)):=fun _ _ _ _ ho hx=>zm1 ho hu hsz hx
theorem z9y {t : TypeId} {i off b of2 : Nat} {ft : TypeId} (hu : Fld P t i off ft) (hsz : ∀ w,∃ n,(sizeOf ft).run P w = .ok (n + 1) w) : FaK P T0 M t i (vA (.pointer (some ⟨b,of2,none⟩))) (vA (.pointer (some ⟨b,of2 + off,none⟩))):=fun _ _ _ _ ho hx=>zmz ho hu hsz hx
theorem z9z {t : TypeId} {i off of2 : Nat} {ft : TypeId} {u : Value} (hu : Fld P t i off ft) (hsz : ∀ w,∃ n,(sizeOf ft).run P w = .ok (n + 1) w) : FaK P T0 M t i (rpA u of2) (rpA u (of2 + off)):=fun _ _ _ _ ho hx=>zm0 ho hu hsz hx
def FdK (P : Program) (T0 : Gh) (M : List Own) (t : TypeId) (i : Nat) (l : List AV) (R : AV) : Prop := ∀ (fr : Fr) (ops : Array Oper) (o : Oper) (x : Operand),o.op = .field t x i → Opd T0 fr x (z0 l) → AY P T0 ops o fr M R
theorem qbx {x : Operand} {t : TypeId} {i : Nat} {l : List AV} {R : AV} (ho : o.op = .field t x i) (hx : Opd T0 fr x (z0 l)) (hk : FdK P T0 M t i l R) : AY P T0 ops o fr M R:=hk fr ops o x ho hx
theorem qd4 {t : TypeId} {i off : Nat} {l : List AV} {A : AV} {ft : TypeId} (hu : Fld P t i off ft) (ha : ∀ w,(isAgg ft).run P w = .ok false w) (hA : l[off]? = some A) : FdK P T0 M t i l A:=fun _ _ _ _ ho hx=>zyn ho hx hu ha hA
inductive SetC : List AV → Nat → List AV → List AV → Prop
 |nil {s : List AV} : SetC s 0 [] s
 |here {a b : AV} {s l r : List AV} (h : SetC s 0 l r) : SetC (a :: s) 0 (b :: l) (b :: r)
 |next {a : AV} {s l r : List AV} {n : Nat} (h : SetC s n l r) : SetC (a :: s) (n + 1) l (a :: r)
theorem SetC.spec {s l r : List AV} {n : Nat} (h : SetC s n l r) : n + l.length ≤ s.length ∧ r = setC s n l:=by
 induction h with
 |nil=>simp [setC]
 |here h ih=>obtain ⟨h1,h2⟩:=ih; refine ⟨by simp only [List.length_cons]; omega, ?_⟩; rw [h2]; simp [setC]
 |next h ih=>obtain ⟨h1,h2⟩:=ih
             refine ⟨by simp only [List.length_cons]; omega, ?_⟩
             have e : ∀ a b : Nat,a + 1 + b = (a + b) + 1:=fun a b=>by omega
             rw [h2]; simp only [setC,List.take_succ_cons,List.cons_append,e,List.drop_succ_cons]
theorem zsd {s : List AV} : SetC s 0 [] s:=.nil
theorem pk {pl : List (Nat × Nat)} {i : Nat} {x : Operand} {r : List (Nat × Operand)} {acc acc' res l : List AV} {A : AV} {off : Nat} (hx : Opd T0 fr x A) (hc : j5 A l) (hp : pl[i]? = some (off,l.length)) (hs : SetC acc off l acc') (h : wk T0 fr pl r acc' res) : wk T0 fr pl ((i,x) :: r) acc res:=by
 obtain ⟨h1,h2⟩:=hs.spec
 subst h2
 exact ⟨A,l,off,hx,hc,hp,h1,h⟩
theorem qbw {x : Operand} {n : Nat} {k : IntKind} (h : xi T0 fr x k n) : zua (some x) n T0 fr:=⟨k,h⟩
theorem qb0 {x : Operand} {n len : Nat} {k : IntKind} (h : xi T0 fr x k n) : zwc (some x) n len T0 fr:=⟨k,h⟩
end
end
section
open Go Go.RowKit
section
variable {P : Program} {T0 : Gh} {N : Fz} {Q : kw} {fr : Fr} {M : List Own} {ops : Array Oper} {o : Oper}
theorem zu7 {α : Type} {T : Ty α} {e : TypeId} {u : Value} {l : List α} {G : Gh} {w : World} (h : (zx T e u l).holds G w) : u.cells = #[u] ∧ u.oneCell' = true:=by
 rcases ym h with ⟨rfl,_⟩ | ⟨g,cap,rfl,_⟩ <;> exact ⟨rfl,rfl⟩
def rsA (k : Nat) (u : Value) (off n : Nat) : AV:=fun _ v => ∃ g m cap c',u = .slice (some ⟨g,0,none⟩) m cap ∧ v = .slice (some ⟨g,off * k,none⟩) n c'
theorem Rep.rs {k off n : Nat} {u v : Value} {G : Gh} (h : Rep G (rsA k u off n) v) : ∃ g m cap c',u = .slice (some ⟨g,0,none⟩) m cap ∧ v = .slice (some ⟨g,off * k,none⟩) n c':=let ⟨_,_,r⟩:=h; r
theorem zms {α : Type} {T : Ty α} {t e : TypeId} {x y z : Operand} {l : List α} {d : α} {by' a b : Nat} {k k' : IntKind} {av : α → AV} {u : Value} (i : Nat) (ho : o.op = .slice t x (some y) (some z) none) (hu : P.underlying t = some (.slice e)) (he : El P T e d by' av) (hx : Opd T0 fr x (vA u)) (hM : M[i]? = some (zx T e u l)) (hy : xi T0 fr y k a) (hz : xi T0 fr z k' b) (h1 : a < b) (h2 : b ≤ l.length) :
  AY P T0 ops o fr M (rsA T.k u a (b - a)):=xl fun w0 G F ac w hs hf=>by
 have e1:=(hx.use (o:=o) (ops:=ops) (by simp [ho,Op.operands]) hs.tab hf).eq
 have e2:=((show Opd T0 fr y (vA (.int k (a : Int))) from hy).use (o:=o) (ops:=ops) (by simp [ho,Op.operands]) hs.tab hf).eq
 have e3:=((show Opd T0 fr z (vA (.int k' (b : Int))) from hz).use (o:=o) (ops:=ops) (by simp [ho,Op.operands]) hs.tab hf).eq
 have hrow:=hs.own _ (List.mem_of_getElem? (xd (F:=F) (m':=zx T e u l) hM).1)
 rcases ym hrow with ⟨rfl,rfl⟩ | ⟨g,cap,rfl,h4,h5⟩
 ·simp at h2; omega
 ·have hb:=jp (P:=P) (isS:=true) (cap:=cap) (len:=l.length) (w:=w) (lo:=a) (hi:=b) (vlo:=some (.int k (a : Int))) (vhi:=some (.int k' (b : Int))) (Nat.le_of_lt h1) (by omega) (.inr ⟨k,rfl⟩) (.inr ⟨k',rfl⟩)
  have hne : ¬ cap = a:=by omega
  refine ⟨.slice (some ⟨g,a * T.k,none⟩) (b - a) (cap - a), ?_,.of ⟨g,_,cap,cap - a,rfl,rfl⟩⟩
  simp only [execOp,ho,e1,Option.map_some,e2,e3]
  simp [run_sliceAt_slice _ _ _ _ _ _ (zeb hu),Instr.slice,run_underlying hu,hb,he.size,hne,Addr.add_lit]
def ovr {α : Type} (l : List α) (off : Nat) (c : List α) : List α:=l.take off ++ c ++ l.drop (off + c.length)
theorem qz {α : Type} {l : List α} {off : Nat} {c : List α} (h : off + c.length ≤ l.length) : (ovr l off c).length = l.length:=by
 simp only [ovr,List.length_append,List.length_take,List.length_drop]; omega
theorem zp2 {α : Type} {T : Ty α} {t e ty : TypeId} {d : α} {by' : Nat} {av : α → AV} {w : World} {cur : Array Value} {et : TypeId} {g p n c' : Nat} {a : Option Addr} {sn sc : Nat} {m : List α} (hu : P.underlying t = some (.slice e)) (he : El P T e d by' av) (hg : w.heap[g]? = some (.cells cur et (0,0)))
  (hsn : sn = m.length) (hsrc : m ≠ [] → ∃ b off,a = some ⟨b,off,none⟩ ∧ ∀ j v,(m.flatMap T.enc)[j]? = some v → w.cell? ⟨b,off + j,none⟩ = some v) (hfit : p + (m.take n).length * T.k ≤ cur.size) :
  (Builtin.copy_ #[t,t] ty #[.slice (some ⟨g,p,none⟩) n c',.slice a sn sc]).run P w = .ok (goInt (m.take n).length) (w.setRow g (cur.toList.take p ++ (m.take n).flatMap T.enc ++ cur.toList.drop (p + (m.take n).length * T.k)).toArray):=by
 subst hsn
 have hmin : Nat.min m.length n = (m.take n).length:=by rw [List.length_take]; exact Nat.min_comm _ _
 have hst:=run_storeCells_at P g p et ((m.take n).flatMap T.enc) 0 cur w hg (by rw [zc8]; simpa using hfit) (fun v hv=>by obtain ⟨x,_,hx⟩:=List.mem_flatMap.1 hv; exact he.one x v hx)
 rw [zc8] at hst
 simp only [Nat.add_zero] at hst
 have hcells : (Builtin.firstCells T.k (m.take n).length (.slice a m.length sc)).run P w = .ok ((m.take n).flatMap T.enc).toArray w:=by
  by_cases hm : m = []
  ·subst hm
   cases a with
   |none=>simp [Builtin.firstCells]
   |some a=>simp [Builtin.firstCells,loadCells,loadCellsFrom]
  ·obtain ⟨b,off,rfl,hc⟩:=hsrc hm
   have hl:=run_loadCells_list (P:=P) (w:=w) ⟨b,off,none⟩ ((m.take n).flatMap T.enc) (fun j v hv=>by
    rw [Addr.add_lit]
    refine hc j v ?_
    rw [kc,List.getElem?_take] at hv
    split at hv
    ·exact hv
    ·cases hv)
   rw [zc8] at hl
   simpa [Builtin.firstCells] using hl
 generalize m.take n = c at *
 simp only [Builtin.copy_]
 simp [run_underlying hu,Builtin.lenOf,he.size,hmin]
 rw [hcells]
 simp [hst]
theorem zyv {α : Type} {T : Ty α} {t e : TypeId} {x y : Operand} {l m : List α} {d : α} {by' off n : Nat} {av : α → AV} {u : Value} {A : AV} (i : Nat) (ho : o.op = .call { callee:=.builtin .copy,args := #[x,y],argTypes := #[t,t] }) (hu : P.underlying t = some (.slice e)) (he : El P T e d by' av) (hx : Opd T0 fr x A) (hM : M[i]? = some (zx T e u l)) (hA : (A = vA u ∧ off = 0 ∧ n = l.length) ∨ A = rsA T.k u off n) (hn : off + n ≤ l.length)
  (hy : Opd T0 fr y (slA T m)) : AO P T0 ops o fr M (fun A M'=>A = I (m.take n).length ∧ M' = M.set i (zx T e u (ovr l off (m.take n)))) (fun _ _=>False):=fun w0 G F a w next Qc hs hf hk _=>by
 obtain ⟨ad,sn,sc,e1,e2,_,_,_,e6⟩:=(hy.use (o:=o) (ops:=ops) (by simp [ho,Op.operands,Call.operands]) hs.tab hf).sl
 have hxr:=hx.use (o:=o) (ops:=ops) (by simp [ho,Op.operands,Call.operands]) hs.tab hf
 obtain ⟨hM1,hM2⟩:=xd (F:=F) (m':=zx T e u (ovr l off (m.take n))) hM
 have hrow:=hs.own _ (List.mem_of_getElem? hM1)
 have hclen : (m.take n).length ≤ n:=by rw [List.length_take]; omega
 have hrun0 : ∀ v w',(Builtin.copy_ #[t,t] o.type #[a.eval x,a.eval y]).run P w = .ok v w' → (execOp a.eval o).run P w = .ok (.value v) w':=fun v w' h=>by
  simp only [execOp,ho,resolve]
  simp [invoke,builtin,h]
 rcases hrow.2 with ⟨h',h0⟩ | ⟨g,cap,cur,h',_,hg,hnc,hcm,hcs,htake⟩
 ·have hl0 : l = []:=List.eq_nil_of_length_eq_zero h0
  rcases hA with ⟨rfl,rfl,rfl⟩ | rfl
  ·have hxe:=hxr.eq
   subst hl0
   have hr : (Builtin.copy_ #[t,t] o.type #[a.eval x,a.eval y]).run P w = .ok (goInt 0) w:=by
    rw [hxe,e1,h']
    cases ad with
    |none=>simp [Builtin.copy_,run_underlying hu,Builtin.lenOf,Builtin.firstCells,he.size]
    |some ad=>simp [Builtin.copy_,run_underlying hu,Builtin.lenOf,Builtin.firstCells,he.size,loadCells,loadCellsFrom]
   have hrun:=hrun0 _ _ hr
   unfold Oper.wp; rw [hrun]
   refine hk (I 0) (M.set i (zx T e u (ovr [] 0 (m.take 0)))) G _ w ⟨by simp,by simp⟩ (Gh.le.refl _) ?_ (Rep.va _ _)
   have : M.set i (zx T e u (ovr [] 0 (m.take 0))) = M:=by
    have ho2 : ovr ([] : List α) 0 (m.take 0) = []:=by simp [ovr]
    rw [ho2]
    refine List.ext_getElem? fun j => ?_
    rw [List.getElem?_set]
    split
    ·rename_i hij; subst hij
     split
     ·exact hM.symm
     ·rename_i hnl; exact absurd (List.getElem?_eq_some_iff.1 hM).1 hnl
    ·rfl
   rw [this]; exact hs
  ·obtain ⟨g,N',cap,c',h1,_⟩:=hxr.rs
   rw [h'] at h1; cases h1
 have hx2 : ∃ c',a.eval x = .slice (some ⟨g,off * T.k,none⟩) n c':=by
  rcases hA with ⟨rfl,rfl,rfl⟩ | rfl
  ·exact ⟨cap,by rw [hxr.eq,h',Nat.zero_mul]⟩
  ·obtain ⟨g',N',cap',c',h1,h2⟩:=hxr.rs
   rw [h'] at h1
   simp only [Value.slice.injEq,Option.some.injEq,Addr.mk.injEq,and_true] at h1
   obtain ⟨rfl,_⟩:=h1
   exact ⟨c',h2⟩
 obtain ⟨c',hx2⟩:=hx2
 have hfit1 : off + (m.take n).length ≤ l.length:=by omega
 have hb1 : (off + (m.take n).length) * T.k ≤ l.length * T.k:=Nat.mul_le_mul_right _ hfit1
 have hcap : l.length * T.k ≤ cur.size:=by rw [hcs]; exact Nat.mul_le_mul_right _ hnc
 have hr:=zp2 (P:=P) (T:=T) (t:=t) (ty:=o.type) (w:=w) (cur:=cur) (p:=off * T.k) (n:=n) (c':=c') (a:=ad) (sn:=sn) (sc:=sc) (m:=m) hu he hg e2 (fun hm=>let ⟨b,of,f1,f2⟩:=e6 hm; ⟨b,of,f1,fun j v hv=>hs.imm _ _ _ (f2 j v hv)⟩) (by rw [Nat.add_mul] at hb1; omega)
 rw [← hx2,← e1] at hr
 have hrun:=hrun0 _ _ hr
 unfold Oper.wp; rw [hrun]
 generalize m.take n = c at *
 refine hk (I (c).length) (M.set i (zx T e u (ovr l off (c)))) G _ _ ⟨rfl,rfl⟩ (Gh.le.refl _) ?_ (Rep.va _ _)
 rw [← hM2]
 refine hs.grown hM1 ⟨rfl,rfl,rfl,by simp,fun k _ hk=>setRow_other w g k _ (fun e=>hk (by rw [h']; simp [zx,Value.ownBlock,e]))⟩ ?_ (fun b hb => ?_)
 ·have hlen:=qz (c:=c) hfit1
  have hE : ((c).flatMap T.enc).length = (c).length * T.k:=zc8 T _
  have hsz : (cur.toList.take (off * T.k) ++ (c).flatMap T.enc ++ cur.toList.drop (off * T.k + (c).length * T.k)).length = cur.size:=by
   rw [Nat.add_mul] at hb1
   simp only [List.length_append,List.length_take,List.length_drop,hE,Array.length_toList]; omega
  refine ⟨by rw [zc8],.inr ⟨g,cap,_,by rw [hlen]; exact h',Nat.zero_le _,setRow_heap w g cur _ e _ hg,by rw [hlen]; exact hnc,hcm, ?_, ?_⟩⟩
  ·rw [← hcs]; simpa using hsz
  ·rw [hlen]
   have h1 : (ovr l off (c)).flatMap T.enc = (l.flatMap T.enc).take (off * T.k) ++ (c).flatMap T.enc ++ (l.flatMap T.enc).drop (off * T.k + (c).length * T.k):=by
    rw [ovr,List.flatMap_append,List.flatMap_append,kc,vf,Nat.add_mul]
   rw [h1,← htake]
   rw [Nat.add_mul] at hb1
   exact zfc cur.toList _ (off * T.k) _ (l.length * T.k) hE (by omega) (by simpa using hcap)
 ·refine ⟨.inl hb, ?_⟩
  have hb' : u.ownBlock = some b:=hb
  rw [h'] at hb'
  obtain rfl:=Option.some.inj (show some g = some b from hb')
  simpa using (Array.getElem?_eq_some_iff.1 hg).1
theorem zph {α : Type} {T : Ty α} {t e : TypeId} {x y : Operand} {l m : List α} {d : α} {by' : Nat} {av : α → AV} {u : Value} (i : Nat) (ho : o.op = .call { callee:=.builtin .copy,args := #[x,y],argTypes := #[t,t] }) (hu : P.underlying t = some (.slice e)) (he : El P T e d by' av) (hx : Opd T0 fr x (vA u)) (hM : M[i]? = some (zx T e u l))
  (hy : Opd T0 fr y (slA T m)) : AO P T0 ops o fr M (fun A M'=>A = I (m.take l.length).length ∧ M' = M.set i (zx T e u (ovr l 0 (m.take l.length)))) (fun _ _=>False):=zyv i ho hu he hx hM (.inl ⟨rfl,rfl,rfl⟩) (by omega) hy
theorem zpg {α : Type} {T : Ty α} {t e : TypeId} {x y : Operand} {l m : List α} {d : α} {by' off n : Nat} {av : α → AV} {u : Value} (i : Nat) (ho : o.op = .call { callee:=.builtin .copy,args := #[x,y],argTypes := #[t,t] }) (hu : P.underlying t = some (.slice e)) (he : El P T e d by' av) (hx : Opd T0 fr x (rsA T.k u off n)) (hM : M[i]? = some (zx T e u l)) (hn : off + n ≤ l.length)
  (hy : Opd T0 fr y (slA T m)) : AO P T0 ops o fr M (fun A M'=>A = I (m.take n).length ∧ M' = M.set i (zx T e u (ovr l off (m.take n)))) (fun _ _=>False):=zyv i ho hu he hx hM (.inr rfl) hn hy
theorem z20 {ts : Array TypeId} {x y : Operand} {k : IntKind} {a b : Nat} (ho : o.op = .call { callee:=.builtin .min,args := #[x,y],argTypes:=ts }) (hx : xi T0 fr x k a) (hy : xi T0 fr y k b) : AY P T0 ops o fr M (vA (.int k ((min a b : Nat) : Int))):=xl fun w0 G F ac w hs hf=>by
 have e1:=((show Opd T0 fr x (vA (.int k (a : Int))) from hx).use (o:=o) (ops:=ops) (by simp [ho,Op.operands,Call.operands]) hs.tab hf).eq
 have e2:=((show Opd T0 fr y (vA (.int k (b : Int))) from hy).use (o:=o) (ops:=ops) (by simp [ho,Op.operands,Call.operands]) hs.tab hf).eq
 have hm : min (a : Int) (b : Int) = ((min a b : Nat) : Int):=by omega
 refine ⟨.int k ((min a b : Nat) : Int), ?_,Rep.va _ _⟩
 simp only [execOp,ho,resolve]
 simp [invoke,builtin,e1,e2,Go.Lib.run_min_ints,hm]
theorem zab {t e : TypeId} {b : Nat} {cells : List AV} {G : Gh} {w : World} (ha : ∀ w,(isAgg t).run P w = .ok true w) (hz : ∀ w,(sizeOf t).run P w = .ok cells.length w) (h : (qd b e cells).holds G w) : ∃ u,(loadVar t ⟨b,0,none⟩).run P w = .ok u w ∧ Rep G (z0 cells) u:=by
 obtain ⟨cs,h3,h4⟩:=zch h
 have hl:=run_loadCells_list (P:=P) (w:=w) ⟨b,0,none⟩ cs (fun j v hv=>by
  rw [Addr.add_lit,cell_of_row _ _ _ _ _ _ h3]; simpa using hv)
 rw [h4.len] at hl
 refine ⟨.agg cs.toArray, ?_,.of ⟨_,rfl,h4⟩⟩
 simp only [loadVar]
 simp [ha,hz,hl]
theorem z_x {fn : Func} {s t e : Nat} {b : Nat} {cells : List AV} (i : Nat) (h : fn.results = #[.cell s t]) (hs : fr.get s = some (vA (.pointer (some ⟨b,0,none⟩)))) (hM : M[i]? = some (qd b e cells)) (ha : ∀ w,(isAgg t).run P w = .ok true w) (hz : ∀ w,(sizeOf t).run P w = .ok cells.length w) : zjl P T0 fn fr M (z0 cells):=fun w0 G F tmps w st hr=>by
 obtain ⟨u,h1,h2⟩:=zab ha hz (st.own _ (List.mem_of_getElem? (xd (F:=F) (m':=qd b e cells) hM).1))
 have h3 : tmps.getD s undef = .pointer (some ⟨b,0,none⟩):=(kj hr hs).eq
 refine ⟨u, ?_,h2⟩
 have h5 : tmps[s]?.getD undef = .pointer (some ⟨b,0,none⟩):=by simpa using h3
 simp only [results,h]
 simp [h5,asAddr,h1]
theorem z_w {fn : Func} {s t s' e : Nat} {b : Nat} {cells : List AV} {A : AV} (i : Nat) (h : fn.results = #[.cell s t,.tmp s']) (hs : fr.get s = some (vA (.pointer (some ⟨b,0,none⟩)))) (hs' : fr.get s' = some A) (hM : M[i]? = some (qd b e cells)) (ha : ∀ w,(isAgg t).run P w = .ok true w) (hz : ∀ w,(sizeOf t).run P w = .ok cells.length w) : zjl P T0 fn fr M (zt [z0 cells,A]):=fun w0 G F tmps w st hr=>by
 obtain ⟨u,h1,h2⟩:=zab ha hz (st.own _ (List.mem_of_getElem? (xd (F:=F) (m':=qd b e cells) hM).1))
 have h3 : tmps.getD s undef = .pointer (some ⟨b,0,none⟩):=(kj hr hs).eq
 have h4:=kj hr hs'
 refine ⟨.tuple #[u,tmps.getD s' undef], ?_,.of ⟨[_,_],rfl,h2,h4,trivial⟩⟩
 have h5 : tmps[s]?.getD undef = .pointer (some ⟨b,0,none⟩):=by simpa using h3
 simp only [results,h]
 simp [h5,asAddr,h1]
def FzO {α : Type} (u : Value) (T : Ty α) (l : List α) (m m' : Own) : Prop:=m = m' ∨ ∃ b e cells cells',m = qd b e cells ∧ m' = qd b e cells' ∧ FzL u T l cells cells'
theorem z5k {α : Type} {u : Value} {T : Ty α} {l : List α} {b : Nat} {e : TypeId} {cells cells' : List AV} (h : FzL u T l cells cells') : FzO u T l (qd b e cells) (qd b e cells'):=.inr ⟨b,e,cells,cells',rfl,rfl,h⟩
def FzM {α : Type} (u : Value) (T : Ty α) (l : List α) : List Own → List Own → Prop
 |[],[]=>True
 |m :: r,m' :: r'=>FzO u T l m m' ∧ FzM u T l r r'
 |_,_=>False
theorem z5l {α : Type} {u : Value} {T : Ty α} {l : List α} : FzM u T l [] []:=trivial
theorem z06 {α : Type} {u : Value} {T : Ty α} {l : List α} {m m' : Own} {r r' : List Own} (h : FzO u T l m m') (k : FzM u T l r r') : FzM u T l (m :: r) (m' :: r'):=⟨h,k⟩
theorem FzO.foot {α : Type} {u : Value} {T : Ty α} {l : List α} {m m' : Own} (h : FzO u T l m m') : m'.foot = m.foot:=by
 rcases h with rfl | ⟨b,e,c,c',rfl,rfl,_⟩ <;> rfl
theorem FzO.holds {α : Type} {u : Value} {T : Ty α} {l : List α} {m m' : Own} {G : Gh} {w : World} (hu : Rep G (slA T l) u) (h : FzO u T l m m') (k : m.holds G w) : m'.holds G w:=by
 rcases h with rfl | ⟨b,e,c,c',rfl,rfl,h⟩
 ·exact k
 ·obtain ⟨cs,h1,h2⟩:=k; exact ⟨cs,h1,FzL.rep (Gh.le.refl _) hu h h2⟩
theorem FzM.foots {α : Type} {u : Value} {T : Ty α} {l : List α} : ∀ {r r' : List Own},FzM u T l r r' → r'.filterMap Own.foot = r.filterMap Own.foot
 |[],[],_=>rfl
 |_ :: _,_ :: _,h=>by rw [List.filterMap_cons,List.filterMap_cons,h.1.foot,FzM.foots h.2]
 |[],_ :: _,h=>h.elim
 |_ :: _,[],h=>h.elim
theorem FzM.mem {α : Type} {u : Value} {T : Ty α} {l : List α} : ∀ {r r' : List Own},FzM u T l r r' → ∀ m' ∈ r',∃ m ∈ r,FzO u T l m m'
 |[],[],_,m',h=>by simp at h
 |m :: r,x :: r',h,m',hm=>by
  rcases List.mem_cons.1 hm with rfl | hm
  ·exact ⟨m,by simp,h.1⟩
  ·obtain ⟨y,h1,h2⟩:=FzM.mem h.2 m' hm
   exact ⟨y,by simp [h1],h2⟩
 |[],_ :: _,h,_,_=>h.elim
 |_ :: _,[],h,_,_=>h.elim
theorem zwg {α : Type} {u : Value} {T : Ty α} {l : List α} : ∀ {r r' : List Own} (F : List Own),FzM u T l r r' → FzM u T l (r ++ F) (r' ++ F)
 |[],[],F,_=>by
  induction F with
  |nil=>trivial
  |cons m F ih=>exact ⟨.inl rfl,ih⟩
 |_ :: _,_ :: _,F,h=>⟨h.1,zwg F h.2⟩
 |[],_ :: _,_,h=>h.elim
 |_ :: _,[],_,h=>h.elim
theorem St.fz {α : Type} {u : Value} {T : Ty α} {l : List α} {G : Gh} {w0 w : World} {M M' : List Own} (h : St T0 w0 G M w) (hu : Rep G (slA T l) u) (k : FzM u T l M M') : St T0 w0 G M' w :=
 ⟨h.below,h.tab,h.imm,fun m hm=>by obtain ⟨x,h1,h2⟩:=k.mem m hm; exact h2.holds hu (h.own x h1),fun m hm b hb=>by obtain ⟨x,h1,h2⟩:=k.mem m hm; exact h.foot x h1 b (h2.foot ▸ hb),by rw [k.foots]; exact h.sep⟩
theorem zo3 {α : Type} {T : Ty α} {e : TypeId} {u : Value} {l : List α} {fr' : Fr} {M' : List Own} (i : Nat) (hM : M[i]? = some (zx T e u l)) (hz : FzFr u T l fr fr') (hm : FzM u T l (M.eraseIdx i) M') : Ent T0 fr M fr' M':=fun w0 G F t w st r=>by
 have hlt : i < M.length:=(List.getElem?_eq_some_iff.1 hM).1
 obtain ⟨G',h1,h2,h3⟩:=st.freeze (xd (F:=F) (m':=zx T e u l) hM).1
 rw [zb2 hlt] at h2
 refine ⟨G',h1,h2.fz h3 (zwg F hm),fun x B _ e => ?_⟩
 obtain ⟨A,k1,k2⟩:=hz.get x B e
 obtain ⟨v,k3,k4⟩:=r x A trivial k1
 exact ⟨v,k3,k2 G G' v h1 h3 k4⟩
theorem zt1 {α : Type} {T : Ty α} {e : TypeId} {u : Value} {l : List α} {c : Code} {fr' : Fr} {M' : List Own} (i : Nat) (hM : M[i]? = some (zx T e u l)) (hz : FzFr u T l fr fr') (hm : FzM u T l (M.eraseIdx i) M') (h : AW P T0 N c Q fr' M') : AW P T0 N c Q fr M:=zm5 (zo3 i hM hz hm) h
end
end
section
open Go Go.RowKit
inductive UpdF (m : Own) : List Own → (Own → List Own) → Prop
 |here {s : List Own} : UpdF m (m :: s) (fun m'=>m' :: s)
 |next {a : Own} {s : List Own} {f : Own → List Own} (h : UpdF m s f) : UpdF m (a :: s) (fun m'=>a :: f m')
theorem UpdF.spec {m : Own} {M : List Own} {f : Own → List Own} (h : UpdF m M f) : ∃ i,M[i]? = some m ∧ ∀ m',f m' = M.set i m':=by
 induction h with
 |here=>exact ⟨0,rfl,fun _=>rfl⟩
 |next h ih=>obtain ⟨i,h1,h2⟩:=ih; exact ⟨i + 1,by simpa using h1,fun m'=>congrArg (List.cons _) (h2 m')⟩
inductive SubC : List AV → Nat → Nat → List AV → Prop
 |nil {s : List AV} : SubC s 0 0 []
 |here {a : AV} {s r : List AV} {n : Nat} (h : SubC s 0 n r) : SubC (a :: s) 0 (n + 1) (a :: r)
 |next {a : AV} {s r : List AV} {off n : Nat} (h : SubC s off n r) : SubC (a :: s) (off + 1) n r
theorem SubC.spec {s r : List AV} {off n : Nat} (h : SubC s off n r) : (s.drop off).take n = r ∧ off + n ≤ s.length ∧ (s.take (off + n)).drop off = r:=by
 induction h with
 |nil=>simp
 |here h ih=>obtain ⟨h1,h2,h3⟩:=ih; refine ⟨by simpa using h1,by simp only [List.length_cons]; omega, ?_⟩; simp at h3 ⊢; exact h3
 |next h ih=>obtain ⟨h1,h2,h3⟩:=ih; refine ⟨by simpa using h1,by simp only [List.length_cons]; omega, ?_⟩
             rw [Nat.add_right_comm]; simpa using h3
inductive Pick (m : Own) : List Own → List Own → Prop
 |here {s : List Own} : Pick m (m :: s) s
 |next {a : Own} {s r : List Own} (h : Pick m s r) : Pick m (a :: s) (a :: r)
theorem Pick.spec {m : Own} {M M' : List Own} (h : Pick m M M') : ∃ i,M[i]? = some m ∧ M' = M.eraseIdx i:=by
 induction h with
 |here=>exact ⟨0,rfl,rfl⟩
 |next h ih=>obtain ⟨i,h1,h2⟩:=ih; exact ⟨i + 1,by simpa using h1,by rw [h2]; rfl⟩
theorem Pick.perm {m : Own} {M M' : List Own} (h : Pick m M M') : List.Perm (m :: M') M:=by
 induction h with
 |here=>exact List.Perm.refl _
 |next h ih=>exact (List.Perm.swap _ _ _).trans (ih.cons _)
section
variable {P : Program} {T0 : Gh} {N : Fz} {Q : kw} {fr : Fr} {M M' : List Own} {ops : Array Oper} {o : Oper} {rest : List Oper} {x0 : Nat}
theorem z7_ {α : Type} {T : Ty α} {t e e' : TypeId} {l : List α} {u : Value} (hu : P.underlying t = some (.slice e')) (hM : zx T e u l ∈ M) : LnK P T0 M t (vA u) (I l.length):=let ⟨i,h⟩:=List.getElem?_of_mem hM; z74 i hu h
theorem qae {α : Type} {T : Ty α} {t e : TypeId} {l : List α} {d : α} {by' n : Nat} {av : α → AV} {u : Value} (hu : P.underlying t = some (.slice e)) (he : El P T e d by' av) (hM : zx T e u l ∈ M) (hn : n < l.length) : IxK P T0 M t (vA u) n (rpA u (n * T.k)):=let ⟨i,h⟩:=List.getElem?_of_mem hM; z8b i hu he h hn
theorem qac {t e : TypeId} {b off : Nat} {cells : List AV} {A : AV} (ha : ∀ w,(isAgg t).run P w = .ok false w) (hM : qd b e cells ∈ M) (hA : cells[off]? = some A) : LdK P T0 M t (vA (.pointer (some ⟨b,off,none⟩))) A:=let ⟨i,h⟩:=List.getElem?_of_mem hM; qai i ha h hA
theorem qab {t e : TypeId} {b off n : Nat} {cells l : List AV} (ha : ∀ w,(isAgg t).run P w = .ok true w) (hz : ∀ w,(sizeOf t).run P w = .ok n w) (hM : qd b e cells ∈ M) (hl : SubC cells off n l) : LdK P T0 M t (vA (.pointer (some ⟨b,off,none⟩))) (z0 l):=by
 obtain ⟨i,h⟩:=List.getElem?_of_mem hM
 obtain ⟨h1,h2,_⟩:=hl.spec
 rw [← h1]
 exact qah i ha hz h (Nat.ble_eq_true_of_le h2)
theorem qad {α : Type} {T : Ty α} {t e : TypeId} {l : List α} {off n : Nat} {z : α} {u v : Value} (ha : ∀ w,(isAgg t).run P w = .ok false w) (hM : zx T e u l ∈ M) (hz : l[n]? = some z) (hv : (T.enc z)[off]? = some v) : LdK P T0 M t (rpA u (n * T.k + off)) (vA v):=let ⟨i,h⟩:=List.getElem?_of_mem hM; qaj i ha h hz hv
theorem zqi {α : Type} {T : Ty α} {t e : TypeId} {x y z : Operand} {l : List α} {d : α} {by' a b : Nat} {k k' : IntKind} {av : α → AV} {u : Value} (ho : o.op = .slice t x (some y) (some z) none) (hu : P.underlying t = some (.slice e)) (he : El P T e d by' av) (hx : Opd T0 fr x (vA u)) (hM : zx T e u l ∈ M) (hy : xi T0 fr y k a) (hz : xi T0 fr z k' b) (h1 : a < b) (h2 : b ≤ l.length) :
  AY P T0 ops o fr M (rsA T.k u a (b - a)):=let ⟨i,h⟩:=List.getElem?_of_mem hM; zms i ho hu he hx h hy hz h1 h2
theorem z_v {fn : Func} {s t e : Nat} {b n : Nat} {cells : List AV} (h : fn.results = #[.cell s t]) (hs : fr.get s = some (vA (.pointer (some ⟨b,0,none⟩)))) (hM : qd b e cells ∈ M) (ha : ∀ w,(isAgg t).run P w = .ok true w) (hz : ∀ w,(sizeOf t).run P w = .ok n w) (hl : cells.length = n) : zjl P T0 fn fr M (z0 cells):=let ⟨i,k⟩:=List.getElem?_of_mem hM; z_x i h hs k ha (by rw [hl]; exact hz)
theorem z_u {fn : Func} {s t s' e : Nat} {b n : Nat} {cells : List AV} {A : AV} (h : fn.results = #[.cell s t,.tmp s']) (hs : fr.get s = some (vA (.pointer (some ⟨b,0,none⟩)))) (hs' : fr.get s' = some A) (hM : qd b e cells ∈ M) (ha : ∀ w,(isAgg t).run P w = .ok true w) (hz : ∀ w,(sizeOf t).run P w = .ok n w) (hl : cells.length = n) : zjl P T0 fn fr M (zt [z0 cells,A]):=let ⟨i,k⟩:=List.getElem?_of_mem hM; z_w i h hs hs' k ha (by rw [hl]; exact hz)
theorem zda (p : List.Perm M' M) : Ent T0 fr M fr M':=fun _ G F _ _ s r=>⟨G,Gh.le.refl _,s.perm (p.append_right F),r⟩
theorem zu {α : Type} {T : Ty α} {e : TypeId} {u : Value} {l : List α} {ol : List Oper} (hM : zx T e u l ∈ M) (h : u.cells = #[u] → u.oneCell' = true → AL P T0 N false ops Q ol fr M) : AL P T0 N false ops Q ol fr M:=by
 have e : ∀ p : u.cells = #[u] ∧ u.oneCell' = true,AL P T0 N false ops Q ol fr M:=fun p=>h p.1 p.2
 simp only [AL,Bool.false_eq_true,if_false] at e ⊢
 exact fun w0 G F a w hc=>e (zu7 (hc.st.own _ (List.mem_append_left F hM))) w0 G F a w hc
theorem zhx {α : Type} {T : Ty α} {e : TypeId} {u : Value} {l : List α} {c : Code} (hM : zx T e u l ∈ M) (h : u.cells = #[u] → u.oneCell' = true → AW P T0 N c Q fr M) : AW P T0 N c Q fr M:=fun w0 G F a w hc=>by
 have h1:=zu7 (hc.st.own _ (List.mem_append_left F hM))
 exact h h1.1 h1.2 w0 G F a w hc
theorem zm7 {t e : TypeId} {x y : Operand} {b off n : Nat} {cells cells' l : List AV} {A : AV} {f : Own → List Own} (hg : o.guard = none) (hd : o.dst = none) (ho : o.op = .store t x y) (hz : ∀ w,(sizeOf t).run P w = .ok n w) (hx : Opd T0 fr x (vA (.pointer (some ⟨b,off,none⟩)))) (hy : Opd T0 fr y A) (hc : j5 A l) (hl : l.length = n) (h1 : OnesA l) (hU : UpdF (qd b e cells) M f) (hs : SetC cells off l cells')
  (h : AL P T0 N false ops Q rest fr (f (qd b e cells'))) : AL P T0 N false ops Q (o :: rest) fr M:=by
 obtain ⟨i,k1,k2⟩:=hU.spec
 obtain ⟨k3,k4⟩:=hs.spec
 subst hl; subst k4
 refine zt4 hg (ze0 i ho hz k1 hx hy hc h1 k3) hd (fun _ _ h=>h.elim) ?_
 rintro _ _ rfl
 rw [k2] at h; exact h
theorem zm8 {α : Type} {T : Ty α} {e : TypeId} {x y : Operand} {l : List α} {d z : α} {by' : Nat} {av : α → AV} {n : Nat} {u : Value} {A : AV} {f : Own → List Own} (hg : o.guard = none) (hd : o.dst = none) (ho : o.op = .store e x y) (he : El P T e d by' av) (hx : Opd T0 fr x (rpA u (n * T.k))) (hy : Opd T0 fr y A) (hU : UpdF (zx T e u l) M f) (hn : n < l.length) (hc : j5 A ((T.enc z).map vA))
  (h : AL P T0 N false ops Q rest fr (f (zx T e u (l.set n z)))) : AL P T0 N false ops Q (o :: rest) fr M:=by
 obtain ⟨i,k1,k2⟩:=hU.spec
 refine zt4 hg (zm6 i ho he k1 hx hn hy hc) hd (fun _ _ h=>h.elim) ?_
 rintro _ _ rfl
 rw [k2] at h; exact h
theorem zy1 {α : Type} {T : Ty α} {t e : TypeId} {x y : Operand} {l m : List α} {d : α} {by' : Nat} {av : α → AV} {u : Value} {f : Own → List Own} (hg : o.guard = none) (hd : o.dst = some x0) (hN : Nat.blt x0 N.n = true) (ho : o.op = .call { callee:=.builtin .append,args := #[x,y],argTypes := #[t,t] }) (hu : P.underlying t = some (.slice e)) (he : El P T e d by' av) (hx : Opd T0 fr x (vA u)) (hy : Opd T0 fr y (slA T m))
  (hU : UpdF (zx T e u l) M f) (hn : (l.length + m.length) * by' ≤ 140737488355328) (hm : l.length + m.length ≤ maxLen) (h : ∀ u',u'.cells = #[u'] → u'.oneCell' = true → AL P T0 N false ops Q rest ((x0,vA u') :: fr) (f (zx T e u' (l ++ m)))) : AL P T0 N false ops Q (o :: rest) fr M:=by
 obtain ⟨i,k1,k2⟩:=hU.spec
 refine zbg hg (zyx i ho hu he hx k1 hy hn hm) hd hN (fun _ _ h=>h.elim) ?_
 rintro _ _ ⟨u',rfl,rfl⟩
 have hi : i < M.length:=(List.getElem?_eq_some_iff.1 k1).1
 refine zu (T:=T) (e:=e) (u:=u') (l:=l ++ m) (List.mem_of_getElem? (i:=i) (by rw [List.getElem?_set]; simp [hi])) fun a b => ?_
 have:=h u' a b
 rw [k2] at this; exact this
theorem z6q {α : Type} {T : Ty α} {t e : TypeId} {x y : Operand} {n : Nat} {d : α} {by' : Nat} {av : α → AV} {k k' : IntKind} (hg : o.guard = none) (hd : o.dst = some x0) (hN : Nat.blt x0 N.n = true) (ho : o.op = .makeSlice t x y) (hu : P.underlying t = some (.slice e)) (he : El P T e d by' av) (hx : xi T0 fr x k n) (hy : xi T0 fr y k' n)
  (hn : by' * n ≤ 140737488355328) (hm : n ≤ maxLen) (h : ∀ u',u'.cells = #[u'] → u'.oneCell' = true → AL P T0 N false ops Q rest ((x0,vA u') :: fr) (zx T e u' (List.replicate n d) :: M)) : AL P T0 N false ops Q (o :: rest) fr M:=by
 refine zbg hg (zyu ho hu he hx hy hn hm) hd hN (fun _ _ h=>h.elim) ?_
 rintro _ _ ⟨u',rfl,rfl⟩
 exact zu (List.Mem.head _) fun a b=>h u' a b
theorem z2e {α : Type} {T : Ty α} {t e : TypeId} {d : α} {by' : Nat} {av : α → AV} (hg : o.guard = none) (hd : o.dst = some x0) (hN : Nat.blt x0 N.n = true) (ho : o.op = .buildSlice t 0 #[]) (hu : P.underlying t = some (.slice e)) (he : El P T e d by' av) (h : ∀ u',u'.cells = #[u'] → u'.oneCell' = true → AL P T0 N false ops Q rest ((x0,vA u') :: fr) (zx T e u' [] :: M)) : AL P T0 N false ops Q (o :: rest) fr M:=by
 refine zbg hg (z16 ho hu he) hd hN (fun _ _ h=>h.elim) ?_
 rintro _ _ ⟨u',rfl,rfl⟩
 exact zu (List.Mem.head _) fun a b=>h u' a b
theorem z2f {e : TypeId} {zs : List Value} {z : Value} {Z : List AV} (hg : o.guard = none) (hd : o.dst = some x0) (hN : Nat.blt x0 N.n = true) (ho : o.op = .alloc e) (hz : (P.info? e).map (·.zero) = some (some z) ∧ z.cells.toList = zs ∧ Z = zs.map vA) (h : ∀ b,AL P T0 N false ops Q rest ((x0,vA (.pointer (some ⟨b,0,none⟩))) :: fr) (qd b e Z :: M)) : AL P T0 N false ops Q (o :: rest) fr M:=by
 obtain ⟨h1,h2,rfl⟩:=hz
 refine zbg hg (zrz ho h1 h2) hd hN (fun _ _ h=>h.elim) ?_
 rintro _ _ ⟨b,rfl,rfl⟩
 exact h b
theorem z9x {e : TypeId} {x : Operand} {A : AV} {l : List AV} (hg : o.guard = none) (hd : o.dst = some x0) (hN : Nat.blt x0 N.n = true) (ho : o.op = .box e x) (hx : Opd T0 fr x A) (hc : j5 A l) (h : ∀ b,AL P T0 N false ops Q rest ((x0,vA (.pointer (some ⟨b,0,none⟩))) :: fr) (qd b e l :: M)) : AL P T0 N false ops Q (o :: rest) fr M:=by
 refine zbg hg (z9u ho hx hc) hd hN (fun _ _ h=>h.elim) ?_
 rintro _ _ ⟨b,rfl,rfl⟩
 exact h b
theorem zpl {α : Type} {T : Ty α} {t e : TypeId} {x y : Operand} {l m : List α} {d : α} {by' : Nat} {av : α → AV} {u : Value} {f : Own → List Own} (hg : o.guard = none) (hd : o.dst = some x0) (hN : Nat.blt x0 N.n = true) (ho : o.op = .call { callee:=.builtin .copy,args := #[x,y],argTypes := #[t,t] }) (hu : P.underlying t = some (.slice e)) (he : El P T e d by' av) (hx : Opd T0 fr x (vA u)) (hy : Opd T0 fr y (slA T m)) (hU : UpdF (zx T e u l) M f)
  (h : AL P T0 N false ops Q rest ((x0,I (m.take l.length).length) :: fr) (f (zx T e u (ovr l 0 (m.take l.length))))) : AL P T0 N false ops Q (o :: rest) fr M:=by
 obtain ⟨i,k1,k2⟩:=hU.spec
 refine zbg hg (zph i ho hu he hx k1 hy) hd hN (fun _ _ h=>h.elim) ?_
 rintro _ _ ⟨rfl,rfl⟩
 rw [k2] at h; exact h
theorem zpk {α : Type} {T : Ty α} {t e : TypeId} {x y : Operand} {l m : List α} {d : α} {by' off n : Nat} {av : α → AV} {u : Value} {f : Own → List Own} (hg : o.guard = none) (hd : o.dst = some x0) (hN : Nat.blt x0 N.n = true) (ho : o.op = .call { callee:=.builtin .copy,args := #[x,y],argTypes := #[t,t] }) (hu : P.underlying t = some (.slice e)) (he : El P T e d by' av) (hx : Opd T0 fr x (rsA T.k u off n)) (hy : Opd T0 fr y (slA T m)) (hU : UpdF (zx T e u l) M f) (hn : off + n ≤ l.length)
  (h : AL P T0 N false ops Q rest ((x0,I (m.take n).length) :: fr) (f (zx T e u (ovr l off (m.take n))))) : AL P T0 N false ops Q (o :: rest) fr M:=by
 obtain ⟨i,k1,k2⟩:=hU.spec
 refine zbg hg (zpg i ho hu he hx k1 hn hy) hd hN (fun _ _ h=>h.elim) ?_
 rintro _ _ ⟨rfl,rfl⟩
 rw [k2] at h; exact h
theorem zd {f : FuncId} {args : Array Operand} {ts : Array TypeId} {As : List AV} {m : Own} {K : AV → List Own → Prop} (hg : o.guard = none) (hd : o.dst = some x0) (hN : Nat.blt x0 N.n = true) (ho : o.op = .call { callee:=.value (.func f),args:=args,argTypes:=ts }) (ha : OpdAll T0 fr args.toList As) (c : AF P T0 f As [m] K) (hM : Pick m M M')
  (h : ∀ A M1,K A M1 → AL P T0 N false ops Q rest ((x0,A) :: fr) (M1 ++ M')) : AL P T0 N false ops Q (o :: rest) fr M:=by
 refine zr2 (zda hM.perm) ?_
 refine zbg hg (zhz ho ha c rfl) hd hN (fun _ _ h=>by obtain ⟨_,_,h⟩:=h; exact h.elim) ?_
 rintro A _ ⟨M1,rfl,k⟩
 exact h A M1 k
theorem zj {f : FuncId} {args : Array Operand} {ts : Array TypeId} {As : List AV} {K : AV → List Own → Prop} (hg : o.guard = none) (hd : o.dst = some x0) (hN : Nat.blt x0 N.n = true) (ho : o.op = .call { callee:=.value (.func f),args:=args,argTypes:=ts }) (ha : OpdAll T0 fr args.toList As) (c : AF P T0 f As [] K)
  (h : ∀ A M1,K A M1 → AL P T0 N false ops Q rest ((x0,A) :: fr) (M1 ++ M)) : AL P T0 N false ops Q (o :: rest) fr M:=by
 refine zbg hg (zhz (M1:=[]) ho ha c rfl) hd hN (fun _ _ h=>by obtain ⟨_,_,h⟩:=h; exact h.elim) ?_
 rintro A _ ⟨M1,rfl,k⟩
 exact h A M1 k
theorem z9s {α : Type} {T : Ty α} {e : TypeId} {u : Value} {l : List α} {c : Code} {fr' : Fr} {M1 M2 : List Own} (hM : Pick (zx T e u l) M M1) (hz : FzFr u T l fr fr') (hm : FzM u T l M1 M2) (h : AW P T0 N c Q fr' M2) : AW P T0 N c Q fr M:=by
 obtain ⟨i,h1,h2⟩:=hM.spec
 subst h2
 exact zt1 i h1 hz hm h
theorem zee {c : Code} {σ : Type} (fs : σ → Fr) (ms : σ → List Own) (inv : σ → Prop) (μ : σ → Nat) (s0 : σ) (h0 : inv s0) (hf0 : Weak fr (fs s0)) (hm0 : List.Sublist (ms s0) M)
  (round : ∀ s,inv s → AW P T0 N c (z_ (fun fr' M' => ∃ s',inv s' ∧ μ s' < μ s ∧ Weak fr' (fs s') ∧ List.Sublist (ms s') M') Q) (fs s) (ms s)) : AW P T0 N (.loop c) Q fr M:=by
 refine zys (fun n fr M => ∃ s,inv s ∧ n = μ s ∧ Weak fr (fs s) ∧ List.Sublist (ms s) M) (μ s0) ⟨s0,h0,rfl,hf0,hm0⟩ ?_
 rintro n fr M ⟨s,h1,rfl,h2,h3⟩
 refine zm5 (z1t h3) (zpf h2 (AW.mono (round s h1) fun e fr' M' q => ?_))
 cases e with
 |normal=>obtain ⟨s',a1,a2,a3,a4⟩:=q; exact ⟨μ s',a2,s',a1,rfl,a3,a4⟩
 |_=>exact q
theorem zjj {c : Code} {σ τ : Type} (fs : σ → τ → Fr) (ms : σ → τ → List Own) (inv : σ → τ → Prop) (μ : σ → τ → Nat) (s0 : σ) (t0 : τ) (h0 : inv s0 t0) (hf0 : Weak fr (fs s0 t0)) (hm0 : List.Sublist (ms s0 t0) M)
  (round : ∀ s t,inv s t → AW P T0 N c (z_ (fun fr' M' => ∃ s' t',inv s' t' ∧ μ s' t' < μ s t ∧ Weak fr' (fs s' t') ∧ List.Sublist (ms s' t') M') Q) (fs s t) (ms s t)) : AW P T0 N (.loop c) Q fr M :=
 zee (fun x : σ × τ=>fs x.1 x.2) (fun x=>ms x.1 x.2) (fun x=>inv x.1 x.2) (fun x=>μ x.1 x.2) (s0,t0) h0 hf0 hm0 fun x hx=>AW.mono (round x.1 x.2 hx) fun e fr' M' q=>by
  cases e with
  |normal=>obtain ⟨s',t',a⟩:=q; exact ⟨(s',t'),a⟩
  |_=>exact q
theorem AF.frz1 {α : Type} {T : Ty α} {e : TypeId} {f : FuncId} {As : List AV} {l : List α} {F : Value → AV} {A' : AV} {M0 : List Own} (h : AF P T0 f As M0 (fun A M' => ∃ u,A = F u ∧ M' = [zx T e u l])) (hz : ∀ u,FzA u T l (F u) A') : AF P T0 f As M0 (fun A M'=>Sub A A' ∧ M' = []) :=
 h.freeze fun A M' q=>by
  obtain ⟨u,rfl,rfl⟩:=q
  exact ⟨α,T,e,u,l,0,A',rfl,hz u,Sub.refl _,rfl⟩
end
end
section
open Go Go.RowKit
def vd : List (Int × Int):=[(4352,4447),(11904,12350),(12353,42191),(44032,55203),(63744,64255),(65072,65135),(65281,65376),(65504,65510),(127744,128591),(129280,129535),(131072,262141)]
def zgg : List Value:=vd.flatMap fun p=>[.int .i32 p.1,.int .i32 p.2]
def zep : List Value:=(List.range 256).map fun b=>.int .u8 (Go.Lib.firstT b : Nat)
def z2g : List Value:=(List.range 16).flatMap fun i=>[.int .u8 (Go.Lib.accLo i : Nat),.int .u8 (Go.Lib.accHi i : Nat)]
def z4b : Gh:=fun b o=>if b = 0 then zgg[o]? else none
def znl : Gh:=fun b o=>if b = 1 then zep[o]? else if b = 2 then z2g[o]? else none
class TabS (T : Gh) : Prop where h : Gh.le z4b T
class TabU (T : Gh) : Prop where h : Gh.le znl T
theorem yt {t : TypeId} {P : Program} (h : (match P.underlying t with | some (.struct _)=>true | some (.array _ _)=>true | some _=>false | none=>true) = false) (w : World) : (isAgg t).run P w = .ok false w:=by
 cases hu : P.underlying t with
 |none=>simp [hu] at h
 |some d=>cases d <;> simp [hu] at h <;> simp [isAgg,run_underlying hu]
theorem ku {t : TypeId} {P : Program} (h : (match P.underlying t with | some (.struct _)=>true | some (.array _ _)=>true | some _=>false | none=>false) = true) (w : World) : (isAgg t).run P w = .ok true w:=by
 cases hu : P.underlying t with
 |none=>simp [hu] at h
 |some d=>cases d <;> simp [hu] at h <;> simp [isAgg,run_underlying hu]
theorem xc {t : TypeId} {P : Program} {n : Nat} (h : (P.info? t).map (·.size) = some n) (w : World) : (sizeOf t).run P w = .ok n w:=by
 obtain ⟨i,h1,h2⟩:=Option.map_eq_some_iff.1 h
 simp [sizeOf,typeInfo,h1,h2]
theorem jo {t : TypeId} {P : Program} {n : Nat} (h : (P.info? t).map (·.size) = some (n + 1)) (w : World) : ∃ n,(sizeOf t).run P w = .ok (n + 1) w:=⟨n,xc h w⟩
class UnC (t : TypeId) (d : outParam TypeDesc) : Prop where h : Tryz.prog.underlying t = some d
class ElC {α : outParam Type} (e : TypeId) (T : outParam (Ty α)) (d : outParam α) (by' : outParam Nat) (av : outParam (α → AV)) : Prop where h : El Tryz.prog T e d by' av
class AggC (t : TypeId) (b : outParam Bool) : Prop where h : ∀ w,(isAgg t).run Tryz.prog w = .ok b w
class SzC (t : TypeId) (n : outParam Nat) : Prop where h : ∀ w,(sizeOf t).run Tryz.prog w = .ok n w
class SpC (t : TypeId) : Prop where h : ∀ w,∃ n,(sizeOf t).run Tryz.prog w = .ok (n + 1) w
class FldC (t i : Nat) (off : outParam Nat) (ft : outParam TypeId) : Prop where h : Fld Tryz.prog t i off ft
class StC (t : TypeId) (Z : outParam (List AV)) (pl : outParam (List (Nat × Nat))) : Prop where h : StT Tryz.prog t Z pl
class AlC (t : TypeId) (z : outParam Value) (zs : outParam (List Value)) (Z : outParam (List AV)) : Prop where h : (Tryz.prog.info? t).map (·.zero) = some (some z) ∧ z.cells.toList = zs ∧ Z = zs.map vA
theorem al_ {t : TypeId} {z : Value} {zs : List Value} {Z : List AV} [c : AlC t z zs Z] : (Tryz.prog.info? t).map (·.zero) = some (some z) ∧ z.cells.toList = zs ∧ Z = zs.map vA:=c.h
theorem un_ {t : TypeId} {d : TypeDesc} [c : UnC t d] : Tryz.prog.underlying t = some d:=c.h
theorem el_ {α : Type} {e : TypeId} {T : Ty α} {d : α} {by' : Nat} {av : α → AV} [c : ElC e T d by' av] : El Tryz.prog T e d by' av:=c.h
theorem zfb {t : TypeId} {b : Bool} [c : AggC t b] : ∀ w,(isAgg t).run Tryz.prog w = .ok b w:=c.h
theorem sz_ {t : TypeId} {n : Nat} [c : SzC t n] : ∀ w,(sizeOf t).run Tryz.prog w = .ok n w:=c.h
theorem sp_ {t : TypeId} [c : SpC t] : ∀ w,∃ n,(sizeOf t).run Tryz.prog w = .ok (n + 1) w:=c.h
theorem fl_ {t i off : Nat} {ft : TypeId} [c : FldC t i off ft] : Fld Tryz.prog t i off ft:=c.h
theorem st_ {t : TypeId} {Z : List AV} {pl : List (Nat × Nat)} [c : StC t Z pl] : StT Tryz.prog t Z pl:=c.h
theorem v1_ {T0 : Gh} {M : List Own} {t e : TypeId} {b off : Nat} {cells : List AV} {A : AV} [c : AggC t false] (hM : qd b e cells ∈ M) (hA : cells[off]? = some A) : LdK Tryz.prog T0 M t (vA (.pointer (some ⟨b,off,none⟩))) A:=qac c.h hM hA
theorem vn_ {T0 : Gh} {M : List Own} {t e : TypeId} {b off n : Nat} {cells l : List AV} [c : AggC t true] [z : SzC t n] (hM : qd b e cells ∈ M) (hl : SubC cells off n l) : LdK Tryz.prog T0 M t (vA (.pointer (some ⟨b,off,none⟩))) (z0 l):=qab c.h z.h hM hl
theorem r1_ {α : Type} {T : Ty α} {T0 : Gh} {M : List Own} {t e : TypeId} {l : List α} {off n : Nat} {z : α} {u v : Value} [c : AggC t false] (hM : zx T e u l ∈ M) (hz : l[n]? = some z) (hv : (T.enc z)[off]? = some v) : LdK Tryz.prog T0 M t (rpA u (n * T.k + off)) (vA v):=qad c.h hM hz hv
abbrev zp:=Int × Int
def qg : Ty zp:={ enc:=fun c=>[.int .i32 c.1,.int .i64 c.2],k:=2,len:=fun _=>rfl }
def zhr (c : zp) : AV:=z0 [R c.1,I c.2]
theorem zo6 : El Tryz.prog qg 87 (0,0) 16 zhr:=⟨⟨.agg #[.int .i32 0,.int .i64 0],by kernel_rfl,rfl⟩,by decide,fun x v hv=>by simp [qg] at hv; rcases hv with rfl | rfl <;> rfl,.inl ⟨ku (by kernel_rfl),fun x=>rfl⟩⟩
instance qgv : ElC 87 qg (0,0) 16 zhr:=⟨zo6⟩
theorem z4d : StT Tryz.prog 87 [R 0,I 0] [(0,1),(1,1)]:=StT.mk' _ [.int .i32 0,.int .i64 0] Tryz.underlying87 (by kernel_rfl) (by kernel_rfl)
instance qgf : StC 87 [R 0,I 0] [(0,1),(1,1)]:=⟨z4d⟩
theorem znj : Tryz.prog.underlying 87 = some (.struct #[{ name := "R",type:=21,offset:=0,embedded:=false,tag := "",pkgPath := "",byteOffset:=0 },{ name := "K",type:=3,offset:=1,embedded:=false,tag := "",pkgPath := "",byteOffset:=8 }]):=Tryz.underlying87
theorem zwq : Fld Tryz.prog 87 0 0 21:=⟨_,_,znj,rfl,rfl,rfl⟩
instance qgt : FldC 87 0 0 21:=⟨zwq⟩
theorem zwr : Fld Tryz.prog 87 1 1 3:=⟨_,_,znj,rfl,rfl,rfl⟩
instance qgs : FldC 87 1 1 3:=⟨zwr⟩
theorem zuh : ∀ w,(isAgg 87).run Tryz.prog w = .ok true w:=ku (by kernel_rfl)
instance qg5 : AggC 87 true:=⟨zuh⟩
theorem zuv : ∀ w,(sizeOf 87).run Tryz.prog w = .ok 2 w:=xc (by kernel_rfl)
instance qga : SzC 87 2:=⟨zuv⟩
theorem zds : Tryz.prog.underlying 4 = some .bool:=Tryz.underlying4
instance qf2 : UnC 4 .bool:=⟨zds⟩
theorem zps : Tryz.prog.underlying 25 = some (.slice 87):=Tryz.underlying25
instance qf1 : UnC 25 (.slice 87):=⟨zps⟩
theorem zqh : ∀ w,(isAgg 3).run Tryz.prog w = .ok false w:=yt (by kernel_rfl)
instance qgr : AggC 3 false:=⟨zqh⟩
theorem ya : ∀ w,(isAgg 21).run Tryz.prog w = .ok false w:=yt (by kernel_rfl)
instance qgq : AggC 21 false:=⟨ya⟩
theorem zn2 : ∀ w,(isAgg 4).run Tryz.prog w = .ok false w:=yt (by kernel_rfl)
instance qgp : AggC 4 false:=⟨zn2⟩
theorem qaa : ∀ w,(isAgg 5).run Tryz.prog w = .ok false w:=yt (by kernel_rfl)
instance qgo : AggC 5 false:=⟨qaa⟩
theorem z79 : ∀ w,(isAgg 9).run Tryz.prog w = .ok false w:=yt (by kernel_rfl)
instance qgn : AggC 9 false:=⟨z79⟩
theorem z0m : ∀ w,(isAgg 31).run Tryz.prog w = .ok false w:=yt (by kernel_rfl)
instance qgm : AggC 31 false:=⟨z0m⟩
instance qd7 : UnC 5 (.int .u8):=⟨Tryz.underlying5⟩
instance qcd : UnC 21 (.int .i32):=⟨Tryz.underlying21⟩
instance qcc : UnC 3 (.int .i64):=⟨Tryz.underlying3⟩
theorem z7n : ∀ w,∃ n,(sizeOf 3).run Tryz.prog w = .ok (n + 1) w:=jo (n:=0) (by kernel_rfl)
instance qgl : SpC 3:=⟨z7n⟩
theorem z7o : ∀ w,∃ n,(sizeOf 21).run Tryz.prog w = .ok (n + 1) w:=jo (n:=0) (by kernel_rfl)
instance qgk : SpC 21:=⟨z7o⟩
theorem z4f : ∀ w,∃ n,(sizeOf 4).run Tryz.prog w = .ok (n + 1) w:=jo (n:=0) (by kernel_rfl)
instance qgj : SpC 4:=⟨z4f⟩
theorem zgd : Tryz.prog.underlying 27 = some (.struct #[{ name := "W",type:=3,offset:=0,embedded:=false,tag := "",pkgPath := "",byteOffset:=0 },{ name := "H",type:=3,offset:=1,embedded:=false,tag := "",pkgPath := "",byteOffset:=8 },{ name := "L",type:=25,offset:=2,embedded:=false,tag := "",pkgPath := "",byteOffset:=16 }]):=Tryz.underlying27
instance qge : StC 27 [I 0,I 0,vA (.slice none 0 0)] [(0,1),(1,1),(2,1)]:=⟨StT.mk' _ [.int .i64 0,.int .i64 0,.slice none 0 0] zgd (by kernel_rfl) (by kernel_rfl)⟩
instance qfc : FldC 27 0 0 3:=⟨_,_,zgd,rfl,rfl,rfl⟩
instance qfb : FldC 27 1 1 3:=⟨_,_,zgd,rfl,rfl,rfl⟩
instance qfa : FldC 27 2 2 25:=⟨_,_,zgd,rfl,rfl,rfl⟩
instance qg4 : AggC 27 true:=⟨ku (by kernel_rfl)⟩
instance qf7 : SzC 27 3:=⟨xc (by kernel_rfl)⟩
instance qgi : SpC 27:=⟨jo (n:=2) (by kernel_rfl)⟩
instance qgz : AlC 27 (.agg #[.int .i64 0,.int .i64 0,.slice none 0 0]) [.int .i64 0,.int .i64 0,.slice none 0 0] [I 0,I 0,vA (.slice none 0 0)]:=⟨by kernel_rfl,rfl,rfl⟩
abbrev qp (w h : Int) (l : List zp) : AV:=z0 [I w,I h,slA qg l]
instance qfu : AggC 25 false:=⟨yt (by kernel_rfl)⟩
instance qeh : SzC 25 1:=⟨xc (by kernel_rfl)⟩
instance qex : SpC 25:=⟨jo (n:=0) (by kernel_rfl)⟩
instance qg1 : AlC 87 (.agg #[.int .i32 0,.int .i64 0]) [.int .i32 0,.int .i64 0] [R 0,I 0]:=⟨by kernel_rfl,rfl,rfl⟩
theorem z6f {a b : Int} : j5 (z0 [R a,I b]) ((qg.enc (a,b)).map vA):=zbm
theorem uk : Tryz.prog.underlying 195 = some (.array 11 194):=Tryz.underlying195
theorem vu : Tryz.prog.underlying 194 = some (.array 2 21):=Tryz.underlying194
theorem zdu : ∀ w,(sizeOf 194).run Tryz.prog w = .ok 2 w:=xc (by kernel_rfl)
theorem y5 : ∀ w,(sizeOf 21).run Tryz.prog w = .ok 1 w:=xc (by kernel_rfl)
instance qf_ : SzC 21 1:=⟨y5⟩
theorem z7l : ∀ w,(sizeOf 3).run Tryz.prog w = .ok 1 w:=xc (by kernel_rfl)
instance qf9 : SzC 3 1:=⟨z7l⟩
theorem za4 {T0 : Gh} [c : TabS T0] {fr : Fr} : Opd T0 fr (.global 0) (ipA zgg):=zj3 fun j v h=>c.h _ _ _ (by simpa [z4b] using h)
theorem k_ : ∀ (m : Nat) (p : Int × Int),vd[m]? = some p → ((zgg.drop (m * 2)).drop (0 * 1))[0]? = some (.int .i32 p.1) ∧ ((zgg.drop (m * 2)).drop (1 * 1))[0]? = some (.int .i32 p.2):=by
 intro m p h
 have hm : m < 11:=(List.getElem?_eq_some_iff.1 h).1
 have hm' : m = 0 ∨ m = 1 ∨ m = 2 ∨ m = 3 ∨ m = 4 ∨ m = 5 ∨ m = 6 ∨ m = 7 ∨ m = 8 ∨ m = 9 ∨ m = 10:=by omega
 rcases hm' with rfl | rfl | rfl | rfl | rfl | rfl | rfl | rfl | rfl | rfl | rfl <;> (have h':=Option.some.inj h; subst h'; exact ⟨rfl,rfl⟩)
theorem zqd {T0 : Gh} [c : TabU T0] {fr : Fr} : Opd T0 fr (.global 1) (ipA zep):=zj3 fun j v h=>c.h _ _ _ (by simpa [znl] using h)
theorem z2t {T0 : Gh} [c : TabU T0] {fr : Fr} : Opd T0 fr (.global 2) (ipA z2g):=zj3 fun j v h=>c.h _ _ _ (by
 unfold znl; rw [if_neg (by decide),if_pos rfl]; exact h)
section
variable {T0 : Gh} {fr : Fr} {M : List Own} {ops : Array Oper} {o : Oper}
theorem zrp {t : TypeId} {x : Operand} {r k : Int} (ho : o.op = .buildSlice t 1 #[(0,x)]) (hu : Tryz.prog.underlying t = some (.slice 87)) (hx : Opd T0 fr x (z0 [R r,I k])) : AY Tryz.prog T0 ops o fr M (slA qg [(r,k)]) :=
 AY.sub (zr [(r,k)] ho hu zo6 rfl (by decide) ⟨_,qbs hx rfl zbk,rfl⟩) qw
theorem zro {t : TypeId} {x y : Operand} {r k r' k' : Int} (ho : o.op = .buildSlice t 2 #[(0,x),(1,y)]) (hu : Tryz.prog.underlying t = some (.slice 87)) (hx : Opd T0 fr x (z0 [R r,I k])) (hy : Opd T0 fr y (z0 [R r',I k'])) : AY Tryz.prog T0 ops o fr M (slA qg [(r,k),(r',k')]) :=
 AY.sub (zr [(r,k),(r',k')] ho hu zo6 rfl (by decide) ⟨_,qbs hx rfl (z7x hy zbm rfl rfl zbk),rfl⟩) qw
theorem z5o : (Tryz.prog.fieldsOf 87).toList = [{ name := "R",type:=21,offset:=0,embedded:=false,tag := "",pkgPath := "",byteOffset:=0 },{ name := "K",type:=3,offset:=1,embedded:=false,tag := "",pkgPath := "",byteOffset:=8 }]:=by kernel_rfl
theorem z3b (d : Nat) (a b : Int) (w : World) : (Op.equalIn (d + 1) 21 (.int .i32 a) (.int .i32 b)).run Tryz.prog w = .ok (a == b) w:=run_equalIn_int w d _ .i32 .i32 a b Tryz.underlying21
theorem zxs (d : Nat) (a b : Int) (w : World) : (Op.equalIn (d + 1) 3 (.int .i64 a) (.int .i64 b)).run Tryz.prog w = .ok (a == b) w:=run_equalIn_int w d _ .i64 .i64 a b Tryz.underlying3
theorem zbs (d : Nat) (a b : zp) (w : World) : (Op.equalIn (d + 2) 87 (.agg #[.int .i32 a.1,.int .i64 a.2]) (.agg #[.int .i32 b.1,.int .i64 b.2])).run Tryz.prog w = .ok (decide (a = b)) w:=by
 rw [run_equalIn_agg _ _ _ _ _ (by kernel_rfl) (by kernel_rfl),z5o]
 obtain ⟨a1,a2⟩:=a
 obtain ⟨b1,b2⟩:=b
 simp [Op.eqFields,part,ya,zqh,z3b,zxs]
 by_cases h1 : a1 = b1 <;> by_cases h2 : a2 = b2 <;> simp [h1,h2]
theorem zrf (op : BinOp) (x y : Operand) (xs ys : Array Value) (w : World) : (eqGuard op 87 x y (.agg xs) (.agg ys)).run Tryz.prog w = .ok () w:=run_eqGuard_agg w op _ x y xs ys (by kernel_rfl)
theorem zpc {x y : Operand} {a1 a2 b1 b2 : Int} {t' : TypeId} (ho : o.op = .binOp .eql 87 x y t') (hx : Opd T0 fr x (z0 [R a1,I a2])) (hy : Opd T0 fr y (z0 [R b1,I b2])) : AY Tryz.prog T0 ops o fr M (B (decide (((a1,a2) : zp) = (b1,b2)))):=xl fun w0 G F a w hs hf=>by
 obtain ⟨us,h1,r1⟩:=(hx.use (o:=o) (ops:=ops) (by simp [ho,Op.operands]) hs.tab hf).agg
 obtain ⟨vs,h2,r2⟩:=(hy.use (o:=o) (ops:=ops) (by simp [ho,Op.operands]) hs.tab hf).agg
 obtain rfl:=xz (zs:=[.int .i32 a1,.int .i64 a2]) r1
 obtain rfl:=xz (zs:=[.int .i32 b1,.int .i64 b2]) r2
 have h3:=zbs 9998 (a1,a2) (b1,b2) w
 refine ⟨_, ?_,Rep.va _ _⟩
 simp only [execOp,ho,h1,h2,Sem.run_bind,zrf,Result.andThen_ok,run_eql_struct,h3,Sem.run_pure]
theorem zpb {x y : Operand} {a1 a2 b1 b2 : Int} {t' : TypeId} (ho : o.op = .binOp .neq 87 x y t') (hx : Opd T0 fr x (z0 [R a1,I a2])) (hy : Opd T0 fr y (z0 [R b1,I b2])) : AY Tryz.prog T0 ops o fr M (B (!decide (((a1,a2) : zp) = (b1,b2)))):=xl fun w0 G F a w hs hf=>by
 obtain ⟨us,h1,r1⟩:=(hx.use (o:=o) (ops:=ops) (by simp [ho,Op.operands]) hs.tab hf).agg
 obtain ⟨vs,h2,r2⟩:=(hy.use (o:=o) (ops:=ops) (by simp [ho,Op.operands]) hs.tab hf).agg
 obtain rfl:=xz (zs:=[.int .i32 a1,.int .i64 a2]) r1
 obtain rfl:=xz (zs:=[.int .i32 b1,.int .i64 b2]) r2
 have h3:=zbs 9998 (a1,a2) (b1,b2) w
 refine ⟨_, ?_,Rep.va _ _⟩
 simp only [execOp,ho,h1,h2,Sem.run_bind,zrf,Result.andThen_ok,run_neq_struct,h3,Sem.run_pure]
theorem z58 {a1 a2 b1 b2 : Int} : EqK Tryz.prog 87 (z0 [R a1,I a2]) (z0 [R b1,I b2]) (decide (((a1,a2) : zp) = (b1,b2))):=fun _ _ _ _ _ _ _ _ hx hy=>⟨fun ho=>zpc ho hx hy,fun ho=>zpb ho hx hy⟩
end
end
section
open Go Go.RowKit
section
variable {P : Program} {T0 : Gh} {N : Fz} {Q : kw} {fr : Fr} {M M' : List Own} {ops : Array Oper} {o : Oper} {rest : List Oper} {x0 : Nat}
structure Nice (c : Bool) (p q : Prop) : Prop where
 t : c = true → p
 f : c = false → q
theorem z75 : Nice true True False:=⟨fun _=>trivial,fun h=>(nomatch h)⟩
theorem z76 : Nice false False True:=⟨fun h=>(nomatch h),fun _=>trivial⟩
theorem z77 {p : Prop} [Decidable p] : Nice (decide p) p (¬ p):=⟨of_decide_eq_true,of_decide_eq_false⟩
theorem z0e {c : Bool} {p q : Prop} (h : Nice c p q) : Nice (!c) q p:=⟨fun e=>h.f (by cases c <;> simp_all),fun e=>h.t (by cases c <;> simp_all)⟩
theorem z0h {a b : Bool} {p q p' q' : Prop} (h : Nice a p q) (k : Nice b p' q') : Nice (a && b) (p ∧ p') (q ∨ q'):=⟨fun e=>(by cases a <;> cases b <;> first | exact ⟨h.t rfl,k.t rfl⟩ | (cases e)),fun e=>by
 cases a
 ·exact .inl (h.f rfl)
 ·cases b
  ·exact .inr (k.f rfl)
  ·cases e⟩
theorem z42 {a b : Bool} {p q p' q' : Prop} (h : Nice a p q) (k : Nice b p' q') : Nice (a || b) (p ∨ p') (q ∧ q'):=⟨fun e=>by
 cases a
 ·cases b
  ·cases e
  ·exact .inr (k.t rfl)
 ·exact .inl (h.t rfl),fun e=>(by cases a <;> cases b <;> first | exact ⟨h.f rfl,k.f rfl⟩ | (cases e))⟩
theorem zvr {a : Bool} {p q : Prop} (h : Nice a p q) : Nice (true && a) p q:=⟨fun e=>h.t (by simpa using e),fun e=>h.f (by simpa using e)⟩
theorem z0f {c : Bool} {p q : Prop} (h : Nice c p q) : Nice (c == true) p q:=⟨fun e=>h.t (by simpa using e),fun e=>h.f (by simpa using e)⟩
theorem z0g {c : Bool} {p q : Prop} (h : Nice c p q) : Nice (c == false) q p:=⟨fun e=>h.f (by simpa using e),fun e=>h.t (by simpa using e)⟩
theorem z78 {c : Bool} : Nice c (c = true) (c = false):=⟨id,id⟩
theorem z0i {c : Bool} {p q : Prop} (h : Nice c p q:=by
 first
 |(with_reducible repeat' (first
   |exact z75
   |exact z76
   |exact z77
   |apply z0e
   |apply zvr
   |apply z0h
   |apply z42
   |apply z0f
   |apply z0g
   |exact z78)
   done)
 |fail) : Nice c p q:=h
theorem zb {t : Nat} {x y : Code} {c : Bool} {p q : Prop} (ht : p → AW P T0 N x Q fr M) (hf : q → AW P T0 N y Q fr M) (hc : fr.get t = some (B c):=by rfl) (hn : Nice c p q:=by first | exact z0i | fail) : AW P T0 N (.cond (.tmp t) x y) Q fr M:=z6p hc (fun e=>ht (hn.t e)) (fun e=>hf (hn.f e))
def zbw {α : Type _} : List α → Bool
 |[]=>true
 |_ :: l=>zbw l
theorem hk_ {p : Prop} (h : p:=by
 first
 |(first
   |assumption
   |(refine gd ?_ ?_ <;> assumption)
   |(refine gd rfl ?_; assumption)
   |(apply gl; assumption)
   |(refine gd (by apply gl; assumption) ?_; assumption)
   done)
 |fail) : p:=h
theorem oo_ {x : Operand} {A : AV} (h : Opd T0 fr x A:=by
 first
 |exact od rfl
 |(refine og rfl ?_; exact hk_)
 |fail) : Opd T0 fr x A:=h
theorem qe {x : Operand} {A : AV} (h : Opd T0 fr x A:=by
 first
 |(refine og rfl ?_; exact hk_)
 |exact od rfl
 |fail) : Opd T0 fr x A:=h
theorem ol_ {x : Operand} {A : AV} (h : Opd T0 fr x A:=by
 first
 |(apply odl rfl; with_reducible rfl)
 |exact od rfl
 |(refine og rfl ?_; exact hk_)
 |fail) : Opd T0 fr x A:=h
theorem on_ {x : Operand} {k : IntKind} {n : Nat} (h : xi T0 fr x k n:=by
 first
 |(apply qbt rfl; with_reducible rfl)
 |exact odn rfl
 |(refine ogn rfl ?_; exact hk_)
 |fail) : xi T0 fr x k n:=h
theorem zgo {x : Operand} {k : IntKind} {n : Nat} (h : xi T0 fr x k n:=by
 first
 |(refine ogn rfl ?_; exact hk_)
 |(apply qbt rfl; with_reducible rfl)
 |exact odn rfl
 |fail) : xi T0 fr x k n:=h
theorem os_ {xs : List Operand} {l : List AV} (hb : zbw xs = true:=by rfl) (h : OpdAll T0 fr xs l:=by
 first
 |(repeat' (first
   |exact wn
   |apply wm oo_)
   done)
 |fail) : OpdAll T0 fr xs l:=h
theorem qdx {xs : List Operand} {l : List AV} (hb : zbw xs = true:=by rfl) (h : OpdAll T0 fr xs l:=by
 first
 |(repeat' (first
   |exact wn
   |apply wm qe)
   done)
 |fail) : OpdAll T0 fr xs l:=h
theorem gb_ {p : Prop} (h : p:=by
 first
 |(first
   |omega
   |(simp only [List.length_append,List.length_nil,List.length_cons,List.nil_append,List.length_replicate,List.length_set,List.length_take,List.length_drop]; omega)
   done)
 |fail) : p:=h
theorem zca {k : IntKind} {n : Int} (h : Fit k n:=by
 first
 |(first
   |exact qa2 (by omega) (by omega)
   |exact qa3 (by omega) (by omega)
   |exact qd2 (by omega) (by omega)
   done)
 |fail) : Fit k n:=h
theorem wk_ {fr' : Fr} (hb : zbw fr' = true:=by rfl) (h : Weak fr fr':=by
 first
 |(repeat' (first
   |exact zpm
   |refine u7 rfl ?_)
   done)
 |fail) : Weak fr fr':=h
theorem sl_ {α : Type _} {l m : List α} (hb : zbw m = true:=by rfl) (h : List.Sublist l m:=by
 first
 |(repeat' (first
   |exact List.nil_sublist _
   |apply List.Sublist.cons_cons
   |apply List.Sublist.cons)
   done)
 |fail) : List.Sublist l m:=h
theorem vh {α : Type _} {x : α} {l : List α} (hb : zbw l = true:=by rfl) (h : x ∈ l:=by
 first
 |(repeat' (first
   |exact List.Mem.head _
   |apply List.Mem.tail)
   done)
 |fail) : x ∈ l:=h
theorem zdi {m : Own} {f : Own → List Own} (hb : zbw M = true:=by rfl) (h : UpdF m M f:=by
 first
 |(repeat' (first
   |exact UpdF.here
   |apply UpdF.next)
   done)
 |fail) : UpdF m M f:=h
theorem zf {m : Own} (hb : zbw M = true:=by rfl) (h : Pick m M M':=by
 first
 |(repeat' (first
   |exact Pick.here
   |apply Pick.next)
   done)
 |fail) : Pick m M M':=h
theorem zh7 {s l r : List AV} {n : Nat} (hb : zbw s = true:=by rfl) (h : SetC s n l r:=by
 first
 |(repeat' (first
   |exact zsd
   |apply SetC.here
   |apply SetC.next)
   done)
 |fail) : SetC s n l r:=h
theorem zzp {s r : List AV} {off n : Nat} (hb : zbw s = true:=by rfl) (h : SubC s off n r:=by
 first
 |(repeat' (first
   |exact SubC.nil
   |apply SubC.here
   |apply SubC.next)
   done)
 |fail) : SubC s off n r:=h
theorem zx8 {A : AV} {l : List AV} (h : j5 A l:=by
 first
 |(first
   |exact zbm
   |exact zts rfl
   |exact zts (by assumption)
   |exact qbg
   |exact z9k
   done)
 |fail) : j5 A l:=h
theorem z1z {c : zp} : j5 (zhr c) ((qg.enc c).map vA):=zbm
theorem qd5 {A : AV} {l : List AV} (h : j5 A l:=by
 first
 |(first
   |exact z1z
   |exact z6f
   |exact zbm
   |exact zts (by rfl)
   done)
 |fail) : j5 A l:=h
theorem zlr {l : List AV} (hb : zbw l = true:=by rfl) (h : OnesA l:=by
 first
 |(repeat' (first
   |exact z_7
   |apply z_6
   |exact z7z rfl
   |exact z7z (by assumption)
   |exact z70
   |exact z4y)
   done)
 |fail) : OnesA l:=h
theorem px_ {pl : List (Nat × Nat)} {r : List (Nat × Operand)} {acc res : List AV} (hb : zbw r = true:=by rfl) (h : wk T0 fr pl r acc res:=by
 first
 |(repeat' (first
   |exact zbk
   |apply pk oo_ zx8 rfl zh7)
   done)
 |fail) : wk T0 fr pl r acc res:=h
theorem qdw {pl : List (Nat × Nat)} {r : List (Nat × Operand)} {acc res : List AV} (hb : zbw r = true:=by rfl) (h : wk T0 fr pl r acc res:=by
 first
 |(repeat' (first
   |exact zbk
   |apply pk qe zx8 rfl zh7)
   done)
 |fail) : wk T0 fr pl r acc res:=h
theorem qb8 {α : Type} {u : Value} {T : Ty α} {l : List α} {r r' : Fr} (hb : zbw r = true:=by rfl) (h : FzFr u T l r r':=by
 first
 |(repeat' (first
   |exact zwh
   |apply zqw
   |exact zg1
   |apply z28
   |apply z27
   |exact zkc
   |exact zod
   |apply zkb)
   done)
 |fail) : FzFr u T l r r':=h
theorem z8p {α : Type} {u : Value} {T : Ty α} {l : List α} (hb : zbw M = true:=by rfl) (h : FzM u T l M M':=by
 first
 |(repeat' (first
   |exact z5l
   |apply z06
   |apply z5k
   |exact fzo_keep
   |exact zod
   |apply zkb
   |exact zg1
   |exact zkc)
   done)
 |fail) : FzM u T l M M':=h
theorem ze8 {α : Type} {T : Ty α} {l : List α} {F : Value → AV} {A' : AV} (h : ∀ u,FzA u T l (F u) A':=by
 first
 |(intro u
   repeat' (first
   |exact zg1
   |apply z28
   |apply z27
   |exact zod
   |apply zkb
   |exact zkc)
   done)
 |fail) : ∀ u,FzA u T l (F u) A':=h
theorem rs_ {fn : Func} {A : AV} (h : zjl Tryz.prog T0 fn fr M A:=by
 first
 |(first
   |exact qdu rfl rfl
   |exact qdt rfl rfl rfl
   |exact qds rfl rfl rfl rfl
   |exact qdv rfl
   |((first
      |apply z_v rfl rfl
      |apply z_u rfl rfl rfl) <;> (repeat' (first
       |exact List.Mem.head _
       |apply List.Mem.tail
       |exact zfb
       |exact sz_
       |rfl)); done)
   done)
 |fail) : zjl Tryz.prog T0 fn fr M A:=h
theorem ge_ {α : Type} {l : List α} {i : Nat} {c : α} (h : l[i]? = some c:=by
 first
 |(first
   |assumption
   |exact zng gb_
   |exact List.getElem?_eq_getElem gb_
   |exact z8h gb_
   |exact rfl
   done)
 |fail) : l[i]? = some c:=h
theorem qdo {A A' : AV} (h : Sub A A':=by
 first
 |(first
   |exact Sub.refl _
   |exact qw
   |(refine ka ?_
     repeat' (first
     |exact vj
     |refine qb (by first | exact Sub.refl _ | exact qw) ?_))
   done)
 |fail) : Sub A A':=h
theorem QY.sub {A A' : AV} (h : QY P T0 ops o fr M A) (s : Sub A A') : QY P T0 ops o fr M A':=fun w0 G F a w hs hf =>
 let ⟨h1,h2⟩:=h w0 G F a w hs hf
 ⟨fun hw next Qc k=>h1 hw next Qc fun G' u w' hl hs' hu=>k G' u w' hl hs' (s _ _ hu),fun hw=>s _ _ (h2 hw)⟩
def GK (P : Program) (T0 : Gh) (ops : Array Oper) (o : Oper) (fr : Fr) (k : Bool) : Prop := ∀ (M : List Own) (A : AV),(k = true → AY P T0 ops o fr M A) → QY P T0 ops o fr M (gvA k A)
theorem zuw {A : AV} : Sub A (gvA true A):=fun _ _ h=>.of ⟨fun _=>h,fun e=>(nomatch e)⟩
theorem z5c {A : AV} : Sub (gvA true A) A:=fun _ _ h=>h.gv.1 rfl
theorem zqq (hg : o.guard = none) : GK P T0 ops o fr true:=fun _ _ h=>(zp8 hg (h rfl)).sub zuw
theorem z22 {g t : Nat} {want k c : Bool} (hg : o.guard = some (g,want)) (ht : (ops[g]?).bind (·.dst) = some t) (hs : ux fr t k c) (hc : (k && (c == want)) = true) : GK P T0 ops o fr true:=fun _ _ h=>(z7u hg ht hs hc (h rfl)).sub zuw
theorem z8f {g t : Nat} {want k c : Bool} (hg : o.guard = some (g,want)) (ht : (ops[g]?).bind (·.dst) = some t) (hs : ux fr t k c) : GK P T0 ops o fr (k && (c == want)):=fun _ _ h=>z_0 hg ht hs h
theorem gk_ {k : Bool} (h : GK P T0 ops o fr k:=by
 first
 |(first
   |exact zqq rfl
   |exact z22 rfl rfl (zd6 rfl) rfl
   |exact z8f rfl rfl (zd6 rfl)
   |exact z8f rfl rfl (z0y rfl)
   done)
 |fail) : GK P T0 ops o fr k:=h
inductive OutK : Bool → AV → AV → Prop
 |t {A : AV} : OutK true A A
 |g {k : Bool} {A : AV} : OutK k A (gvA k A)
theorem OutK.qy {k : Bool} {A A' : AV} (h : OutK k A A') (q : QY P T0 ops o fr M (gvA k A)) : QY P T0 ops o fr M A':=by
 cases h
 ·exact q.sub z5c
 ·exact q
theorem z_g {d : Bool} {A A' : AV} {k : Bool} (hg : GK P T0 ops o fr k) (hy : k = true → AY P T0 ops o fr M A) (hA : OutK k A A') (hx : o.dst = some x0) (hd : Nat.blt x0 N.n = true) (h : AL P T0 N d ops Q rest ((x0,A') :: fr) M) : AL P T0 N d ops Q (o :: rest) fr M:=qdg (hA.qy (hg M A hy)) hx hd h
theorem z7q {d : Bool} (h : AL P T0 N d ops Q rest ((x0,z1_) :: fr) M) (hs : QY P T0 ops o fr M z1_:=by first | exact z4r rfl rfl (zd6 rfl) rfl | fail) (hx : o.dst = some x0:=by rfl) (hd : Nat.blt x0 N.n = true:=by rfl) : AL P T0 N d ops Q (o :: rest) fr M:=qdg hs hx hd h
end
section
variable {T0 : Gh} {N : Fz} {Q : kw} {fr : Fr} {M M' : List Own} {ops : Array Oper} {o : Oper} {rest : List Oper} {x0 : Nat}
theorem lt_ {a b : Nat} (h : a < b:=by
 first
 |exact gb_
 |fail) : a < b:=h
theorem le_ {a b : Nat} (h : a ≤ b:=by
 first
 |exact gb_
 |fail) : a ≤ b:=h
theorem lo_ {x : Option Operand} {n : Nat} (h : zua x n T0 fr:=by
 first
 |exact zvz
 |(apply qbw; exact on_)
 |fail) : zua x n T0 fr:=h
theorem hi_ {x : Option Operand} {n m : Nat} (h : zwc x n m T0 fr:=by
 first
 |exact zwb
 |(apply qb0; exact on_)
 |fail) : zwc x n m T0 fr:=h
theorem z92 {b v : Bool} {x : Operand} {A : AV} (h : b = v → Opd T0 fr x A:=by
 first
 |(intro hp
   exact qe)
 |fail) : b = v → Opd T0 fr x A:=h
theorem qbv {x : Option Operand} {n : Nat} (h : zua x n T0 fr:=by
 first
 |exact zvz
 |(apply qbw; exact zgo)
 |fail) : zua x n T0 fr:=h
theorem qbz {x : Option Operand} {n m : Nat} (h : zwc x n m T0 fr:=by
 first
 |exact zwb
 |(apply qb0; exact zgo)
 |fail) : zwc x n m T0 fr:=h
theorem ld_ {t : TypeId} {A R : AV} (h : LdK Tryz.prog T0 M t A R:=by
 first
 |exact qak el_
 |exact qdz zfb
 |(apply v1_; exact vh; rfl)
 |(apply vn_; exact vh; exact zzp)
 |(apply mk_r el_; exact vh; exact ge_)
 |(apply r1_; exact vh; exact ge_; rfl)
 |fail) : LdK Tryz.prog T0 M t A R:=h
theorem ix_ {t : TypeId} {A R : AV} {n : Nat} (h : IxK Tryz.prog T0 M t A n R:=by
 first
 |(apply zam un_ el_; exact ge_)
 |(apply qae un_ el_; exact vh; exact lt_)
 |(apply ik_sub un_ el_; exact lt_)
 |fail) : IxK Tryz.prog T0 M t A n R:=h
theorem fa_ {t i : Nat} {A R : AV} (h : FaK Tryz.prog T0 M t i A R:=by
 first
 |exact qbn fl_ sp_
 |exact z9y fl_ sp_
 |exact z9z fl_ sp_
 |fail) : FaK Tryz.prog T0 M t i A R:=h
theorem fd_ {t i : Nat} {l : List AV} {R : AV} (h : FdK Tryz.prog T0 M t i l R:=by
 first
 |exact qd4 fl_ zfb rfl
 |(apply fn_; exact zzp)
 |fail) : FdK Tryz.prog T0 M t i l R:=h
theorem ln_ {t : TypeId} {A R : AV} (h : LnK Tryz.prog T0 M t A R:=by
 first
 |exact z_9 un_
 |(apply z7_ un_; exact vh)
 |exact nk_sub un_
 |exact z73 un_
 |fail) : LnK Tryz.prog T0 M t A R:=h
theorem eq_ {t : TypeId} {A A' : AV} {b : Bool} (h : EqK Tryz.prog t A A' b:=by
 first
 |exact z9a
 |exact z59 un_
 |exact z58
 |exact z89
 |exact z9b
 |fail) : EqK Tryz.prog t A A' b:=h
theorem y_ {A : AV} (h : AY Tryz.prog T0 ops o fr M A:=by
 first
 |(apply zyk rfl; exact oo_)
 |(apply zm2 rfl; exact oo_)
 |(apply kr rfl; exact oo_; exact ld_)
 |(apply qbx rfl; exact oo_; exact fd_)
 |(apply qby rfl; exact oo_; exact fa_)
 |(apply zk6 rfl; exact oo_; exact on_; exact ix_)
 |(apply z8a rfl; exact oo_; exact ln_)
 |(apply z3m rfl; exact oo_; exact oo_)
 |(apply z3n rfl; exact oo_; exact oo_)
 |(apply z3p rfl; exact oo_; exact oo_)
 |(apply z3q rfl; exact oo_; exact oo_)
 |(apply z0v rfl; exact oo_; exact oo_; exact eq_)
 |(apply ze6 rfl; exact oo_; exact oo_; exact eq_)
 |(apply z3k rfl; exact oo_)
 |(apply zyq rfl; exact oo_; exact z92)
 |(apply z9n rfl; exact oo_; exact z92)
 |(apply zru rfl st_; exact px_; done)
 |(apply zjg rfl; exact oo_; rfl)
 |(apply zrs rfl un_ el_; exact oo_; exact lo_; exact hi_; exact le_; exact le_; done)
 |(apply zrp rfl un_; exact oo_; done)
 |(apply zro rfl un_; exact oo_; exact oo_; done)
 |(apply z21 rfl; exact on_; exact on_; exact zca)
 |(apply z2w rfl; exact on_; exact on_; exact le_; exact zca)
 |(apply z2z rfl; exact on_; exact on_; exact zca)
 |(apply z2y rfl; exact on_; exact on_; exact lt_; exact zca)
 |(apply z2x rfl; exact on_; exact on_; exact lt_)
 |(apply z20 rfl; exact on_; exact on_)
 |(apply zqi rfl un_ el_; exact oo_; exact vh; exact on_; exact on_; exact lt_; exact le_; done)
 |(apply zjf rfl un_; exact oo_; exact on_; exact ge_; done)
 |(apply zbb rfl un_; exact oo_; exact lo_; exact hi_; exact le_; exact le_; done)
 |(apply z3r rfl; exact oo_; exact oo_; exact le_)
 |(apply ju rfl un_ un_; exact oo_; exact zca; done)
 |(apply zex rfl un_ un_; exact oo_; done)
 |(apply zde rfl un_ un_ un_; exact oo_; done)
 |(apply z3l rfl; exact oo_; exact zca)
 |(apply zyr rfl; exact oo_; exact oo_; exact zca)
 |(apply zhv rfl; exact oo_; exact oo_; exact zca)
 |(apply zyj rfl; exact oo_; exact oo_; exact zca)
 |(apply zyg rfl; exact oo_; exact oo_; exact ile_; exact ilt_; exact zca)
 |(apply zyf rfl; exact oo_; exact oo_; exact ile_; exact ilt_)
 |fail) : AY Tryz.prog T0 ops o fr M A:=h
theorem yg_ {A : AV} (h : AY Tryz.prog T0 ops o fr M A:=by
 first
 |(apply zyk rfl; exact qe)
 |(apply zm2 rfl; exact qe)
 |(apply kr rfl; exact qe; exact ld_)
 |(apply qbx rfl; exact qe; exact fd_)
 |(apply qby rfl; exact qe; exact fa_)
 |(apply zk6 rfl; exact qe; exact zgo; exact ix_)
 |(apply z8a rfl; exact qe; exact ln_)
 |(apply z3m rfl; exact qe; exact qe)
 |(apply z3n rfl; exact qe; exact qe)
 |(apply z3p rfl; exact qe; exact qe)
 |(apply z3q rfl; exact qe; exact qe)
 |(apply z0v rfl; exact qe; exact qe; exact eq_)
 |(apply ze6 rfl; exact qe; exact qe; exact eq_)
 |(apply z3k rfl; exact qe)
 |(apply zyq rfl; exact qe; exact z92)
 |(apply z9n rfl; exact qe; exact z92)
 |(apply zru rfl st_; exact qdw; done)
 |(apply zjg rfl; exact qe; rfl)
 |(apply zrs rfl un_ el_; exact qe; exact qbv; exact qbz; exact le_; exact le_; done)
 |(apply zrp rfl un_; exact qe; done)
 |(apply zro rfl un_; exact qe; exact qe; done)
 |(apply z21 rfl; exact zgo; exact zgo; exact zca)
 |(apply z2w rfl; exact zgo; exact zgo; exact le_; exact zca)
 |(apply z2z rfl; exact zgo; exact zgo; exact zca)
 |(apply z2y rfl; exact zgo; exact zgo; exact lt_; exact zca)
 |(apply z2x rfl; exact zgo; exact zgo; exact lt_)
 |(apply z20 rfl; exact zgo; exact zgo)
 |(apply zqi rfl un_ el_; exact qe; exact vh; exact zgo; exact zgo; exact lt_; exact le_; done)
 |(apply zjf rfl un_; exact qe; exact zgo; exact ge_; done)
 |(apply zbb rfl un_; exact qe; exact qbv; exact qbz; exact le_; exact le_; done)
 |(apply z3r rfl; exact qe; exact qe; exact le_)
 |(apply ju rfl un_ un_; exact qe; exact zca; done)
 |(apply zex rfl un_ un_; exact qe; done)
 |(apply zde rfl un_ un_ un_; exact qe; done)
 |(apply z3l rfl; exact qe; exact zca)
 |(apply zyr rfl; exact qe; exact qe; exact zca)
 |(apply zhv rfl; exact qe; exact qe; exact zca)
 |(apply zyj rfl; exact qe; exact qe; exact zca)
 |(apply zyg rfl; exact qe; exact qe; exact ile_; exact ilt_; exact zca)
 |(apply zyf rfl; exact qe; exact qe; exact ile_; exact ilt_)
 |fail) : AY Tryz.prog T0 ops o fr M A:=h
theorem z8g (h : GK Tryz.prog T0 ops o fr true:=by
 first
 |exact zqq rfl
 |exact z22 rfl rfl (zd6 rfl) rfl
 |fail) : GK Tryz.prog T0 ops o fr true:=h
theorem qbm {d : Bool} {A : AV} (hg : GK Tryz.prog T0 ops o fr true) (hy : AY Tryz.prog T0 ops o fr M A) (hx : o.dst = some x0) (hd : Nat.blt x0 N.n = true) (h : AL Tryz.prog T0 N d ops Q rest ((x0,A) :: fr) M) : AL Tryz.prog T0 N d ops Q (o :: rest) fr M:=z_g hg (fun _=>hy) OutK.t hx hd h
theorem s_y {d : Bool} {A : AV} (h : AL Tryz.prog T0 N d ops Q rest ((x0,A) :: fr) M) (hg : GK Tryz.prog T0 ops o fr true:=by first | exact z8g | fail) (hy : AY Tryz.prog T0 ops o fr M A:=by first | exact y_ | fail) (hx : o.dst = some x0:=by rfl) (hd : Nat.blt x0 N.n = true:=by rfl) : AL Tryz.prog T0 N d ops Q (o :: rest) fr M:=qbm hg hy hx hd h
theorem xr {d : Bool} {A : AV} (h : AL Tryz.prog T0 N d ops Q rest ((x0,A) :: fr) M) (hg : GK Tryz.prog T0 ops o fr true:=by first | exact z8g | fail) (hy : AY Tryz.prog T0 ops o fr M A) (hx : o.dst = some x0:=by rfl) (hd : Nat.blt x0 N.n = true:=by rfl) : AL Tryz.prog T0 N d ops Q (o :: rest) fr M:=qbm hg hy hx hd h
theorem zw {d : Bool} {A : AV} {f : FuncId} {args : Array Operand} {ts : Array TypeId} {As : List AV} (h : AL Tryz.prog T0 N d ops Q rest ((x0,A) :: fr) M) (ho : o.op = .call { callee:=.value (.func f),args:=args,argTypes:=ts }:=by rfl) (hg : GK Tryz.prog T0 ops o fr true:=by first | exact z8g | fail) (ha : OpdAll T0 fr args.toList As:=by first | exact os_ | fail) (c : AP Tryz.prog T0 f As A) (hx : o.dst = some x0:=by rfl) (hd : Nat.blt x0 N.n = true:=by rfl) : AL Tryz.prog T0 N d ops Q (o :: rest) fr M:=qbm hg (zyp ho ha c) hx hd h
theorem x5 {d : Bool} {A : AV} {k : Bool} {p q : Prop} (h : AL Tryz.prog T0 N d ops Q rest ((x0,gvA k A) :: fr) M) (hg : GK Tryz.prog T0 ops o fr k:=by first | exact gk_ | fail) (hn : Nice k p q:=by first | exact z0i | fail) (hy : k = true → p → AY Tryz.prog T0 ops o fr M A:=by
 first
 |(intro hk hk2
   exact yg_)
 |fail) (hx : o.dst = some x0:=by rfl) (hd : Nat.blt x0 N.n = true:=by rfl) : AL Tryz.prog T0 N d ops Q (o :: rest) fr M:=z_g hg (fun e=>hy e (hn.t e)) OutK.g hx hd h
theorem qc {d : Bool} {A : AV} {k : Bool} {p q : Prop} (h : AL Tryz.prog T0 N d ops Q rest ((x0,gvA k A) :: fr) M) (hg : GK Tryz.prog T0 ops o fr k:=by first | exact gk_ | fail) (hn : Nice k p q:=by first | exact z0i | fail) (hy : k = true → p → AY Tryz.prog T0 ops o fr M A) (hx : o.dst = some x0:=by rfl) (hd : Nat.blt x0 N.n = true:=by rfl) : AL Tryz.prog T0 N d ops Q (o :: rest) fr M:=z_g hg (fun e=>hy e (hn.t e)) OutK.g hx hd h
theorem zk {d : Bool} {A : AV} {k : Bool} {p q : Prop} {f : FuncId} {args : Array Operand} {ts : Array TypeId} {As : List AV} (h : AL Tryz.prog T0 N d ops Q rest ((x0,gvA k A) :: fr) M) (ho : o.op = .call { callee:=.value (.func f),args:=args,argTypes:=ts }:=by rfl) (hg : GK Tryz.prog T0 ops o fr k:=by first | exact gk_ | fail) (hn : Nice k p q:=by first | exact z0i | fail) (ha : k = true → OpdAll T0 fr args.toList As:=by
 first
 |(intro hk
   exact qdx)
 |fail) (c : k = true → p → AP Tryz.prog T0 f As A) (hx : o.dst = some x0:=by rfl) (hd : Nat.blt x0 N.n = true:=by rfl) : AL Tryz.prog T0 N d ops Q (o :: rest) fr M:=z_g hg (fun e=>zyp ho (ha e) (c e (hn.t e))) OutK.g hx hd h
def zvp : List Oper → Bool
 |[]=>false
 |[_]=>false
 |o :: l=>(match o.op with | .store _ _ _=>true | _=>false) || zvp l
theorem zm {id : Nat} {l : List Oper} (hn : zvp l = false) (hm : Tryz.prog.follows .mixedOrders = true) (hB : Region.lexB .any l.toArray = true) (h : AL Tryz.prog T0 N true l.toArray Q l fr M) : AW Tryz.prog T0 N (.region id l.toArray true) Q fr M:=zt0 hm hB h
theorem c_ {p q : Prop} (h : q) (k : q → p:=by
 first
 |(intro hh
   first
   |refine zey ?_ | refine w8 ?_ | refine zjk ?_ | refine z6w ?_ | refine z6x ?_ | refine z6v ?_ | refine z61 ?_ | refine z62 rfl ?_ | refine zsx rfl ?_ | refine z60 ?_ | refine zbc ?_ | refine zef ?_ | refine zji ?_ | refine zed ?_
   |(apply zm (by rfl) (by kernel_rfl) (by kernel_rfl))
   repeat (first
    |refine zey ?_ | refine w8 ?_ | refine zjk ?_ | refine z6w ?_ | refine z6x ?_ | refine z6v ?_ | refine z61 ?_ | refine z62 rfl ?_ | refine zsx rfl ?_ | refine z60 ?_ | refine zbc ?_ | refine zef ?_ | refine zji ?_ | refine zed ?_
    |(apply zm (by rfl) (by kernel_rfl) (by kernel_rfl)))
   exact hh
   done)
 |fail) : p:=k h
theorem z32 {e : TypeId} {z : Value} {zs : List Value} {Z : List AV} [c : AlC e z zs Z] (h : ∀ b,AL Tryz.prog T0 N false ops Q rest ((x0,vA (.pointer (some ⟨b,0,none⟩))) :: fr) (qd b e Z :: M)) (ho : o.op = .alloc e:=by rfl) (hg : o.guard = none:=by rfl) (hd : o.dst = some x0:=by rfl) (hN : Nat.blt x0 N.n = true:=by rfl) : AL Tryz.prog T0 N false ops Q (o :: rest) fr M:=z2f hg hd hN ho c.h h
theorem z_m {e : TypeId} {x : Operand} {A : AV} {l : List AV} (h : ∀ b,AL Tryz.prog T0 N false ops Q rest ((x0,vA (.pointer (some ⟨b,0,none⟩))) :: fr) (qd b e l :: M)) (ho : o.op = .box e x:=by rfl) (hg : o.guard = none:=by rfl) (hd : o.dst = some x0:=by rfl) (hN : Nat.blt x0 N.n = true:=by rfl) (hx : Opd T0 fr x A:=by first | exact oo_ | fail) (hc : j5 A l:=by first | exact zx8 | fail) : AL Tryz.prog T0 N false ops Q (o :: rest) fr M:=z9x hg hd hN ho hx hc h
theorem zzh {t e : TypeId} {x y : Operand} {b off n : Nat} {cells cells' l : List AV} {A : AV} {f : Own → List Own} (h : AL Tryz.prog T0 N false ops Q rest fr (f (qd b e cells'))) (ho : o.op = .store t x y:=by rfl) (hg : o.guard = none:=by rfl) (hd : o.dst = none:=by rfl) (hx : Opd T0 fr x (vA (.pointer (some ⟨b,off,none⟩))):=by first | exact oo_ | fail) (hz : ∀ w,(sizeOf t).run Tryz.prog w = .ok n w:=by first | exact sz_ | fail) (hy : Opd T0 fr y A:=by first | exact oo_ | fail) (hc : j5 A l:=by first | exact zx8 | fail) (hl : l.length = n:=by rfl) (h1 : OnesA l:=by first | exact zlr | fail) (hU : UpdF (qd b e cells) M f:=by first | exact zdi | fail) (hs : SetC cells off l cells':=by first | exact zh7 | fail) : AL Tryz.prog T0 N false ops Q (o :: rest) fr M:=zm7 hg hd ho hz hx hy hc hl h1 hU hs h
theorem zle {α : Type} {T : Ty α} {e : TypeId} {x y : Operand} {l : List α} {d z : α} {by' : Nat} {av : α → AV} {n : Nat} {u : Value} {A : AV} {f : Own → List Own} (h : AL Tryz.prog T0 N false ops Q rest fr (f (zx T e u (l.set n z)))) (ho : o.op = .store e x y:=by rfl) (hg : o.guard = none:=by rfl) (hd : o.dst = none:=by rfl) (he : El Tryz.prog T e d by' av:=by first | exact el_ | fail) (hx : Opd T0 fr x (rpA u (n * T.k)):=by first | exact oo_ | fail) (hy : Opd T0 fr y A:=by first | exact oo_ | fail) (hU : UpdF (zx T e u l) M f:=by first | exact zdi | fail) (hn : n < l.length:=by first | exact gb_ | fail) (hc : j5 A ((T.enc z).map vA):=by first | exact qd5 | fail) : AL Tryz.prog T0 N false ops Q (o :: rest) fr M:=zm8 hg hd ho he hx hy hU hn hc h
theorem z_j {α : Type} {T : Ty α} {t e : TypeId} {d : α} {by' : Nat} {av : α → AV} (h : ∀ u',u'.cells = #[u'] → u'.oneCell' = true → AL Tryz.prog T0 N false ops Q rest ((x0,vA u') :: fr) (zx T e u' [] :: M)) (ho : o.op = .buildSlice t 0 #[]:=by rfl) (hg : o.guard = none:=by rfl) (hd : o.dst = some x0:=by rfl) (hN : Nat.blt x0 N.n = true:=by rfl) (hu : Tryz.prog.underlying t = some (.slice e):=by first | exact un_ | fail) (he : El Tryz.prog T e d by' av:=by first | exact el_ | fail) : AL Tryz.prog T0 N false ops Q (o :: rest) fr M:=z2e hg hd hN ho hu he h
theorem z7h {α : Type} {T : Ty α} {t e : TypeId} {x y : Operand} {n : Nat} {d : α} {by' : Nat} {av : α → AV} {k k' : IntKind} (h : ∀ u',u'.cells = #[u'] → u'.oneCell' = true → AL Tryz.prog T0 N false ops Q rest ((x0,vA u') :: fr) (zx T e u' (List.replicate n d) :: M)) (ho : o.op = .makeSlice t x y:=by rfl) (hg : o.guard = none:=by rfl) (hd : o.dst = some x0:=by rfl) (hN : Nat.blt x0 N.n = true:=by rfl) (hu : Tryz.prog.underlying t = some (.slice e):=by first | exact un_ | fail) (he : El Tryz.prog T e d by' av:=by first | exact el_ | fail)
  (hx : xi T0 fr x k n:=by first | exact on_ | fail) (hy : xi T0 fr y k' n:=by first | exact on_ | fail) (hn : by' * n ≤ 140737488355328:=by omega) (hm : n ≤ maxLen:=by
   first
   |(simp only [maxLen]
     omega
     done)
   |fail) : AL Tryz.prog T0 N false ops Q (o :: rest) fr M:=z6q hg hd hN ho hu he hx hy hn hm h
theorem z_n {α : Type} {T : Ty α} {t e : TypeId} {x y : Operand} {l m : List α} {d : α} {by' : Nat} {av : α → AV} {u : Value} {f : Own → List Own} (h : ∀ u',u'.cells = #[u'] → u'.oneCell' = true → AL Tryz.prog T0 N false ops Q rest ((x0,vA u') :: fr) (f (zx T e u' (l ++ m)))) (ho : o.op = .call { callee:=.builtin .append,args := #[x,y],argTypes := #[t,t] }:=by rfl) (hg : o.guard = none:=by rfl) (hd : o.dst = some x0:=by rfl) (hN : Nat.blt x0 N.n = true:=by rfl) (hu : Tryz.prog.underlying t = some (.slice e):=by first | exact un_ | fail) (he : El Tryz.prog T e d by' av:=by first | exact el_ | fail)
  (hx : Opd T0 fr x (vA u):=by first | exact oo_ | fail) (hy : Opd T0 fr y (slA T m):=by first | exact oo_ | fail) (hU : UpdF (zx T e u l) M f:=by first | exact zdi | fail) (hn : (l.length + m.length) * by' ≤ 140737488355328:=by first | exact gb_ | fail) (hm : l.length + m.length ≤ maxLen:=by
   first
   |(simp only [maxLen]
     exact gb_
     done)
   |fail) : AL Tryz.prog T0 N false ops Q (o :: rest) fr M:=zy1 hg hd hN ho hu he hx hy hU hn hm h
theorem z_l {α : Type} {T : Ty α} {t e : TypeId} {x y : Operand} {l m : List α} {d : α} {by' : Nat} {av : α → AV} {u : Value} {f : Own → List Own} (h : AL Tryz.prog T0 N false ops Q rest ((x0,I (m.take l.length).length) :: fr) (f (zx T e u (ovr l 0 (m.take l.length))))) (ho : o.op = .call { callee:=.builtin .copy,args := #[x,y],argTypes := #[t,t] }:=by rfl) (hg : o.guard = none:=by rfl) (hd : o.dst = some x0:=by rfl) (hN : Nat.blt x0 N.n = true:=by rfl) (hu : Tryz.prog.underlying t = some (.slice e):=by first | exact un_ | fail) (he : El Tryz.prog T e d by' av:=by first | exact el_ | fail)
  (hx : Opd T0 fr x (vA u):=by first | exact oo_ | fail) (hy : Opd T0 fr y (slA T m):=by first | exact oo_ | fail) (hU : UpdF (zx T e u l) M f:=by first | exact zdi | fail) : AL Tryz.prog T0 N false ops Q (o :: rest) fr M:=zpl hg hd hN ho hu he hx hy hU h
theorem z_k {α : Type} {T : Ty α} {t e : TypeId} {x y : Operand} {l m : List α} {d : α} {by' off n : Nat} {av : α → AV} {u : Value} {f : Own → List Own} (h : AL Tryz.prog T0 N false ops Q rest ((x0,I (m.take n).length) :: fr) (f (zx T e u (ovr l off (m.take n))))) (ho : o.op = .call { callee:=.builtin .copy,args := #[x,y],argTypes := #[t,t] }:=by rfl) (hg : o.guard = none:=by rfl) (hd : o.dst = some x0:=by rfl) (hN : Nat.blt x0 N.n = true:=by rfl) (hu : Tryz.prog.underlying t = some (.slice e):=by first | exact un_ | fail) (he : El Tryz.prog T e d by' av:=by first | exact el_ | fail)
  (hx : Opd T0 fr x (rsA T.k u off n):=by first | exact oo_ | fail) (hy : Opd T0 fr y (slA T m):=by first | exact oo_ | fail) (hU : UpdF (zx T e u l) M f:=by first | exact zdi | fail) (hn : off + n ≤ l.length:=by first | exact gb_ | fail) : AL Tryz.prog T0 N false ops Q (o :: rest) fr M:=zpk hg hd hN ho hu he hx hy hU hn h
theorem no_ {P : Prop} (h : False:=by first | assumption | omega | (simp only [or_self,and_self,not_true_eq_false,not_false_eq_true,or_false,false_or,and_false,false_and,true_and,and_true] at hb; first | done | omega) | fail) : P:=h.elim
structure Bx (q : Prop) : Prop where
 h : q
theorem sa_ {p q : Prop} (h : q) (k : Bx q → p:=by
 first
 |(intro hh
   first
   |refine s_y ?_ | refine c_ ?_
   exact hh.h
   done)
 |fail) : p:=k ⟨h⟩
theorem sx_ {p q : Prop} (h : q) (k : Bx q → p:=by
 first
 |(intro hh
   first
   |refine z32 ?_ | refine z_m ?_
   exact hh.h
   done)
 |fail) : p:=k ⟨h⟩
theorem su_ {p q : Prop} (h : q) (k : Bx q → p:=by
 first
 |(intro hh
   first
   |refine z_j ?_ | refine z7h ?_ | refine z_n ?_
   exact hh.h
   done)
 |fail) : p:=k ⟨h⟩
theorem sw_ {p q : Prop} (h : q) (k : Bx q → p:=by
 first
 |(intro hh
   first
   |refine z7q ?_ | refine zzh ?_ | refine zle ?_ | refine z_l ?_ | refine z_k ?_ | refine z6r (by kernel_rfl) ?_
   exact hh.h
   done)
 |fail) : p:=k ⟨h⟩
theorem g1_ {p q : Prop} (h : q) (k : Bx q → p:=by
 first
 |(intro hh
   first | refine sa_ ?_ | refine zw ?_ (c:=by first | exact wr _ | exact xj _ | exact zi5 _ | exact jn _ | fail) | refine x5 ?_ | refine zk ?_ (c:=by intro hk hk2; first | exact wr _ | exact xj _ | exact zi5 _ | exact jn _ | fail) | refine sw_ ?_
   exact hh.h
   done)
 |fail) : p:=k ⟨h⟩
theorem g2_ {p q : Prop} (h : q) (k : Bx q → p:=by
 first
 |(intro hh
   first | refine sa_ ?_ | refine zw ?_ (c:=by first | exact wr _ | exact xj _ | exact zi5 _ | exact jn _ | exact zhh _ | exact kf _ | fail) | refine xr ?_ (hy:=by first | exact zkx rfl oo_ oo_ (zze _ (by omega) _ _) | fail) | refine x5 ?_ | refine zk ?_ (c:=by intro hk hk2; first | exact wr _ | exact xj _ | exact zi5 _ | exact jn _ | exact zhh _ | exact kf _ | fail) | refine qc ?_ (hy:=by intro hk hk2; first | exact zkx rfl oo_ oo_ (zze _ (by omega) _ _) | fail) | refine sw_ ?_
   exact hh.h
   done)
 |fail) : p:=k ⟨h⟩
theorem g3_ {p q : Prop} (h : q) (k : Bx q → p:=by
 first
 |(intro hh
   first | refine sa_ ?_ | refine zw ?_ (c:=by first | exact wr _ | exact xj _ | exact zi5 _ | exact jn _ | fail) | refine xr ?_ (hy:=by first | exact zkx rfl oo_ oo_ (zze _ (by omega) _ _) | fail) | refine x5 ?_ | refine zk ?_ (c:=by intro hk hk2; first | exact wr _ | exact xj _ | exact zi5 _ | exact jn _ | fail) | refine qc ?_ (hy:=by intro hk hk2; first | exact zkx rfl oo_ oo_ (zze _ (by omega) _ _) | fail) | refine sw_ ?_
   exact hh.h
   done)
 |fail) : p:=k ⟨h⟩
theorem g4_ {p q : Prop} (h : q) (k : Bx q → p:=by
 first
 |(intro hh
   first | refine sa_ ?_ | refine zw ?_ (c:=by first | exact zc_ _ | exact zao _ | fail) | refine x5 ?_ | refine zk ?_ (c:=by intro hk hk2; first | exact zc_ _ | exact zao _ | fail) | refine sw_ ?_
   exact hh.h
   done)
 |fail) : p:=k ⟨h⟩
theorem g5_ {p q : Prop} (h : q) (k : Bx q → p:=by
 first
 |(intro hh
   first | refine sa_ ?_ | refine zw ?_ (c:=by first | exact zhg _ | fail) | refine x5 ?_ | refine zk ?_ (c:=by intro hk hk2; first | exact zhg _ | fail) | refine sw_ ?_
   exact hh.h
   done)
 |fail) : p:=k ⟨h⟩
theorem g6_ {p q : Prop} (h : q) (k : Bx q → p:=by
 first
 |(intro hh
   first | refine sa_ ?_ | refine x5 ?_ | refine sw_ ?_
   exact hh.h
   done)
 |fail) : p:=k ⟨h⟩
theorem g7_ {p q : Prop} (h : q) (k : Bx q → p:=by
 first
 |(intro hh
   first | refine sa_ ?_ | refine zw ?_ (c:=by first | exact zwv _ | exact zi1 _ | exact wt _ | exact js _ | fail) | refine x5 ?_ | refine zk ?_ (c:=by intro hk hk2; first | exact zwv _ | exact zi1 _ | exact wt _ | exact js _ | fail) | refine sw_ ?_
   exact hh.h
   done)
 |fail) : p:=k ⟨h⟩
theorem g8_ {p q : Prop} (h : q) (k : Bx q → p:=by
 first
 |(intro hh
   first | refine sa_ ?_ | refine zw ?_ (c:=by first | exact c1 | exact c2 | exact zre _ (by omega) | exact zfs _ (by omega) | fail) | refine x5 ?_ | refine zk ?_ (c:=by intro hk hk2; first | exact c1 | exact c2 | exact zre _ (by omega) | exact zfs _ (by omega) | fail) | refine sw_ ?_
   exact hh.h
   done)
 |fail) : p:=k ⟨h⟩
theorem g9_ {p q : Prop} (h : q) (k : Bx q → p:=by
 first
 |(intro hh
   first | refine sa_ ?_ | refine zw ?_ (c:=by first | exact c1 | exact c2 | exact zre _ (by omega) | exact zfs _ (by omega) | fail) | refine xr ?_ (hy:=by first | (apply zmr rfl un_; exact oo_; omega) | fail) | refine x5 ?_ | refine zk ?_ (c:=by intro hk hk2; first | exact c1 | exact c2 | exact zre _ (by omega) | exact zfs _ (by omega) | fail) | refine qc ?_ (hy:=by intro hk hk2; first | (apply zmr rfl un_; exact oo_; omega) | fail) | refine sw_ ?_
   exact hh.h
   done)
 |fail) : p:=k ⟨h⟩
theorem zl5 {p q : Prop} (h : q) (k : Bx q → p:=by
 first
 |(intro hh
   first | refine sa_ ?_ | refine zw ?_ (c:=by first | exact c1 | fail) | refine x5 ?_ | refine zk ?_ (c:=by intro hk hk2; first | exact c1 | fail) | refine sw_ ?_
   exact hh.h
   done)
 |fail) : p:=k ⟨h⟩
theorem zc3 {p q : Prop} (h : q) (k : Bx q → p:=by
 first
 |(intro hh
   first | refine z9v ?_ (by rfl)
   exact hh.h
   done)
 |fail) : p:=k ⟨h⟩
theorem qb7 {p q : Prop} (h : q) (k : Bx q → p:=by
 first
 |(intro hh
   first | refine sa_ ?_ | refine zw ?_ (c:=by first | exact wr _ | exact xj _ | fail) | refine xr ?_ (hy:=by first | (apply zmr rfl un_; exact oo_; omega) | (apply ztt rfl un_; exact oo_; exact oo_; omega) | (apply z12 rfl un_; exact oo_; exact oo_; exact oo_; omega) | (apply z11 rfl un_; exact oo_; exact oo_; exact oo_; exact oo_; omega) | fail) | refine x5 ?_ | refine zk ?_ (c:=by intro hk hk2; first | exact wr _ | exact xj _ | fail) | refine qc ?_ (hy:=by intro hk hk2; first | (apply zmr rfl un_; exact oo_; omega) | (apply ztt rfl un_; exact oo_; exact oo_; omega) | (apply z12 rfl un_; exact oo_; exact oo_; exact oo_; omega) | (apply z11 rfl un_; exact oo_; exact oo_; exact oo_; exact oo_; omega) | fail) | refine sw_ ?_
   exact hh.h
   done)
 |fail) : p:=k ⟨h⟩
theorem qa0 {p q : Prop} (h : q) (k : Bx q → p:=by
 first
 |(intro hh
   first | refine sa_ ?_ | refine zw ?_ (c:=by first | exact zc_ _ | exact c1 | exact zao _ | fail) | refine xr ?_ (hy:=by first | (apply zmr rfl un_; exact oo_; omega) | (apply ztt rfl un_; exact oo_; exact oo_; omega) | (apply z12 rfl un_; exact oo_; exact oo_; exact oo_; omega) | (apply z11 rfl un_; exact oo_; exact oo_; exact oo_; exact oo_; omega) | fail) | refine x5 ?_ | refine zk ?_ (c:=by intro hk hk2; first | exact zc_ _ | exact c1 | exact zao _ | fail) | refine qc ?_ (hy:=by intro hk hk2; first | (apply zmr rfl un_; exact oo_; omega) | (apply ztt rfl un_; exact oo_; exact oo_; omega) | (apply z12 rfl un_; exact oo_; exact oo_; exact oo_; omega) | (apply z11 rfl un_; exact oo_; exact oo_; exact oo_; exact oo_; omega) | fail) | refine sw_ ?_
   exact hh.h
   done)
 |fail) : p:=k ⟨h⟩
theorem z_d {p q : Prop} (h : q) (k : Bx q → p:=by
 first
 |(intro hh
   first | refine sa_ ?_ | refine zw ?_ (c:=by first | exact c1 | exact xj _ | exact jn _ | exact kf _ | exact cm _ (by omega) | fail) | refine x5 ?_ | refine zk ?_ (c:=by intro hk hk2; first | exact c1 | exact xj _ | exact jn _ | exact kf _ | exact cm _ (by omega) | fail) | refine sw_ ?_
   exact hh.h
   done)
 |fail) : p:=k ⟨h⟩
theorem qaz {p q : Prop} (h : q) (k : Bx q → p:=by
 first
 |(intro hh
   first | refine sa_ ?_ | refine zw ?_ (c:=by first | exact c1 | exact cm _ (by omega) | fail) | refine x5 ?_ | refine zk ?_ (c:=by intro hk hk2; first | exact c1 | exact cm _ (by omega) | fail) | refine sw_ ?_
   exact hh.h
   done)
 |fail) : p:=k ⟨h⟩
theorem qay {p q : Prop} (h : q) (k : Bx q → p:=by
 first
 |(intro hh
   first | refine sa_ ?_ | refine zw ?_ (c:=by first | exact cl _ (by omega) | fail) | refine x5 ?_ | refine zk ?_ (c:=by intro hk hk2; first | exact cl _ (by omega) | fail) | refine sw_ ?_
   exact hh.h
   done)
 |fail) : p:=k ⟨h⟩
theorem z_c {p q : Prop} (h : q) (k : Bx q → p:=by
 first
 |(intro hh
   first | refine sa_ ?_ | refine zw ?_ (c:=by first | exact x7 _ _ | fail) | refine x5 ?_ | refine zk ?_ (c:=by intro hk hk2; first | exact x7 _ _ | fail) | refine sw_ ?_
   exact hh.h
   done)
 |fail) : p:=k ⟨h⟩
theorem qb6 {p q : Prop} (h : q) (k : Bx q → p:=by
 first
 |(intro hh
   first | refine sa_ ?_ | refine zw ?_ (c:=by first | exact yd _ _ _ hl | fail) | refine x5 ?_ | refine zk ?_ (c:=by intro hk hk2; first | exact yd _ _ _ hl | fail) | refine sw_ ?_
   exact hh.h
   done)
 |fail) : p:=k ⟨h⟩
theorem z_b {p q : Prop} (h : q) (k : Bx q → p:=by
 first
 |(intro hh
   first | refine sa_ ?_ | refine zw ?_ (c:=by first | exact x7 _ _ | exact wh (_,_) | exact cl _ (by omega) | fail) | refine x5 ?_ | refine zk ?_ (c:=by intro hk hk2; first | exact x7 _ _ | exact wh (_,_) | exact cl _ (by omega) | fail) | refine sw_ ?_
   exact hh.h
   done)
 |fail) : p:=k ⟨h⟩
theorem zbz {p q : Prop} (h : q) (k : Bx q → p:=by
 first
 |(intro hh
   first | refine sa_ ?_ | refine zw ?_ (c:=by first | exact c1 | exact c2 | fail) | refine x5 ?_ | refine zk ?_ (c:=by intro hk hk2; first | exact c1 | exact c2 | fail) | refine sw_ ?_
   exact hh.h
   done)
 |fail) : p:=k ⟨h⟩
theorem qb5 {p q : Prop} (h : q) (k : Bx q → p:=by
 first
 |(intro hh
   first | refine sa_ ?_ | refine zw ?_ (c:=by first | exact c1 | exact wr _ | exact zb1 _ | exact zhh _ | fail) | refine x5 ?_ | refine zk ?_ (c:=by intro hk hk2; first | exact c1 | exact wr _ | exact zb1 _ | exact zhh _ | fail) | refine sw_ ?_
   exact hh.h
   done)
 |fail) : p:=k ⟨h⟩
theorem z67 {p q : Prop} (h : q) (k : Bx q → p:=by
 first
 |(intro hh
   first | refine sa_ ?_ | refine zw ?_ (c:=by first | exact zxk | fail) | refine x5 ?_ | refine zk ?_ (c:=by intro hk hk2; first | exact zxk | fail) | refine sw_ ?_
   exact hh.h
   done)
 |fail) : p:=k ⟨h⟩
theorem qb4 {p q : Prop} (h : q) (k : Bx q → p:=by
 first
 |(intro hh
   first | refine sa_ ?_ | refine zw ?_ (c:=by first | exact z2_ _ _ _ hl | exact cf | fail) | refine x5 ?_ | refine zk ?_ (c:=by intro hk hk2; first | exact z2_ _ _ _ hl | exact cf | fail) | refine sw_ ?_
   exact hh.h
   done)
 |fail) : p:=k ⟨h⟩
theorem z8o {p q : Prop} (h : q) (k : Bx q → p:=by
 first
 |(intro hh
   first | refine sa_ ?_ | refine zw ?_ (c:=by first | exact zw0 _ (by simp only [List.length_take,List.length_drop]; omega) | fail) | refine x5 ?_ | refine zk ?_ (c:=by intro hk hk2; first | exact zw0 _ (by simp only [List.length_take,List.length_drop]; omega) | fail) | refine sw_ ?_
   exact hh.h
   done)
 |fail) : p:=k ⟨h⟩
theorem qax {p q : Prop} (h : q) (k : Bx q → p:=by
 first
 |(intro hh
   first | refine sa_ ?_ | refine zw ?_ (c:=by first | exact zfq (_,_) | exact wh (_,_) | fail) | refine x5 ?_ | refine zk ?_ (c:=by intro hk hk2; first | exact zfq (_,_) | exact wh (_,_) | fail) | refine sw_ ?_
   exact hh.h
   done)
 |fail) : p:=k ⟨h⟩
theorem z_a {p q : Prop} (h : q) (k : Bx q → p:=by
 first
 |(intro hh
   first | refine sa_ ?_ | refine zw ?_ (c:=by first | exact c1 | fail) | refine xr ?_ (hy:=by first | (apply vp rfl un_; exact oo_; done) | fail) | refine x5 ?_ | refine zk ?_ (c:=by intro hk hk2; first | exact c1 | fail) | refine qc ?_ (hy:=by intro hk hk2; first | (apply vp rfl un_; exact oo_; done) | fail) | refine sw_ ?_
   exact hh.h
   done)
 |fail) : p:=k ⟨h⟩
theorem zzc {p q : Prop} (h : q) (k : Bx q → p:=by
 first
 |(intro hh
   first | refine zr3 ?_ | refine zsw ?_
   exact hh.h
   done)
 |fail) : p:=k ⟨h⟩
theorem zzb {p q : Prop} (h : q) (k : Bx q → p:=by
 first
 |(intro hh
   first | refine sa_ ?_ | refine zw ?_ (c:=by first | exact cg | exact wr _ | fail) | refine xr ?_ (hy:=by first | (apply ze rfl; exact oo_; done) | (apply ze rfl; exact qe; done) | (apply zfy rfl un_; exact oo_; done) | (apply zmt rfl un_ un_; (case hx=>exact oo_); (case hy=>exact oo_); (case hk=>exact (rfl : IntKind.u8 = IntKind.u8)); (case hM=>exact vh); (case hn=>rfl)) | fail) | refine x5 ?_ | refine zk ?_ (c:=by intro hk hk2; first | exact cg | exact wr _ | fail) | refine qc ?_ (hy:=by intro hk hk2; first | (apply ze rfl; exact oo_; done) | (apply ze rfl; exact qe; done) | (apply zfy rfl un_; exact oo_; done) | (apply zmt rfl un_ un_; (case hx=>exact oo_); (case hy=>exact oo_); (case hk=>exact (rfl : IntKind.u8 = IntKind.u8)); (case hM=>exact vh); (case hn=>rfl)) | fail) | refine sw_ ?_
   exact hh.h
   done)
 |fail) : p:=k ⟨h⟩
theorem ze7 {p q : Prop} (h : q) (k : Bx q → p:=by
 first
 |(intro hh
   first | refine zr3 ?_ | refine zsw ?_ | refine sa_ ?_ | refine xr ?_ (hy:=by first | (apply ze rfl; exact oo_; done) | (apply ze rfl; exact qe; done) | (apply zfy rfl un_; exact oo_; done) | fail) | refine x5 ?_ | refine qc ?_ (hy:=by intro hk hk2; first | (apply ze rfl; exact oo_; done) | (apply ze rfl; exact qe; done) | (apply zfy rfl un_; exact oo_; done) | fail) | refine sw_ ?_
   exact hh.h
   done)
 |fail) : p:=k ⟨h⟩
theorem zqv {p q : Prop} (h : q) (k : Bx q → p:=by
 first
 |(intro hh
   first | refine sa_ ?_ | refine zw ?_ (c:=by first | exact c1 | exact c2 | exact c3 | exact zq2 _ _ (by omega) | fail) | refine x5 ?_ | refine zk ?_ (c:=by intro hk hk2; first | exact c1 | exact c2 | exact c3 | exact zq2 _ _ (by omega) | fail) | refine sw_ ?_
   exact hh.h
   done)
 |fail) : p:=k ⟨h⟩
theorem zqu {p q : Prop} (h : q) (k : Bx q → p:=by
 first
 |(intro hh
   first | refine sa_ ?_ | refine zw ?_ (c:=by first | exact c1 | exact c2 | exact c3 | exact c4 | fail) | refine x5 ?_ | refine zk ?_ (c:=by intro hk hk2; first | exact c1 | exact c2 | exact c3 | exact c4 | fail) | refine sw_ ?_
   exact hh.h
   done)
 |fail) : p:=k ⟨h⟩
theorem zqt {p q : Prop} (h : q) (k : Bx q → p:=by
 first
 |(intro hh
   first | refine sa_ ?_ | refine zw ?_ (c:=by first | exact c1 | exact c2 | fail) | refine xr ?_ (hy:=by first | exact AY.sub (zr (T:=fnT) z9c rfl zuo z57 rfl (by decide) ⟨_,px_,rfl⟩) qw | fail) | refine x5 ?_ | refine zk ?_ (c:=by intro hk hk2; first | exact c1 | exact c2 | fail) | refine qc ?_ (hy:=by intro hk hk2; first | exact AY.sub (zr (T:=fnT) z9c rfl zuo z57 rfl (by decide) ⟨_,px_,rfl⟩) qw | fail) | refine sw_ ?_
   exact hh.h
   done)
 |fail) : p:=k ⟨h⟩
theorem zza {p q : Prop} (h : q) (k : Bx q → p:=by
 first
 |(intro hh
   first | refine sa_ ?_ | refine zw ?_ (c:=by first | exact c1 | fail) | refine xr ?_ (hy:=by first | (apply ze rfl; exact oo_; done) | (apply ze rfl; exact qe; done) | fail) | refine x5 ?_ | refine zk ?_ (c:=by intro hk hk2; first | exact c1 | fail) | refine qc ?_ (hy:=by intro hk hk2; first | (apply ze rfl; exact oo_; done) | (apply ze rfl; exact qe; done) | fail) | refine sw_ ?_
   exact hh.h
   done)
 |fail) : p:=k ⟨h⟩
theorem z26 {p q : Prop} (h : q) (k : Bx q → p:=by
 first
 |(intro hh
   first | refine zey ?_ | refine w8 ?_ | refine zjk ?_ | refine z6w ?_ | refine z6x ?_ | refine z6v ?_ | refine z61 ?_ | refine z62 rfl ?_ | refine zsx rfl ?_ | refine z60 ?_ | refine zbc ?_ | refine zef ?_ | refine zji ?_ | refine zed ?_
   exact hh.h
   done)
 |fail) : p:=k ⟨h⟩
theorem qb3 {p q : Prop} (h : q) (k : Bx q → p:=by
 first
 |(intro hh
   first | refine sa_ ?_ | refine zw ?_ (c:=by first | exact c1 | exact cw | fail) | refine xr ?_ (hy:=by first | (apply ze rfl; exact oo_; done) | (apply ze rfl; exact qe; done) | fail) | refine x5 ?_ | refine zk ?_ (c:=by intro hk hk2; first | exact c1 | exact cw | fail) | refine qc ?_ (hy:=by intro hk hk2; first | (apply ze rfl; exact oo_; done) | (apply ze rfl; exact qe; done) | fail) | refine sw_ ?_
   exact hh.h
   done)
 |fail) : p:=k ⟨h⟩
theorem z05 {p q : Prop} (h : q) (k : Bx q → p:=by
 first
 |(intro hh
   first | refine sa_ ?_ | refine zw ?_ (c:=by first | exact c1 | exact zo1 _ _ _ | exact v6 _ _ _ | fail)
   exact hh.h
   done)
 |fail) : p:=k ⟨h⟩
theorem z04 {p q : Prop} (h : q) (k : Bx q → p:=by
 first
 |(intro hh
   first | refine x5 ?_ | refine zk ?_ (c:=by intro hk hk2; first | exact c1 | exact zo1 _ _ _ | exact v6 _ _ _ | fail)
   exact hh.h
   done)
 |fail) : p:=k ⟨h⟩
theorem zh3 {p q : Prop} (h : q) (k : Bx q → p:=by
 first
 |(intro hh
   first | refine sa_ ?_ | refine zw ?_ (c:=by first | exact c1 | exact c2 | exact c3 | fail) | refine x5 ?_ | refine zk ?_ (c:=by intro hk hk2; first | exact c1 | exact c2 | exact c3 | fail) | refine sw_ ?_
   exact hh.h
   done)
 |fail) : p:=k ⟨h⟩
theorem z8n {p q : Prop} (h : q) (k : Bx q → p:=by
 first
 |(intro hh
   first | refine sa_ ?_ | refine zw ?_ (c:=by first | exact c1 | exact zxm _ (by omega) | fail) | refine x5 ?_ | refine zk ?_ (c:=by intro hk hk2; first | exact c1 | exact zxm _ (by omega) | fail) | refine sw_ ?_
   exact hh.h
   done)
 |fail) : p:=k ⟨h⟩
theorem qaw {p q : Prop} (h : q) (k : Bx q → p:=by
 first
 |(intro hh
   first | refine sa_ ?_ | refine xr ?_ (hy:=by first | (apply kr rfl; exact oo_; exact v1_ (List.Mem.head _) rfl) | (apply kr rfl; exact oo_; exact v1_ (List.Mem.tail _ (List.Mem.head _)) rfl) | fail) | refine x5 ?_ | refine qc ?_ (hy:=by intro hk hk2; first | (apply kr rfl; exact oo_; exact v1_ (List.Mem.head _) rfl) | (apply kr rfl; exact oo_; exact v1_ (List.Mem.tail _ (List.Mem.head _)) rfl) | fail) | refine sw_ ?_
   exact hh.h
   done)
 |fail) : p:=k ⟨h⟩
theorem qb2 {p q : Prop} (h : q) (k : Bx q → p:=by
 first
 |(intro hh
   first | refine sa_ ?_ | refine xr ?_ (hy:=by first | (apply zyl rfl; exact os_) | fail) | refine x5 ?_ | refine qc ?_ (hy:=by intro hk hk2; first | (apply zyl rfl; exact os_) | fail) | refine sw_ ?_
   exact hh.h
   done)
 |fail) : p:=k ⟨h⟩
theorem zuc {p q : Prop} (h : q) (k : Bx q → p:=by
 first
 |(intro hh
   first | refine sa_ ?_ | refine zw ?_ (c:=by first | exact zfq (_,_) | exact yp (_,2) | exact yp (_,1) | exact yp (_,_) | fail) | refine xr ?_ (hy:=by first | (apply zhv rfl (a:=3) (b:=1); exact oo_; exact oo_; exact zca) | (apply zhv rfl (a:=3) (b:=2); exact oo_; exact oo_; exact zca) | (apply ze6 rfl; exact oo_; exact oo_; exact zie) | (apply ze6 rfl; exact qe; exact qe; exact zie) | (apply z0v rfl; exact oo_; exact oo_;  exact zie) | exact z3o rfl hk (by simp) | fail) | refine x5 ?_ | refine zk ?_ (c:=by intro hk hk2; first | exact zfq (_,_) | exact yp (_,2) | exact yp (_,1) | exact yp (_,_) | fail) | refine qc ?_ (hy:=by intro hk hk2; first | (apply zhv rfl (a:=3) (b:=1); exact oo_; exact oo_; exact zca) | (apply zhv rfl (a:=3) (b:=2); exact oo_; exact oo_; exact zca) | (apply ze6 rfl; exact oo_; exact oo_; exact zie) | (apply ze6 rfl; exact qe; exact qe; exact zie) | (apply z0v rfl; exact oo_; exact oo_;  exact zie) | exact z3o rfl hk (by simp) | fail) | refine sw_ ?_
   exact hh.h
   done)
 |fail) : p:=k ⟨h⟩
theorem qb1 {p q : Prop} (h : q) (k : Bx q → p:=by
 first
 |(intro hh
   first | refine sa_ ?_ | refine zw ?_ (c:=by first | exact cw | fail) | refine x5 ?_ | refine zk ?_ (c:=by intro hk hk2; first | exact cw | fail) | refine sw_ ?_
   exact hh.h
   done)
 |fail) : p:=k ⟨h⟩
theorem qav {p q : Prop} (h : q) (k : Bx q → p:=by
 first
 |(intro hh
   first | refine x5 ?_ | refine zk ?_ (c:=by intro hk hk2; first | exact cm | fail)
   exact hh.h
   done)
 |fail) : p:=k ⟨h⟩
theorem z5j {p q : Prop} (h : q) (k : Bx q → p:=by
 first
 |(intro hh
   first | refine sa_ ?_ | refine zw ?_ (c:=by first | exact ci | exact cv1 | exact cv2 | fail) | refine xr ?_ (hy:=by first | (apply vp (c:=(k1,a1,e1,r1)) rfl un_; exact oo_; done) | (apply vp (c:=(k2,a2,e2,r2)) rfl un_; exact oo_; done) | fail) | refine x5 ?_ | refine zk ?_ (c:=by intro hk hk2; first | exact ci | exact cv1 | exact cv2 | fail) | refine qc ?_ (hy:=by intro hk hk2; first | (apply vp (c:=(k1,a1,e1,r1)) rfl un_; exact oo_; done) | (apply vp (c:=(k2,a2,e2,r2)) rfl un_; exact oo_; done) | fail) | refine sw_ ?_
   exact hh.h
   done)
 |fail) : p:=k ⟨h⟩
theorem qau {p q : Prop} (h : q) (k : Bx q → p:=by
 first
 |(intro hh
   first | refine sa_ ?_ | refine zw ?_ (c:=by first | exact ci | fail) | refine x5 ?_ | refine zk ?_ (c:=by intro hk hk2; first | exact ci | fail) | refine sw_ ?_
   exact hh.h
   done)
 |fail) : p:=k ⟨h⟩
theorem z03 {p q : Prop} (h : q) (k : Bx q → p:=by
 first
 |(intro hh
   first | refine qc ?_ (hy:=by intro hk hk2; first | (apply kr rfl; exact qe; apply r1_; exact vh; exact znd gb_; rfl) | fail) | refine xr ?_ (hy:=by first | (apply kr rfl; exact oo_; apply r1_; exact vh; exact znd gb_; rfl) | fail) | refine zle ?_ (hc:=zx9) | refine zle ?_ (hc:=z1y) | refine sa_ ?_ | refine zw ?_ (c:=by first | exact za_ | exact yp (32,0) | exact yp (_,_) | fail) | refine xr ?_ (hy:=by first | exact AY.sub (zr (T:=qg) [(32,0)] rfl un_ el_ rfl (by decide) ⟨_,px_,rfl⟩) qw | fail) | refine x5 ?_ | refine zk ?_ (c:=by intro hk hk2; first | exact za_ | exact yp (32,0) | exact yp (_,_) | fail) | refine qc ?_ (hy:=by intro hk hk2; first | exact AY.sub (zr (T:=qg) [(32,0)] rfl un_ el_ rfl (by decide) ⟨_,px_,rfl⟩) qw | fail) | refine sw_ ?_
   exact hh.h
   done)
 |fail) : p:=k ⟨h⟩
theorem z02 {p q : Prop} (h : q) (k : Bx q → p:=by
 first
 |(intro hh
   first | refine zle ?_ (hc:=zx9) | refine sa_ ?_ | refine zw ?_ (c:=by first | exact za_ | exact yp (32,0) | fail)
   exact hh.h
   done)
 |fail) : p:=k ⟨h⟩
theorem z01 {p q : Prop} (h : q) (k : Bx q → p:=by
 first
 |(intro hh
   first | refine x5 ?_ | refine zk ?_ (c:=by intro hk hk2; first | exact za_ | exact yp (32,0) | fail)
   exact hh.h
   done)
 |fail) : p:=k ⟨h⟩
theorem z9_ {p q : Prop} (h : q) (k : Bx q → p:=by
 first
 |(intro hh
   first | refine sa_ ?_ | refine zw ?_ (c:=by first | exact c1 | exact c2 | fail) | refine xr ?_ (hy:=by first | (apply ze rfl; exact oo_; done) | (apply ze rfl; exact qe; done) | fail) | refine x5 ?_ | refine zk ?_ (c:=by intro hk hk2; first | exact c1 | exact c2 | fail) | refine qc ?_ (hy:=by intro hk hk2; first | (apply ze rfl; exact oo_; done) | (apply ze rfl; exact qe; done) | fail) | refine sw_ ?_
   exact hh.h
   done)
 |fail) : p:=k ⟨h⟩
theorem zy_ {p q : Prop} (h : q) (k : Bx q → p:=by
 first
 |(intro hh
   first | refine sa_ ?_ | refine zw ?_ (c:=by first | exact c1 | exact c2 | exact c3 | exact ug _ | fail)
   exact hh.h
   done)
 |fail) : p:=k ⟨h⟩
theorem zy9 {p q : Prop} (h : q) (k : Bx q → p:=by
 first
 |(intro hh
   first | refine x5 ?_ | refine zk ?_ (c:=by intro hk hk2; first | exact c1 | exact c2 | exact c3 | exact ug _ | fail)
   exact hh.h
   done)
 |fail) : p:=k ⟨h⟩
theorem z25 {p q : Prop} (h : q) (k : Bx q → p:=by
 first
 |(intro hh
   first | refine sa_ ?_ | refine zw ?_ (c:=by first | exact c1 | exact c2 | exact c3 | exact c4 | fail)
   exact hh.h
   done)
 |fail) : p:=k ⟨h⟩
theorem z24 {p q : Prop} (h : q) (k : Bx q → p:=by
 first
 |(intro hh
   first | refine x5 ?_ | refine zk ?_ (c:=by intro hk hk2; first | exact c1 | exact c2 | exact c3 | exact c4 | fail)
   exact hh.h
   done)
 |fail) : p:=k ⟨h⟩
theorem z8m {p q : Prop} (h : q) (k : Bx q → p:=by
 first
 |(intro hh
   first | refine sa_ ?_ | refine zw ?_ (c:=by first | exact c1 | exact c2 | exact yp (_,_) | fail) | refine xr ?_ (hy:=by first | (apply qm rfl un_ el_; exact oo_; exact vh; exact lo_; exact hi_; exact heq; exact le_; done) | fail) | refine x5 ?_ | refine zk ?_ (c:=by intro hk hk2; first | exact c1 | exact c2 | exact yp (_,_) | fail) | refine qc ?_ (hy:=by intro hk hk2; first | (apply qm rfl un_ el_; exact oo_; exact vh; exact lo_; exact hi_; exact heq; exact le_; done) | fail) | refine sw_ ?_
   exact hh.h
   done)
 |fail) : p:=k ⟨h⟩
theorem ziv {p q : Prop} (h : q) (k : Bx q → p:=by
 first
 |(intro hh
   first | refine sa_ ?_ | refine zw ?_ (c:=by first | exact c1 | exact c2 | exact c3 | exact c4 | exact c5 | exact c6 | exact c7 | exact c8 | exact c9 | fail) | refine x5 ?_ | refine zk ?_ (c:=by intro hk hk2; first | exact c1 | exact c2 | exact c3 | exact c4 | exact c5 | exact c6 | exact c7 | exact c8 | exact c9 | fail) | refine sw_ ?_
   exact hh.h
   done)
 |fail) : p:=k ⟨h⟩
theorem z5i {p q : Prop} (h : q) (k : Bx q → p:=by
 first
 |(intro hh
   first | refine zle ?_ (hc:=zx9) | refine zle ?_ (hc:=z1y) | refine xr ?_ (hy:=by first | (apply zk6 rfl; exact oo_; exact on_; apply zam un_ el_; exact znd gb_) | fail) | refine qc ?_ (hy:=by intro hk hk2; first | (apply zk6 rfl; exact qe; exact zgo; apply zam un_ el_; exact znd gb_) | fail) | refine sa_ ?_ | refine zw ?_ (c:=by first | exact zer | fail) | refine xr ?_ (hy:=by first | exact kq rfl zfb sz_ oo_ (Nat.le_of_ble_eq_true rfl) | exact kq rfl zfb sz_ qe (Nat.le_of_ble_eq_true rfl) | fail) | refine x5 ?_ | refine zk ?_ (c:=by intro hk hk2; first | exact zer | fail) | refine qc ?_ (hy:=by intro hk hk2; first | exact kq rfl zfb sz_ oo_ (Nat.le_of_ble_eq_true rfl) | exact kq rfl zfb sz_ qe (Nat.le_of_ble_eq_true rfl) | fail) | refine sw_ ?_
   exact hh.h
   done)
 |fail) : p:=k ⟨h⟩
theorem z99 {p q : Prop} (h : q) (k : Bx q → p:=by
 first
 |(intro hh
   first | refine sa_ ?_ | refine zw ?_ (c:=by first | exact c1 | exact cg _ (by omega) | fail) | refine x5 ?_ | refine zk ?_ (c:=by intro hk hk2; first | exact c1 | exact cg _ (by omega) | fail) | refine sw_ ?_
   exact hh.h
   done)
 |fail) : p:=k ⟨h⟩
theorem z98 {p q : Prop} (h : q) (k : Bx q → p:=by
 first
 |(intro hh
   first | refine sa_ ?_ | refine zw ?_ (c:=by first | exact c1 | fail) | refine xr ?_ (hy:=by first | exact AY.sub (zr (T:=guT) [((0,0),false)] rfl un_ el_ rfl (by decide) ⟨_,px_,rfl⟩) qw | fail) | refine x5 ?_ | refine zk ?_ (c:=by intro hk hk2; first | exact c1 | fail) | refine qc ?_ (hy:=by intro hk hk2; first | exact AY.sub (zr (T:=guT) [((0,0),false)] rfl un_ el_ rfl (by decide) ⟨_,px_,rfl⟩) qw | fail) | refine sw_ ?_
   exact hh.h
   done)
 |fail) : p:=k ⟨h⟩
theorem z8l {p q : Prop} (h : q) (k : Bx q → p:=by
 first
 |(intro hh
   first | refine zle ?_ (hc:=z1y) | refine sa_ ?_ | refine zw ?_ (c:=by first | exact c1 | exact c2 | exact c3 | exact c4 | exact c5 | fail) | refine x5 ?_ | refine zk ?_ (c:=by intro hk hk2; first | exact c1 | exact c2 | exact c3 | exact c4 | exact c5 | fail) | refine sw_ ?_
   exact hh.h
   done)
 |fail) : p:=k ⟨h⟩
theorem zk7 {p q : Prop} (h : q) (k : Bx q → p:=by
 first
 |(intro hh
   first | refine sa_ ?_ | refine zw ?_ (c:=by first | exact c1 | exact c2 | exact c3 | exact c4 | exact c5 | fail) | refine xr ?_ (hy:=by first | (apply zn rfl; exact oo_; exact oo_) | (apply zz rfl; exact oo_; exact oo_) | fail) | refine x5 ?_ | refine zk ?_ (c:=by intro hk hk2; first | exact c1 | exact c2 | exact c3 | exact c4 | exact c5 | fail) | refine qc ?_ (hy:=by intro hk hk2; first | (apply zn rfl; exact oo_; exact oo_) | (apply zz rfl; exact oo_; exact oo_) | fail) | refine sw_ ?_
   exact hh.h
   done)
 |fail) : p:=k ⟨h⟩
theorem z97 {p q : Prop} (h : q) (k : Bx q → p:=by
 first
 |(intro hh
   first | refine xr ?_ (hy:=by first | (apply zk6 rfl; exact oo_; exact on_; apply zam un_ el_; exact znd gb_) | fail) | refine sa_ ?_ | refine xr ?_ (hy:=by first | (apply ze6 rfl; exact oo_; exact oo_; exact zie) | fail) | refine x5 ?_ | refine qc ?_ (hy:=by intro hk hk2; first | (apply ze6 rfl; exact oo_; exact oo_; exact zie) | fail) | refine sw_ ?_
   exact hh.h
   done)
 |fail) : p:=k ⟨h⟩
theorem z96 {p q : Prop} (h : q) (k : Bx q → p:=by
 first
 |(intro hh
   first | (with_reducible refine zaw ?_) | refine sa_ ?_ | refine zw ?_ (c:=by first | exact ci | exact ct0 | exact ctt _ _ _ _ _ _ _ | exact ca | exact cb | exact cv | exact cd | fail) | refine x5 ?_ | refine zk ?_ (c:=by intro hk hk2; first | exact ci | exact ct0 | exact ctt _ _ _ _ _ _ _ | exact ca | exact cb | exact cv | exact cd | fail) | refine sw_ ?_
   exact hh.h
   done)
 |fail) : p:=k ⟨h⟩
theorem z66 {p q : Prop} (h : q) (k : Bx q → p:=by
 first
 |(intro hh
   first | refine z2o ?_ | refine zey ?_ | refine w8 ?_ | refine zjk ?_ | refine z6w ?_ | refine z6x ?_ | refine z6v ?_ | refine z61 ?_ | refine z62 rfl ?_ | refine zsx rfl ?_ | refine z60 ?_ | refine zbc ?_ | refine zef ?_ | refine zji ?_ | refine zed ?_
   exact hh.h
   done)
 |fail) : p:=k ⟨h⟩
theorem qat {p q : Prop} (h : q) (k : Bx q → p:=by
 first
 |(intro hh
   first | refine sa_ ?_ | refine zw ?_ (c:=by first | exact ci | exact ct0 | exact ctt _ _ _ _ _ _ _ | exact ca | exact cb | exact cv | exact cd | fail) | refine x5 ?_ | refine zk ?_ (c:=by intro hk hk2; first | exact ci | exact ct0 | exact ctt _ _ _ _ _ _ _ | exact ca | exact cb | exact cv | exact cd | fail) | refine sw_ ?_
   exact hh.h
   done)
 |fail) : p:=k ⟨h⟩
theorem z8k {p q : Prop} (h : q) (k : Bx q → p:=by
 first
 |(intro hh
   first | refine sa_ ?_ | refine zw ?_ (c:=by first | exact c1 | fail) | refine xr ?_ (hy:=by first | exact AY.sub (zr (T:=ws) [(_,_,_,_)] rfl un_ el_ rfl (by decide) ⟨_,px_,rfl⟩) qw | fail) | refine x5 ?_ | refine zk ?_ (c:=by intro hk hk2; first | exact c1 | fail) | refine qc ?_ (hy:=by intro hk hk2; first | exact AY.sub (zr (T:=ws) [(_,_,_,_)] rfl un_ el_ rfl (by decide) ⟨_,px_,rfl⟩) qw | fail) | refine sw_ ?_
   exact hh.h
   done)
 |fail) : p:=k ⟨h⟩
theorem zy8 {p q : Prop} (h : q) (k : Bx q → p:=by
 first
 |(intro hh
   first | refine sa_ ?_ | refine zw ?_ (c:=by first | exact c1 | fail) | refine xr ?_ (hy:=by first | (apply zn rfl; exact oo_; exact oo_; done) | (apply vq rfl un_ el_; exact oo_; exact lo_; exact on_; exact on_; exact le_; exact le_; done) | fail) | refine x5 ?_ | refine zk ?_ (c:=by intro hk hk2; first | exact c1 | fail) | refine qc ?_ (hy:=by intro hk hk2; first | (apply zn rfl; exact oo_; exact oo_; done) | (apply vq rfl un_ el_; exact oo_; exact lo_; exact on_; exact on_; exact le_; exact le_; done) | fail) | refine sw_ ?_
   exact hh.h
   done)
 |fail) : p:=k ⟨h⟩
theorem z5h {p q : Prop} (h : q) (k : Bx q → p:=by
 first
 |(intro hh
   first | refine zrw (fun _ _ _ h=>h) ?_ | refine zry ?_ | refine sa_ ?_ | refine zw ?_ (c:=by first | exact c1 | exact c2 | exact c3 | fail) | refine xr ?_ (hy:=by first | (apply vp rfl un_; exact oo_; done) | fail) | refine x5 ?_ | refine zk ?_ (c:=by intro hk hk2; first | exact c1 | exact c2 | exact c3 | fail) | refine qc ?_ (hy:=by intro hk hk2; first | (apply vp rfl un_; exact oo_; done) | fail) | refine sw_ ?_
   exact hh.h
   done)
 |fail) : p:=k ⟨h⟩
theorem z95 {p q : Prop} (h : q) (k : Bx q → p:=by
 first
 |(intro hh
   first | refine sa_ ?_ | refine zw ?_ (c:=by first | exact c1 | exact c2 | exact c3 | exact vc _ gb_ | fail) | refine xr ?_ (hy:=by first | (apply vp rfl un_; exact oo_; done) | fail) | refine x5 ?_ | refine zk ?_ (c:=by intro hk hk2; first | exact c1 | exact c2 | exact c3 | exact vc _ gb_ | fail) | refine qc ?_ (hy:=by intro hk hk2; first | (apply vp rfl un_; exact oo_; done) | fail) | refine sw_ ?_
   exact hh.h
   done)
 |fail) : p:=k ⟨h⟩
theorem qas {p q : Prop} (h : q) (k : Bx q → p:=by
 first
 |(intro hh
   first | refine sa_ ?_ | refine zw ?_ (c:=by first | exact c1 | exact c2 | exact za7 _ gb_ | exact vc _ gb_ | exact c3 | fail) | refine xr ?_ (hy:=by first | (apply vp rfl un_; exact oo_; done) | (apply vq rfl un_ el_; exact oo_; exact lo_; exact on_; exact on_; exact le_; exact le_; done) | (apply wy rfl un_ el_; exact oo_; exact oo_; exact gb_; (simp only [maxLen]; exact gb_); done) | fail) | refine x5 ?_ | refine zk ?_ (c:=by intro hk hk2; first | exact c1 | exact c2 | exact za7 _ gb_ | exact vc _ gb_ | exact c3 | fail) | refine qc ?_ (hy:=by intro hk hk2; first | (apply vp rfl un_; exact oo_; done) | (apply vq rfl un_ el_; exact oo_; exact lo_; exact on_; exact on_; exact le_; exact le_; done) | (apply wy rfl un_ el_; exact oo_; exact oo_; exact gb_; (simp only [maxLen]; exact gb_); done) | fail) | refine sw_ ?_
   exact hh.h
   done)
 |fail) : p:=k ⟨h⟩
theorem z23 {p q : Prop} (h : q) (k : Bx q → p:=by
 first
 |(intro hh
   first | refine sa_ ?_ | refine zw ?_ (c:=by first | exact c1 | exact wt _ | exact js _ | exact za7 _ gb_ | exact vc _ gb_ | fail) | refine xr ?_ (hy:=by first | (apply vp rfl un_; exact oo_; done) | fail) | refine x5 ?_ | refine zk ?_ (c:=by intro hk hk2; first | exact c1 | exact wt _ | exact js _ | exact za7 _ gb_ | exact vc _ gb_ | fail) | refine qc ?_ (hy:=by intro hk hk2; first | (apply vp rfl un_; exact oo_; done) | fail) | refine sw_ ?_
   exact hh.h
   done)
 |fail) : p:=k ⟨h⟩
theorem z65 {p q : Prop} (h : q) (k : Bx q → p:=by
 first
 |(intro hh
   first | refine xr ?_ (hy:=by first | (apply zk6 rfl; exact oo_; exact on_; apply zam un_ el_; exact hat) | fail) | refine sa_ ?_ | refine zw ?_ (c:=by first | exact c1 | exact c2 | exact c3 | exact c4 | exact c5 | exact c6 | exact c7 | fail) | refine x5 ?_ | refine zk ?_ (c:=by intro hk hk2; first | exact c1 | exact c2 | exact c3 | exact c4 | exact c5 | exact c6 | exact c7 | fail) | refine sw_ ?_
   exact hh.h
   done)
 |fail) : p:=k ⟨h⟩
theorem z5g {p q : Prop} (h : q) (k : Bx q → p:=by
 first
 |(intro hh
   first | refine xr ?_ (hy:=by first | (apply zk6 rfl; exact oo_; exact on_; apply zam un_ el_; exact hat) | fail) | refine zrw (fun _ _ _ h=>h) ?_ | refine zry ?_ | refine sa_ ?_ | refine zw ?_ (c:=by first | exact c1 | fail) | refine x5 ?_ | refine zk ?_ (c:=by intro hk hk2; first | exact c1 | fail) | refine sw_ ?_
   exact hh.h
   done)
 |fail) : p:=k ⟨h⟩
theorem qar {p q : Prop} (h : q) (k : Bx q → p:=by
 first
 |(intro hh
   first | refine xr ?_ (hy:=by first | (apply zk6 rfl; exact oo_; exact on_; apply zam un_ el_; exact hat) | fail) | refine sa_ ?_ | refine zw ?_ (c:=by first | exact c1 | exact c2 | fail) | refine x5 ?_ | refine zk ?_ (c:=by intro hk hk2; first | exact c1 | exact c2 | fail) | refine sw_ ?_
   exact hh.h
   done)
 |fail) : p:=k ⟨h⟩
theorem z64 {p q : Prop} (h : q) (k : Bx q → p:=by
 first
 |(intro hh
   first | refine xr ?_ (hy:=by first | (apply zk6 rfl; exact oo_; exact on_; apply zam un_ el_; exact hat) | fail) | refine xr ?_ (hy:=by first | (apply zk6 rfl; exact oo_; exact on_; apply zam un_ el_; exact hat2) | fail) | refine sa_ ?_ | refine xr ?_ (hy:=by first | (apply ze6 rfl; exact oo_; exact oo_; exact zie) | fail) | refine x5 ?_ | refine qc ?_ (hy:=by intro hk hk2; first | (apply ze6 rfl; exact oo_; exact oo_; exact zie) | fail) | refine sw_ ?_
   exact hh.h
   done)
 |fail) : p:=k ⟨h⟩
theorem zub {p q : Prop} (h : q) (k : Bx q → p:=by
 first
 |(intro hh
   first | refine xr ?_ (hy:=by first | (apply zk6 rfl; exact oo_; exact on_; apply zam un_ el_; exact hat) | (apply zk6 rfl; exact oo_; exact on_; apply zam un_ el_; exact hat2) | fail) | refine sa_ ?_ | refine zw ?_ (c:=by first | exact c1 | exact c2 | exact c3 | exact c4 | exact c5 | exact c6 | exact c7 | exact c2 hk2 | fail) | refine x5 ?_ | refine zk ?_ (c:=by intro hk hk2; first | exact c1 | exact c2 | exact c3 | exact c4 | exact c5 | exact c6 | exact c7 | exact c2 hk2 | fail) | refine sw_ ?_
   exact hh.h
   done)
 |fail) : p:=k ⟨h⟩
theorem zl4 {p q : Prop} (h : q) (k : Bx q → p:=by
 first
 |(intro hh
   first | refine qa9 ?_ | refine zey ?_ | refine w8 ?_ | refine zjk ?_ | refine z6w ?_ | refine z6x ?_ | refine z6v ?_ | refine z61 ?_ | refine z62 rfl ?_ | refine zsx rfl ?_ | refine z60 ?_ | refine zbc ?_ | refine zef ?_ | refine zji ?_ | refine zed ?_
   exact hh.h
   done)
 |fail) : p:=k ⟨h⟩
theorem zy7 {p q : Prop} (h : q) (k : Bx q → p:=by
 first
 |(intro hh
   first | refine sa_ ?_ | refine zw ?_ (c:=by first | exact c1 | exact c2 | exact c3 | fail) | refine xr ?_ (hy:=by first | (apply ze rfl; exact oo_; done) | (apply zn rfl; exact oo_; exact oo_) | fail) | refine x5 ?_ | refine zk ?_ (c:=by intro hk hk2; first | exact c1 | exact c2 | exact c3 | fail) | refine qc ?_ (hy:=by intro hk hk2; first | (apply ze rfl; exact oo_; done) | (apply zn rfl; exact oo_; exact oo_) | fail) | refine sw_ ?_
   exact hh.h
   done)
 |fail) : p:=k ⟨h⟩
theorem qaq {p q : Prop} (h : q) (k : Bx q → p:=by
 first
 |(intro hh
   first | refine sa_ ?_ | refine zw ?_ (c:=by first | exact c1 | exact c2 | exact c3 | exact c4 | fail) | refine xr ?_ (hy:=by first | (apply ze rfl; exact oo_; done) | (apply vq rfl un_ el_; exact oo_; exact lo_; exact on_; exact on_; exact le_; exact le_; done) | (apply wy rfl un_ el_; exact oo_; exact oo_; exact gb_; (simp only [maxLen]; exact gb_); done) | (apply ztu rfl un_; exact oo_; done) | fail) | refine x5 ?_ | refine zk ?_ (c:=by intro hk hk2; first | exact c1 | exact c2 | exact c3 | exact c4 | fail) | refine qc ?_ (hy:=by intro hk hk2; first | (apply ze rfl; exact oo_; done) | (apply vq rfl un_ el_; exact oo_; exact lo_; exact on_; exact on_; exact le_; exact le_; done) | (apply wy rfl un_ el_; exact oo_; exact oo_; exact gb_; (simp only [maxLen]; exact gb_); done) | (apply ztu rfl un_; exact oo_; done) | fail) | refine sw_ ?_
   exact hh.h
   done)
 |fail) : p:=k ⟨h⟩
theorem qap {p q : Prop} (h : q) (k : Bx q → p:=by
 first
 |(intro hh
   first | refine sa_ ?_ | refine zw ?_ (c:=by first | exact c1 | exact c2 | fail) | refine xr ?_ (hy:=by first | (apply ze6 rfl; exact oo_; exact oo_; exact z8_) | fail) | refine x5 ?_ | refine zk ?_ (c:=by intro hk hk2; first | exact c1 | exact c2 | fail) | refine qc ?_ (hy:=by intro hk hk2; first | (apply ze6 rfl; exact oo_; exact oo_; exact z8_) | fail) | refine sw_ ?_
   exact hh.h
   done)
 |fail) : p:=k ⟨h⟩
theorem zsz {p q : Prop} (h : q) (k : Bx q → p:=by
 first
 |(intro hh
   first | refine sa_ ?_ | refine zw ?_ (c:=by first | exact c1 | exact c2 | exact c3 | fail) | refine xr ?_ (hy:=by first | (apply zym rfl un_ el_; exact on_; exact on_; exact gb_; (simp only [maxLen]; exact gb_); done) | fail) | refine x5 ?_ | refine zk ?_ (c:=by intro hk hk2; first | exact c1 | exact c2 | exact c3 | fail) | refine qc ?_ (hy:=by intro hk hk2; first | (apply zym rfl un_ el_; exact on_; exact on_; exact gb_; (simp only [maxLen]; exact gb_); done) | fail) | refine sw_ ?_
   exact hh.h
   done)
 |fail) : p:=k ⟨h⟩
theorem z8j {p q : Prop} (h : q) (k : Bx q → p:=by
 first
 |(intro hh
   first | refine sa_ ?_ | refine zw ?_ (c:=by first | exact c1 | exact c2 | exact c3 | fail) | refine xr ?_ (hy:=by first | (apply ztu (s:=(0,0)) rfl un_; exact oo_; done) | fail) | refine x5 ?_ | refine zk ?_ (c:=by intro hk hk2; first | exact c1 | exact c2 | exact c3 | fail) | refine qc ?_ (hy:=by intro hk hk2; first | (apply ztu (s:=(0,0)) rfl un_; exact oo_; done) | fail) | refine sw_ ?_
   exact hh.h
   done)
 |fail) : p:=k ⟨h⟩
theorem z94 {p q : Prop} (h : q) (k : Bx q → p:=by
 first
 |(intro hh
   first | refine sa_ ?_ | refine zw ?_ (c:=by first | exact c1 | exact c2 | exact c3 | exact c4 | fail) | refine xr ?_ (hy:=by first | (apply ztu rfl un_; exact oo_; done) | fail) | refine x5 ?_ | refine zk ?_ (c:=by intro hk hk2; first | exact c1 | exact c2 | exact c3 | exact c4 | fail) | refine qc ?_ (hy:=by intro hk hk2; first | (apply ztu rfl un_; exact oo_; done) | fail) | refine sw_ ?_
   exact hh.h
   done)
 |fail) : p:=k ⟨h⟩
theorem z63 {p q : Prop} (h : q) (k : Bx q → p:=by
 first
 |(intro hh
   first | refine sa_ ?_ | refine zw ?_ (c:=by first | exact zq4 | exact c1 | exact c2 | exact c3 | exact c4 | exact c5 | exact c6 | exact c7 | exact c8 | exact c9 | exact d1 | exact d2 | exact d3 | exact d4 | exact d5 | exact d6 | exact d7 | exact d8 | exact d9 | fail) | refine x5 ?_ | refine zk ?_ (c:=by intro hk hk2; first | exact zq4 | exact c1 | exact c2 | exact c3 | exact c4 | exact c5 | exact c6 | exact c7 | exact c8 | exact c9 | exact d1 | exact d2 | exact d3 | exact d4 | exact d5 | exact d6 | exact d7 | exact d8 | exact d9 | fail) | refine sw_ ?_
   exact hh.h
   done)
 |fail) : p:=k ⟨h⟩
theorem e1_ {p : Prop} (h : p:=by first | (exfalso; omega) | fail) : p:=h
theorem e2_ {p : Prop} (h : p:=by first | (exfalso; simp at hb; done) | fail) : p:=h
theorem e3_ {p : Prop} (h : p:=by first | exact ⟨_,[],rl_,List.nil_sublist _,Sub.eq (congrArg B (hb0 (by rw [hr]; simp_all)).symm),rfl⟩ | exact ⟨k + 1,⟨by omega,nxt (by rw [hr]; simp_all)⟩,by omega,wx_,sl_⟩ | fail) : p:=h
theorem e4_ {p : Prop} (h : p:=by first | (exfalso; omega) | (exfalso; simp at hb; done) | (exfalso; simp at hb; omega) | fail) : p:=h
theorem e5_ {p : Prop} (h : p:=by first | (exfalso; simp at hb; done) | exact ⟨_,_,rl_,sl_,u,rfl,rfl⟩ | exact ⟨_,[gsO u _],rl_,sl_,u,rfl,rfl⟩ | fail) : p:=h
theorem e6_ {p : Prop} (h : p:=by first | (exfalso; simp at hb; done) | exact ⟨_,[],rl_,List.nil_sublist _,Sub.refl _,rfl⟩ | exact ⟨_,[],rl_,List.nil_sublist _,z4c,rfl⟩ | (exfalso; simp_all; done) | fail) : p:=h
theorem e7_ {p : Prop} (h : p:=by first | (exfalso; simp at hb; done) | (exfalso; simp at hb; omega) | (exfalso; omega) | exact ⟨_,[gsO u _],rl_,sl_,u,rfl,rfl⟩ | fail) : p:=h
theorem e8_ {p : Prop} (h : p:=by first | (exfalso; simp at hb; done) | exact ⟨_,[],rl_,List.nil_sublist _,Sub.refl _,rfl⟩ | exact ⟨_,[],rl_,List.nil_sublist _,zzq,rfl⟩ | (exfalso; simp_all; done) | fail) : p:=h
theorem e9_ {p : Prop} (h : p:=by first | (exfalso; simp at hb; done) | exact ⟨_,[],rl_,List.nil_sublist _,Sub.refl _,rfl⟩ | (exfalso; omega) | (exfalso; simp at hb; omega) | exact ⟨_,[],rl_,List.nil_sublist _,Sub.eq (z_o (by omega) (by omega)),rfl⟩ | fail) : p:=h
theorem z7c {p : Prop} (h : p:=by first | (exfalso; simp at hb; done) | exact ⟨_,[],rl_,List.nil_sublist _,Sub.refl _,rfl⟩ | fail) : p:=h
theorem qbb {p : Prop} (h : p:=by first | (exfalso; omega) | exact ⟨_,[],rl_,List.nil_sublist _,Sub.refl _,rfl⟩ | fail) : p:=h
theorem zne {p : Prop} (h : p:=by first | (exfalso; omega) | (exfalso; exact q8 ⟨hb.1,by omega⟩) | (exfalso; exact q7 ⟨hb.1,by omega⟩) | exact ⟨_,[],rl_,List.nil_sublist _,Sub.refl _,rfl⟩ | (exfalso; simp_all; done) | fail) : p:=h
theorem z7b {p : Prop} (h : p:=by first | (exfalso; simp at hb; done) | exact ⟨_,[],rl_,List.nil_sublist _,sn_,rfl⟩ | fail) : p:=h
theorem zmi {p : Prop} (h : p:=by first | (exfalso; simp at hb; done) | (exfalso; omega) | exact ⟨_,[],rl_,List.nil_sublist _,Sub.refl _,rfl⟩ | exact ⟨_,[],rl_,List.nil_sublist _,sn_,rfl⟩ | fail) : p:=h
theorem z7a {p : Prop} (h : p:=by first | (exfalso; simp at hb; done) | (exfalso; omega) | exact ⟨_,[],rl_,List.nil_sublist _,Sub.refl _,rfl⟩ | exact ⟨_,[],rl_,List.nil_sublist _,Sub.eq (congrArg B (by simp)),rfl⟩ | fail) : p:=h
end
end
section
open Go Go.RowKit
def zfk (s : Nat) : List Nat → Bool
 |[]=>false
 |x :: l=>Nat.beq s x || zfk s l
def v_ : Fr → List Nat
 |[]=>[]
 |(s,_) :: r=>s :: v_ r
def zdg (d fr0 : List Nat) : List Nat → Bool
 |[]=>true
 |s :: l=>(zfk s d || !zfk s fr0) && zdg d fr0 l
theorem zl2 : ∀ (fr : Fr) (s : Nat),zfk s (v_ fr) = false → fr.get s = none
 |[],_,_=>rfl
 |(x,A) :: r,s,h=>by
  simp only [v_,zfk,Bool.or_eq_false_iff] at h
  simp only [Fr.get,h.1,cond_false]; exact zl2 r s h.2
theorem zgz : ∀ (d fr : Fr) (s : Nat),zfk s (v_ d) = true → Fr.get (d ++ fr) s = d.get s
 |[],_,_,h=>by simp [v_,zfk] at h
 |(x,A) :: r,fr,s,h=>by
  simp only [v_,zfk,Bool.or_eq_true] at h
  simp only [List.cons_append,Fr.get]
  cases hb : Nat.beq s x with
  |true=>rfl
  |false=>rw [hb] at h; simp only [cond_false]; exact zgz r fr s (by simpa using h)
theorem zc2 : ∀ (d fr : Fr) (s : Nat),zfk s (v_ d) = false → Fr.get (d ++ fr) s = fr.get s
 |[],_,_,_=>rfl
 |(x,A) :: r,fr,s,h=>by
  simp only [v_,zfk,Bool.or_eq_false_iff] at h
  simp only [List.cons_append,Fr.get,h.1,cond_false]; exact zc2 r fr s h.2
theorem zk1 : ∀ (d fr0 l : List Nat) (s : Nat),zdg d fr0 l = true → zfk s l = true → zfk s d = false → zfk s fr0 = false
 |_,_,[],_,_,h,_=>by simp [zfk] at h
 |d,fr0,x :: l,s,h,hm,hd=>by
  simp only [zdg,Bool.and_eq_true] at h
  simp only [zfk,Bool.or_eq_true] at hm
  rcases hm with hm | hm
  ·have : s = x:=Nat.eq_of_beq_eq_true hm
   subst this
   have:=h.1
   rw [hd] at this; simpa using this
  ·exact zk1 d fr0 l s h.2 hm hd
inductive ExtF (base : Fr) : Fr → List Nat → Prop
 |nil : ExtF base base []
 |cons {s : Nat} {A : AV} {fr : Fr} {l : List Nat} (h : ExtF base fr l) : ExtF base ((s,A) :: fr) (s :: l)
theorem ExtF.get {base fr : Fr} {l : List Nat} (h : ExtF base fr l) {s : Nat} (hs : zfk s l = false) : fr.get s = base.get s:=by
 induction h with
 |nil=>rfl
 |cons h ih =>
  simp only [zfk,Bool.or_eq_false_iff] at hs
  simp only [Fr.get,hs.1,cond_false]; exact ih hs.2
theorem zcb {base fr : Fr} {l : List Nat} (h : ExtF base fr l:=by
 first
 |(repeat (first | exact ExtF.nil | apply ExtF.cons)
   done)
 |fail) : ExtF base fr l:=h
theorem zpn {fr0 d d' fr' : Fr} {l : List Nat} (h : ExtF (d ++ fr0) fr' l) (hk : Weak fr' d') (hc : (zdg (v_ d') (v_ fr0) l && zdg (v_ d') (v_ fr0) (v_ d)) = true) : Weak fr' (d' ++ fr0):=fun G t hr x B _ e=>by
 simp only [Bool.and_eq_true] at hc
 cases hm : zfk x (v_ d') with
 |true=>rw [zgz d' fr0 x hm] at e; exact hk G t hr x B trivial e
 |false =>
  rw [zc2 d' fr0 x hm] at e
  have h0 : ¬ zfk x (v_ fr0) = false:=fun k=>by rw [zl2 fr0 x k] at e; cases e
  have h1 : zfk x l = false:=by
   cases k : zfk x l with
   |false=>rfl
   |true=>exact absurd (zk1 _ _ _ x hc.1 k hm) h0
  have h2 : zfk x (v_ d) = false:=by
   cases k : zfk x (v_ d) with
   |false=>rfl
   |true=>exact absurd (zk1 _ _ _ x hc.2 k hm) h0
  exact hr x B trivial (by rw [h.get h1,zc2 d fr0 x h2]; exact e)
theorem wx_ {fr0 d d' fr' : Fr} {l : List Nat} (h : ExtF (d ++ fr0) fr' l:=by first | exact zcb | fail) (hk : Weak fr' d':=by first | exact wk_ | fail) (hc : (zdg (v_ d') (v_ fr0) l && zdg (v_ d') (v_ fr0) (v_ d)) = true:=by rfl) : Weak fr' (d' ++ fr0):=zpn h hk hc
theorem zjn {fr d : Fr} (h : Weak fr d) : Weak fr (d ++ fr):=fun G t hr x B _ e=>by
 cases hm : zfk x (v_ d) with
 |true=>rw [zgz d fr x hm] at e; exact h G t hr x B trivial e
 |false=>rw [zc2 d fr x hm] at e; exact hr x B trivial e
theorem zjs {M : List Own} {i : Nat} {m : Own} (h1 : M[i]? = some m) : M.set i m = M:=by
 refine List.ext_getElem? fun j => ?_
 rw [List.getElem?_set]
 split
 ·rename_i hij; subst hij
  split
  ·exact h1.symm
  ·rename_i hnl; exact absurd (List.getElem?_eq_some_iff.1 h1).1 hnl
 ·rfl
section
variable {P : Program} {T0 : Gh} {N : Fz} {Q : kw} {fr : Fr} {M : List Own} {c : Code} {σ : Type}
theorem yk (d : σ → Fr) (inv : σ → Prop) (μ : σ → Nat) (s0 : σ) (h0 : inv s0)
  (round : ∀ s,inv s → AW P T0 N c (z_ (fun fr' M' => ∃ s',inv s' ∧ μ s' < μ s ∧ Weak fr' (d s' ++ fr) ∧ List.Sublist M M') Q) (d s ++ fr) M) (hf0 : Weak fr (d s0):=by first | exact wk_ | fail) : AW P T0 N (.loop c) Q fr M :=
 zee (fun s=>d s ++ fr) (fun _=>M) inv μ s0 h0 (zjn hf0) (List.Sublist.refl _) round
theorem zk0 {α : Type} {T : Ty α} {e : TypeId} {u : Value} {l0 : List α} {f : Own → List Own} (d : σ → Fr) (g : σ → List α) (inv : σ → Prop) (μ : σ → Nat) (s0 : σ) (h0 : inv s0) (hl : l0 = g s0)
  (round : ∀ s,inv s → AW P T0 N c (z_ (fun fr' M' => ∃ s',inv s' ∧ μ s' < μ s ∧ Weak fr' (d s' ++ fr) ∧ List.Sublist (f (zx T e u (g s'))) M') Q) (d s ++ fr) (f (zx T e u (g s)))) (hU : UpdF (zx T e u l0) M f:=by first | exact zdi | fail) (hf0 : Weak fr (d s0):=by first | exact wk_ | fail) : AW P T0 N (.loop c) Q fr M:=by
 obtain ⟨i,h1,h2⟩:=hU.spec
 subst hl
 refine zee (fun s=>d s ++ fr) (fun s=>f (zx T e u (g s))) inv μ s0 h0 (zjn hf0) ?_ round
 rw [h2,zjs h1]; exact List.Sublist.refl _
theorem z14 {α : Type} {T : Ty α} {e : TypeId} {u0 : Value} {l0 : List α} {f : Own → List Own} (x : Nat) (d : σ → Fr) (g : σ → List α) (inv : σ → Prop) (μ : σ → Nat) (s0 : σ) (h0 : inv s0) (hl : l0 = g s0)
  (round : ∀ s u,inv s → u.cells = #[u] → u.oneCell' = true → AW P T0 N c (z_ (fun fr' M' => ∃ s' u',inv s' ∧ μ s' < μ s ∧ Weak fr' (((x,vA u') :: d s') ++ fr) ∧ List.Sublist (f (zx T e u' (g s'))) M') Q) (((x,vA u) :: d s) ++ fr) (f (zx T e u (g s)))) (hU : UpdF (zx T e u0 l0) M f:=by first | exact zdi | fail) (hf0 : Weak fr ((x,vA u0) :: d s0):=by first | exact wk_ | fail) : AW P T0 N (.loop c) Q fr M:=by
 obtain ⟨i,h1,h2⟩:=hU.spec
 subst hl
 have hlt:=(List.getElem?_eq_some_iff.1 h1).1
 refine zjj (fun s u=>((x,vA u) :: d s) ++ fr) (fun s u=>f (zx T e u (g s))) (fun s _=>inv s) (fun s _=>μ s) s0 u0 h0 (zjn hf0) ?_ ?_
 ·rw [h2,zjs h1]; exact List.Sublist.refl _
 ·intro s u hi
  refine zhx (T:=T) (e:=e) (u:=u) (l:=g s) ?_ fun a b=>round s u hi a b
  rw [h2]
  exact List.mem_of_getElem? (i:=i) (by rw [List.getElem?_set]; simp [hlt])
end
end
section
open Go Go.RowKit
abbrev SA (l : List UInt8) : AV:=vA (.string ⟨l.toArray⟩)
abbrev UB (b : UInt8) : AV:=vA (.int .u8 (b.toNat : Int))
def u8T : Ty UInt8:={ enc:=fun b=>[.int .u8 (b.toNat : Int)],k:=1,len:=fun _=>rfl }
theorem zuu (l : List UInt8) : (⟨l.toArray⟩ : ByteArray).size = l.length:=by simp [ByteArray.size]
theorem z85 (l : List UInt8) (a b : Nat) : (⟨l.toArray⟩ : ByteArray).extract a b = ⟨((l.drop a).take (b - a)).toArray⟩:=by
 apply WideShapes.bytes_inj
 simp [ByteArray.data_extract,List.extract_eq_take_drop]
theorem z9t (l m : List UInt8) : (⟨l.toArray⟩ : ByteArray) ++ ⟨m.toArray⟩ = ⟨(l ++ m).toArray⟩:=by
 apply WideShapes.bytes_inj
 simp
section
variable {P : Program} {T0 : Gh} {N : Fz} {Q : kw} {fr : Fr} {M M' : List Own} {ops : Array Oper} {o : Oper} {rest : List Oper} {x0 : Nat}
theorem z73 {t : TypeId} {l : List UInt8} (hu : P.underlying t = some .string) : LnK P T0 M t (SA l) (I l.length):=fun fr ops o x ts ho ht hx=>by
 have h:=ztx (o:=o) (M:=M) (ops:=ops) ho ht hu hx
 rw [zuu] at h; exact h
theorem zjf {t : TypeId} {x y : Operand} {l : List UInt8} {k : IntKind} {n : Nat} {b : UInt8} (ho : o.op = .index t x y) (hu : P.underlying t = some .string) (hx : Opd T0 fr x (SA l)) (hy : xi T0 fr y k n) (hn : l[n]? = some b) : AY P T0 ops o fr M (UB b):=xl fun w0 G F a w hs hf=>by
 have h1:=(hx.use (o:=o) (ops:=ops) (by simp [ho,Op.operands]) hs.tab hf).eq
 have h2:=((show Opd T0 fr y (vA (.int k (n : Int))) from hy).use (o:=o) (ops:=ops) (by simp [ho,Op.operands]) hs.tab hf).eq
 obtain ⟨h3,h4⟩:=List.getElem?_eq_some_iff.1 hn
 refine ⟨.int .u8 (b.toNat : Int), ?_,Rep.va _ _⟩
 simp only [execOp,ho,h1,h2,Sem.run_bind,run_index_string w t _ k _ hu]
 rw [dif_pos (by rw [zuu]; omega)]
 subst h4
 rfl
theorem zbb {t : TypeId} {x : Operand} {lo hi : Option Operand} {l : List UInt8} {a b : Nat} (ho : o.op = .slice t x lo hi none) (hu : P.underlying t = some .string) (hx : Opd T0 fr x (SA l)) (hlo : zua lo a T0 fr) (hhi : zwc hi b l.length T0 fr) (h1 : a ≤ b) (h2 : b ≤ l.length) :
  AY P T0 ops o fr M (SA ((l.drop a).take (b - a))):=xl fun w0 G F ac w hs hf=>by
 have e1:=(hx.use (o:=o) (ops:=ops) (by simp [ho,Op.operands]) hs.tab hf).eq
 have hL : (lo.map ac.eval = none ∧ a = 0) ∨ ∃ k,lo.map ac.eval = some (.int k (a : Int)):=by
  cases lo with
  |none=>exact .inl ⟨rfl,hlo⟩
  |some y=>obtain ⟨k,hk⟩:=hlo; exact .inr ⟨k,congrArg some (hk.use (o:=o) (ops:=ops) (by simp [ho,Op.operands]) hs.tab hf).eq⟩
 have hH : (hi.map ac.eval = none ∧ b = l.length) ∨ ∃ k,hi.map ac.eval = some (.int k (b : Int)):=by
  cases hi with
  |none=>exact .inl ⟨rfl,hhi⟩
  |some y=>obtain ⟨k,hk⟩:=hhi; exact .inr ⟨k,congrArg some (hk.use (o:=o) (ops:=ops) (by simp [ho,Op.operands]) hs.tab hf).eq⟩
 have hb:=jp (P:=P) (isS:=false) (cap:=l.length) (len:=l.length) (w:=w) (lo:=a) (hi:=b) (vlo:=lo.map ac.eval) (vhi:=hi.map ac.eval) h1 h2 hL hH
 refine ⟨.string ⟨((l.drop a).take (b - a)).toArray⟩, ?_,Rep.va _ _⟩
 simp only [execOp,ho,e1,Option.map_none,Sem.run_bind,run_sliceAt_string w t _ _ _ _ hu]
 simp [Instr.slice,run_underlying hu,zuu,hb,z85]
theorem z3r {t t' : TypeId} {x y : Operand} {l m : List UInt8} (ho : o.op = .binOp .add t x y t') (hx : Opd T0 fr x (SA l)) (hy : Opd T0 fr y (SA m)) (hf : l.length + m.length ≤ 9223372036854775807) : AY P T0 ops o fr M (SA (l ++ m)):=zye ho hx hy fun w=>by
 have h : ¬ ((((⟨l.toArray⟩ : ByteArray).size + (⟨m.toArray⟩ : ByteArray).size : Nat) : Int) > IntKind.i64.max):=by
  rw [zuu,zuu]; simp only [IntKind.max,IntKind.bits,IntKind.signed]; simp; omega
 simp only [Op.stringOp]
 rw [if_neg h,z9t]; rfl
theorem z89 {t : TypeId} {l m : List UInt8} : EqK P t (SA l) (SA m) (decide (l = m)):=fun _ _ _ _ _ _ _ _ hx hy=>⟨fun ho=>zye ho hx hy fun w=>by
 simp only [Op.stringOp,ByteArray.toList_mk]
 have : (l == m) = decide (l = m):=by rw [Bool.eq_iff_iff]; simp
 rw [← this]; rfl,fun ho=>zye ho hx hy fun w=>by
 simp only [Op.stringOp,ByteArray.toList_mk]
 have : (l == m) = decide (l = m):=by rw [Bool.eq_iff_iff]; simp
 rw [← this]; rfl⟩
def z1u (r : Int) : List UInt8:=(Utf8.encode r).data.toList
theorem zex {s d : TypeId} {x : Operand} {k : IntKind} {a : Int} {ts : TypeDesc} (ho : o.op = .convert s d x) (hs' : P.underlying s = some ts) (hd : P.underlying d = some .string) (hx : Opd T0 fr x (vA (.int k a))) : AY P T0 ops o fr M (SA (z1u a)):=xl fun w0 G F a' w hs hf' =>
 ⟨.string (Utf8.encode a),by
  have h1:=(hx.use (o:=o) (ops:=ops) (by simp [ho,Op.operands]) hs.tab hf').eq
  simp only [execOp,ho,h1,Sem.run_bind,run_convert_int_string w s d k a (by rw [hs']; rfl) hd,Result.andThen_ok,Sem.run_pure],.of (by simp [vA,z1u])⟩
theorem zsf (w : World) (src dst e : TypeId) (a : Option Addr) (c : Nat) (l : List UInt8) (hs : P.underlying src = some (.slice e)) (he : P.underlying e = some (.int .u8)) (hd : P.underlying dst = some .string)
  (hc : l ≠ [] → ∃ b off,a = some ⟨b,off,none⟩ ∧ ∀ j v,(l.flatMap u8T.enc)[j]? = some v → w.cell? ⟨b,off + j,none⟩ = some v) : (convert src dst (.slice a l.length c)).run P w = .ok (.string ⟨l.toArray⟩) w:=by
 rw [run_convert_bytes_string w src dst e a l.length c hs he hd]
 have h0 : ∀ ad : Addr,l = [] → (Conv.bytesToString (.slice (some ad) l.length c)).run P w = .ok (.string ⟨l.toArray⟩) w:=fun ad hl=>by
  subst hl
  exact (run_bytesToString w ad 0 c [] (by simp [loadCells,loadCellsFrom])).trans rfl
 by_cases hl : l = []
 ·cases a with
  |none=>subst hl; simp [Conv.bytesToString]; rfl
  |some ad=>exact h0 ad hl
 ·obtain ⟨b,off,rfl,hcell⟩:=hc hl
  have hld:=run_loadCells_list (P:=P) (w:=w) ⟨b,off,none⟩ (l.flatMap u8T.enc) (fun j v hv=>by rw [Addr.add_lit]; exact hcell j v hv)
  rw [zc8,show u8T.k = 1 from rfl,Nat.mul_one] at hld
  have he2 : ∀ l : List UInt8,l.flatMap u8T.enc = (l.map fun b=>(b.toNat : Int)).map (Value.int .u8):=fun l=>by
   induction l with
   |nil=>rfl
   |cons x l ih=>rw [List.flatMap_cons,ih]; rfl
  rw [he2] at hld
  refine (run_bytesToString w _ _ c _ hld).trans ?_
  congr 2
  have h3 : ∀ (l : List UInt8) (s : List UInt8),(l.map fun b=>(b.toNat : Int)).foldl (fun (r : ByteArray) n=>r.push (UInt8.ofNat n.toNat)) ⟨s.toArray⟩ = ⟨(s ++ l).toArray⟩:=fun l=>by
   induction l with
   |nil=>intro s; simp
   |cons x l ih =>
    intro s
    rw [List.map_cons,List.foldl_cons]
    have : (⟨s.toArray⟩ : ByteArray).push (UInt8.ofNat ((x.toNat : Int)).toNat) = ⟨(s ++ [x]).toArray⟩:=by
     simp [ByteArray.push]
    rw [this,ih]; simp
  exact h3 l []
theorem zde {s d e : TypeId} {x : Operand} {l : List UInt8} (ho : o.op = .convert s d x) (hs' : P.underlying s = some (.slice e)) (he : P.underlying e = some (.int .u8)) (hd : P.underlying d = some .string) (hx : Opd T0 fr x (slA u8T l)) : AY P T0 ops o fr M (SA l):=xl fun w0 G F a' w hs hf'=>by
 obtain ⟨ad,n,cap,h1,h2,_,_,_,h3⟩:=(hx.use (o:=o) (ops:=ops) (by simp [ho,Op.operands]) hs.tab hf').sl
 subst h2
 refine ⟨.string ⟨l.toArray⟩, ?_,Rep.va _ _⟩
 have h4:=zsf (P:=P) w s d e ad cap l hs' he hd fun hl=>let ⟨b,off,h5,h6⟩:=h3 hl; ⟨b,off,h5,fun j v hv=>hs.imm _ _ _ (h6 j v hv)⟩
 simp only [execOp,ho,h1,Sem.run_bind,h4,Result.andThen_ok,Sem.run_pure]
end
end
section
open Go Go.RowKit
section
variable {P : Program} {T0 : Gh} {N : Fz} {Q : kw} {fr : Fr} {M : List Own} {ops : Array Oper} {listed : Array Bool} {fuel : Nat}
theorem zqa {o : Oper} {a : Act} {w : World} {K K' : Act → World → Prop} {Qc Qc' : Exit → Act → World → Prop} (hk : ∀ a w,K a w → K' a w) (hq : ∀ e a w,e ≠ .normal → Qc e a w → Qc' e a w) (h : o.wp P a w K Qc) : o.wp P a w K' Qc':=by
 unfold Oper.wp at h ⊢
 generalize (execOp a.eval o).run P w = r at *
 cases r with
 |ok n w' =>
  cases n <;> simp only [Oper.upon] at h ⊢ <;>
   first
    |exact hk _ _ h
    |exact Calls.mono h (fun e w'' he=>by
      cases e
      ·exact hk _ _ he
      ·exact hq _ _ _ (by simp) he
      ·obtain ⟨x,y,z⟩:=he; exact ⟨x,y,hq _ _ _ (by simp) z⟩)
    |exact Rows.mono h (fun _ _ he=>hk _ _ he)
 |halt x w'=>cases x <;> simp only [Oper.upon] at h ⊢ <;> first | exact hq _ _ _ (by simp) h | exact h
theorem y4 {md : Region.Mode} {Qc Qc' : Exit → Act → World → Prop} (hq : ∀ e a w,Qc e a w → Qc' e a w) : ∀ (fuel : Nat) (listed : Array Bool) (a : Act) (w : World),wpAny P md ops Qc fuel listed a w → wpAny P md ops Qc' fuel listed a w
 |0,_,_,_,h=>⟨h.1,hq _ _ _ h.2⟩
 |fuel + 1,listed,a,w,h=>by
  refine ⟨fun h0=>hq _ _ _ (h.1 h0),fun i hi => ?_⟩
  have h1:=h.2 i hi
  unfold wpOp at h1 ⊢
  cases ho : ops[i]? with
  |none=>rw [ho] at h1; exact y4 hq fuel _ _ _ h1
  |some o =>
   rw [ho] at h1
   simp only at h1 ⊢
   split
   ·rename_i hw; rw [if_pos hw] at h1
    exact h1.imp (fun h=>zqa (fun a w h=>y4 hq fuel _ _ _ h) (fun e a w _ h=>hq e a w h) h) (fun h=>⟨h.1,let ⟨x,y,z⟩:=h.2; ⟨x,y,hq _ _ _ z⟩⟩)
   ·rename_i hw; rw [if_neg hw] at h1; exact y4 hq fuel _ _ _ h1
def zia (fr1 : Fr) (M1 : List Own) : kw:=fun e fr M=>e = .normal ∧ Weak fr fr1 ∧ List.Sublist M1 M
def AN (P : Program) (T0 : Gh) (N : Fz) (ops : Array Oper) (Q : kw) (fuel : Nat) (listed : Array Bool) (fr : Fr) (M : List Own) : Prop := ∀ w0 G F a w,Con T0 N w0 G F fr M a w → wpAny P .any ops (cQ T0 N w0 G F Q) fuel listed a w
def AllI : List Nat → (Nat → Prop) → Prop
 |[],_=>True
 |i :: l,p=>p i ∧ AllI l p
theorem AllI.mem {p : Nat → Prop} : ∀ {l : List Nat},AllI l p → ∀ i ∈ l,p i
 |[],_,i,hi=>by cases hi
 |x :: l,h,i,hi=>by
  rcases List.mem_cons.1 hi with rfl | hi
  ·exact h.1
  ·exact AllI.mem h.2 i hi
theorem jm {p : Nat → Prop} : AllI [] p:=trivial
theorem xh {p : Nat → Prop} {i : Nat} {l : List Nat} (h : p i) (k : AllI l p) : AllI (i :: l) p:=⟨h,k⟩
def zho (s : List Bool) : List Edge → Bool
 |[]=>true
 |e :: es=>(!Region.binds .any e || s.getD e.on false) && zho s es
def uz (s : List Bool) : Nat → List Oper → List Bool → List Nat
 |k,o :: l,b :: r=>bif !b && zho s o.after.toList then k :: uz s (k + 1) l r else uz s (k + 1) l r
 |_,_,_=>[]
theorem zhn (s : List Bool) : ∀ es : List Edge,zho s es = true ↔ ∀ e ∈ es,Region.binds .any e = true → s.getD e.on false = true
 |[]=>by simp [zho]
 |e :: es=>by
  simp only [zho,Bool.and_eq_true,zhn s es,List.mem_cons,forall_eq_or_imp]
  cases Region.binds .any e <;> simp
theorem zio (s : List Bool) : ∀ (k : Nat) (l : List Oper) (r : List Bool) (i : Nat),i ∈ uz s k l r ↔ ∃ j o,i = k + j ∧ l[j]? = some o ∧ r[j]? = some false ∧ zho s o.after.toList = true
 |k,[],r,i=>by simp [uz]
 |k,o :: l,[],i=>by simp [uz]
 |k,o :: l,b :: r,i=>by
  have ih:=zio s (k + 1) l r i
  have hsplit : (∃ j o',i = k + j ∧ (o :: l)[j]? = some o' ∧ (b :: r)[j]? = some false ∧ zho s o'.after.toList = true) ↔ (i = k ∧ b = false ∧ zho s o.after.toList = true) ∨ ∃ j o',i = k + 1 + j ∧ l[j]? = some o' ∧ r[j]? = some false ∧ zho s o'.after.toList = true:=by
   constructor
   ·rintro ⟨j,o',h1,h2,h3,h4⟩
    cases j with
    |zero=>simp at h2 h3; subst h2; exact .inl ⟨by omega,h3,h4⟩
    |succ j=>exact .inr ⟨j,o',by omega,by simpa using h2,by simpa using h3,h4⟩
   ·rintro (⟨h1,h2,h3⟩ | ⟨j,o',h1,h2,h3,h4⟩)
    ·exact ⟨0,o,by omega,rfl,by simp [h2],h3⟩
    ·exact ⟨j + 1,o',by omega,by simpa using h2,by simpa using h3,h4⟩
  rw [hsplit,← ih]
  have hu : uz s k (o :: l) (b :: r) = (bif !b && zho s o.after.toList then k :: uz s (k + 1) l r else uz s (k + 1) l r):=rfl
  rw [hu]
  cases hb : (!b && zho s o.after.toList) with
  |true =>
   simp only [Bool.and_eq_true,Bool.not_eq_true'] at hb
   simp only [cond_true,List.mem_cons]
   constructor
   ·rintro (h | h)
    ·exact .inl ⟨h,hb.1,hb.2⟩
    ·exact .inr h
   ·rintro (h | h)
    ·exact .inl h.1
    ·exact .inr h
  |false =>
   simp only [cond_false]
   constructor
   ·exact fun h=>.inr h
   ·rintro (h | h)
    ·simp [h.2.1,h.2.2] at hb
    ·exact h
theorem znv (l : List Oper) (s : List Bool) (i : Nat) : i ∈ Region.ready .any l.toArray s.toArray ↔ i ∈ uz s 0 l s:=by
 rw [mem_ready,zio]
 constructor
 ·rintro ⟨h1,o,h2,h3⟩
  refine ⟨i,o,by omega,by simpa using h2, ?_,(zhn s _).2 fun e he hb => ?_⟩
  ·rcases Nat.lt_or_ge i s.length with h | h
   ·simp [h] at h1; simp [h,h1]
   ·simp [List.getElem?_eq_none h] at h1
  ·have:=h3 e (by simpa using he) hb
   simpa using this
 ·rintro ⟨j,o,h1,h2,h3,h4⟩
  obtain rfl : i = j:=by omega
  refine ⟨by simp [h3],o,by simpa using h2,fun e he hb => ?_⟩
  have:=(zhn s _).1 h4 e (by simpa using he) hb
  simpa using this
def AtI (P : Program) (T0 : Gh) (N : Fz) (l : List Oper) (Q : kw) (fuel : Nat) (s : List Bool) (fr : Fr) (M : List Own) (i : Nat) : Prop := ∃ o,l[i]? = some o ∧ AL P T0 N false l.toArray (z_ (AN P T0 N l.toArray Q fuel (s.set i true).toArray) Q) [o] fr M
theorem jk {l : List Oper} {s : List Bool} {L : List Nat} (hL : uz s 0 l s = L) (hne : L.isEmpty = false) (h : AllI L (AtI P T0 N l Q fuel s fr M)) : AN P T0 N l.toArray Q (fuel + 1) s.toArray fr M:=fun w0 G F a w hc=>by
 subst hL
 refine ⟨fun h0 => ?_,fun i hi => ?_⟩
 ·cases hL : uz s 0 l s with
  |nil=>rw [hL] at hne; cases hne
  |cons i r =>
   have:=(znv l s i).2 (by rw [hL]; exact List.mem_cons_self)
   rw [h0] at this; cases this
 obtain ⟨o,ho,hal⟩:=h.mem i ((znv l s i).1 hi)
 simp only [AL,Bool.false_eq_true,if_false] at hal
 have h1:=hal w0 G F a w hc
 rw [List.setIfInBounds_toArray]
 have hnext : ∀ a' w',cQ T0 N w0 G F (z_ (AN P T0 N l.toArray Q fuel (s.set i true).toArray) Q) .normal a' w' → wpAny P .any l.toArray (cQ T0 N w0 G F Q) fuel (s.set i true).toArray a' w':=fun a' w' ⟨fr',M',G',q1,q2,q3⟩ =>
  y4 (fun _ _ _ q=>q.mono (fun _ _ _ h=>h) q2) _ _ _ _ ((show AN P T0 N l.toArray Q fuel (s.set i true).toArray fr' M' from q1) w0 G' F a' w' q3)
 have hexit : ∀ e a' w',cQ T0 N w0 G F (z_ (AN P T0 N l.toArray Q fuel (s.set i true).toArray) Q) e a' w' → e ≠ .normal → cQ T0 N w0 G F Q e a' w':=fun e a' w' ⟨fr',M',G',q1,q2,q3⟩ hne'=>by
  refine ⟨fr',M',G', ?_,q2,q3⟩
  cases e with
  |normal=>exact absurd rfl hne'
  |_=>exact q1
 have ho' : l.toArray[i]? = some o:=by simpa using ho
 unfold wpOp; rw [ho']
 unfold wpList at h1
 simp only
 split at h1
 ·rename_i hw; rw [if_pos hw]
  exact h1.imp (fun h=>zqa (fun a w h=>hnext a w h) (fun e a w hne h=>hexit e a w h hne) h) (fun h=>⟨h.1,let ⟨x,y,z⟩:=h.2; ⟨x,y,hexit _ _ _ z (by simp)⟩⟩)
 ·rename_i hw; rw [if_neg hw]; exact hnext _ _ h1
theorem z9v {l : List Oper} {s : List Bool} (h : Q .normal fr M) (hL : (uz s 0 l s).isEmpty = true) : AN P T0 N l.toArray Q fuel s.toArray fr M:=fun w0 G F a w hc=>by
 have hL' : Region.ready .any l.toArray s.toArray = []:=by
  rw [List.eq_nil_iff_forall_not_mem]
  intro i hi
  rw [znv,List.isEmpty_iff.1 hL] at hi; cases hi
 cases fuel with
 |zero=>exact ⟨hL',fr,M,G,h,Gh.le.refl _,hc⟩
 |succ n=>exact ⟨fun _=>⟨fr,M,G,h,Gh.le.refl _,hc⟩,fun i hi=>by rw [hL'] at hi; cases hi⟩
theorem qa {id : Nat} {l : List Oper} {d1 : Fr} {M1 : List Own} (hn : zvp l = true) (hm : P.follows .mixedOrders = true) (h : AN P T0 N l.toArray (zia (d1 ++ fr) M1) l.length (List.replicate l.length false).toArray fr M) (k : Q .normal (d1 ++ fr) M1) : AW P T0 N (.region id l.toArray true) Q fr M:=fun w0 G F a w hc =>
 wp_region_any hm (by
  have h1:=h w0 G F a _ ⟨hc.st.drew,hc.fr,hc.size,hc.defers⟩
  simp only [List.size_toArray]
  have e : Array.replicate l.length false = (List.replicate l.length false).toArray:=by simp
  rw [e]
  refine y4 (fun e a' w' q => ?_) _ _ _ _ h1
  obtain ⟨fr',M',G',⟨rfl,hw,hs⟩,hl,hc'⟩:=q
  exact ⟨d1 ++ fr,M1,G',k,hl,hc'.st.sub (hs.append (List.Sublist.refl F)),hw G' a'.tmps hc'.fr,hc'.size,hc'.defers⟩)
theorem zdf {l : List Oper} {s : List Bool} {i : Nat} {o : Oper} (ho : l[i]? = some o) (h : AL P T0 N false l.toArray (z_ (AN P T0 N l.toArray Q fuel (s.set i true).toArray) Q) [o] fr M) : AtI P T0 N l Q fuel s fr M i:=⟨o,ho,h⟩
inductive Ext1 (base : Fr) : Fr → Fr → Prop
 |nil : Ext1 base base []
 |cons {s : Nat} {A : AV} {fr d : Fr} (h : Ext1 base fr d) : Ext1 base ((s,A) :: fr) ((s,A) :: d)
theorem vn {base fr d : Fr} (h : Ext1 base fr d:=by
 first
 |(repeat (first | exact Ext1.nil | apply Ext1.cons)
   done)
 |fail) : Ext1 base fr d:=h
theorem Ext1.eq {base fr d : Fr} (h : Ext1 base fr d) : fr = d ++ base:=by
 induction h with
 |nil=>rfl
 |cons h ih=>rw [ih]; rfl
theorem xf {fr0 fr' d : Fr} (h : Ext1 fr0 fr' d) : zia (d ++ fr0) M .normal fr' M:=⟨rfl,by rw [h.eq]; exact Weak.refl _,List.Sublist.refl _⟩
theorem jh {fr0 fr' d : Fr} {l : List Nat} (h : ExtF fr0 fr' l) (hk : Weak fr' d) (hc : zdg (v_ d) (v_ fr0) l = true) : zia (d ++ fr0) M .normal fr' M :=
 ⟨rfl,zpn (d:=[]) h hk (by rw [hc]; simp [v_,zdg]),List.Sublist.refl _⟩
end
end
section
open Go Go.RowKit
section
variable {P : Program} {T0 : Gh} {N : Fz} {Q : kw} {fr : Fr} {M : List Own} {c : Code} {σ : Type} {ops : Array Oper} {o : Oper}
theorem zig {b : Nat} {e : TypeId} {cells0 : List AV} {f : Own → List Own} (d : σ → Fr) (g : σ → List AV) (inv : σ → Prop) (μ : σ → Nat) (s0 : σ) (h0 : inv s0) (hl : cells0 = g s0)
  (round : ∀ s,inv s → AW P T0 N c (z_ (fun fr' M' => ∃ s',inv s' ∧ μ s' < μ s ∧ Weak fr' (d s' ++ fr) ∧ List.Sublist (f (qd b e (g s'))) M') Q) (d s ++ fr) (f (qd b e (g s)))) (hU : UpdF (qd b e cells0) M f:=by first | exact zdi | fail) (hf0 : Weak fr (d s0):=by first | exact wk_ | fail) : AW P T0 N (.loop c) Q fr M:=by
 obtain ⟨i,h1,h2⟩:=hU.spec
 subst hl
 refine zee (fun s=>d s ++ fr) (fun s=>f (qd b e (g s))) inv μ s0 h0 (zjn hf0) ?_ round
 rw [h2,zjs h1]; exact List.Sublist.refl _
theorem zn {ts : Array TypeId} {x y : Operand} {k : IntKind} {a b : Int} (ho : o.op = .call { callee:=.builtin .max,args := #[x,y],argTypes:=ts }) (hx : Opd T0 fr x (vA (.int k a))) (hy : Opd T0 fr y (vA (.int k b))) : AY P T0 ops o fr M (vA (.int k (max a b))):=xl fun w0 G F ac w hs hf=>by
 have e1:=(hx.use (o:=o) (ops:=ops) (by simp [ho,Op.operands,Call.operands]) hs.tab hf).eq
 have e2:=(hy.use (o:=o) (ops:=ops) (by simp [ho,Op.operands,Call.operands]) hs.tab hf).eq
 refine ⟨.int k (max a b), ?_,Rep.va _ _⟩
 simp only [execOp,ho,resolve]
 simp [invoke,builtin,e1,e2,Go.Lib.run_max_ints]
theorem zz {ts : Array TypeId} {x y : Operand} {k : IntKind} {a b : Int} (ho : o.op = .call { callee:=.builtin .min,args := #[x,y],argTypes:=ts }) (hx : Opd T0 fr x (vA (.int k a))) (hy : Opd T0 fr y (vA (.int k b))) : AY P T0 ops o fr M (vA (.int k (min a b))):=xl fun w0 G F ac w hs hf=>by
 have e1:=(hx.use (o:=o) (ops:=ops) (by simp [ho,Op.operands,Call.operands]) hs.tab hf).eq
 have e2:=(hy.use (o:=o) (ops:=ops) (by simp [ho,Op.operands,Call.operands]) hs.tab hf).eq
 refine ⟨.int k (min a b), ?_,Rep.va _ _⟩
 simp only [execOp,ho,resolve]
 simp [invoke,builtin,e1,e2,Go.Lib.run_min_ints]
theorem vq {α : Type} {T : Ty α} {t e : TypeId} {x y z : Operand} {lo : Option Operand} {l : List α} {d : α} {by' a b : Nat} {k k' : IntKind} {av : α → AV} (ho : o.op = .slice t x lo (some y) (some z)) (hu : P.underlying t = some (.slice e)) (he : El P T e d by' av) (hx : Opd T0 fr x (slA T l)) (hlo : zua lo a T0 fr) (hy : xi T0 fr y k b) (hz : xi T0 fr z k' b) (h1 : a ≤ b) (h2 : b ≤ l.length) :
  AY P T0 ops o fr M (jc T ((l.drop a).take (b - a))):=xl fun w0 G F ac w hs hf=>by
 obtain ⟨ad,n,cap,e1,e2,e3,e4,e5,e6⟩:=(hx.use (o:=o) (ops:=ops) (by simp [ho,Op.operands]) hs.tab hf).sl
 have hl : ((lo.map ac.eval) = none ∧ a = 0) ∨ ∃ k,(lo.map ac.eval) = some (.int k (a : Int)):=by
  cases lo with
  |none=>exact .inl ⟨rfl,hlo⟩
  |some y=>obtain ⟨k,hk⟩:=hlo; exact .inr ⟨k,by rw [Option.map_some,(hk.use (o:=o) (ops:=ops) (by simp [ho,Op.operands]) hs.tab hf).eq]⟩
 have e7:=((show Opd T0 fr y (vA (.int k (b : Int))) from hy).use (o:=o) (ops:=ops) (by simp [ho,Op.operands]) hs.tab hf).eq
 have e8:=((show Opd T0 fr z (vA (.int k' (b : Int))) from hz).use (o:=o) (ops:=ops) (by simp [ho,Op.operands]) hs.tab hf).eq
 have hb : (Instr.sliceBounds true n cap (lo.map ac.eval) (some (.int k (b : Int))) (some (.int k' (b : Int)))).run P w = .ok (a,b,b) w:=by
  rcases hl with ⟨h,rfl⟩ | ⟨k,h⟩ <;> rw [h] <;> simp [Instr.sliceBounds,run_sliceBound,h1,show b ≤ cap by omega]
 refine ⟨.slice (if b = a then ad else ad.map (·.add (a * T.k))) (b - a) (b - a), ?_,.of ⟨_,_,rfl,by simp; omega,by omega,z3i e6 e2 h1 (by omega) (by omega)⟩⟩
 simp only [execOp,ho,e1]
 simp [run_sliceAt_slice _ _ _ _ _ _ (zeb hu),Instr.slice,run_underlying hu,hb,he.size,e7,e8]
theorem zrw {c : Code} (hg : ∀ l fr M,¬ Q (.goto l) fr M) (h : AW P T0 N c Q fr M) : AW P T0 N (.scope c) Q fr M:=fun w0 G F a w hc =>
 wp_scope_straight (wp_mono (h w0 G F a w hc) fun e a' w' q=>by
  cases e with
  |goto l=>obtain ⟨fr',M',G',q1,_⟩:=q; exact absurd q1 (hg l fr' M')
  |_=>exact q)
theorem zry {l : Nat} (h : Q .normal fr M) : AW P T0 N (.label l) Q fr M:=fun _ _ _ _ _ hc=>wp_label ⟨fr,M,_,h,Gh.le.refl _,hc⟩
inductive ResL (P : Program) (M : List Own) (fr : Fr) : List ResultVar → List AV → Prop
 |nil : ResL P M fr [] []
 |tmp {t : Nat} {A : AV} {r : List ResultVar} {l : List AV} (h : fr.get t = some A) (k : ResL P M fr r l) : ResL P M fr (.tmp t :: r) (A :: l)
 |agg {s t e b n : Nat} {cells : List AV} {r : List ResultVar} {l : List AV} (ha : ∀ w,(isAgg t).run P w = .ok true w) (hs : fr.get s = some (vA (.pointer (some ⟨b,0,none⟩)))) (hM : qd b e cells ∈ M) (hz : ∀ w,(sizeOf t).run P w = .ok n w) (hl : cells.length = n) (k : ResL P M fr r l) : ResL P M fr (.cell s t :: r) (z0 cells :: l)
 |one {s t e b : Nat} {A : AV} {r : List ResultVar} {l : List AV} (ha : ∀ w,(isAgg t).run P w = .ok false w) (hs : fr.get s = some (vA (.pointer (some ⟨b,0,none⟩)))) (hM : qd b e [A] ∈ M) (k : ResL P M fr r l) : ResL P M fr (.cell s t :: r) (A :: l)
def z4i (tmps : Array Value) : ResultVar → Sem Value
 |.tmp t=>pure (tmps.getD t undef)
 |.cell a t=>do loadVar t (← asAddr (tmps.getD a undef))
theorem zin (fn : Func) (tmps : Array Value) : results fn tmps = (do let vs ← fn.results.mapM (z4i tmps); pure (if h : vs.size = 1 then vs[0] else .tuple vs)):=by
 have h : (fun (r : ResultVar)=>match r with | .tmp t=>(pure (tmps.getD t undef) : Sem Value) | .cell a t=>(do loadVar t (← asAddr (tmps.getD a undef)))) = z4i tmps:=by
  funext r; cases r <;> rfl
 rw [← h]; rfl
theorem zei {t e : TypeId} {b : Nat} {u : Value} {w : World} (ha : ∀ w,(isAgg t).run P w = .ok false w) (h : w.heap[b]? = some (.cells #[u] e (0,0))) : (loadVar t ⟨b,0,none⟩).run P w = .ok u w:=by
 have hc : w.cell? ⟨b,0,none⟩ = some u:=(cell_of_row _ _ _ _ _ _ h).trans rfl
 simp only [loadVar]
 simp [ha,load,Sem.run,hc]
theorem ResL.run {T0 : Gh} {w0 : World} {G : Gh} {F : List Own} {tmps : Array Value} {w : World} (st : St T0 w0 G (M ++ F) w) (hr : frRel G fr tmps) : ∀ {rs : List ResultVar} {l : List AV},ResL P M fr rs l →
  ∃ us,(rs.mapM (z4i tmps)).run P w = .ok us w ∧ AllRep G l us:=by
 intro rs l h
 induction h with
 |nil=>exact ⟨[],by simp,trivial⟩
 |tmp h k ih =>
  obtain ⟨us,h1,h2⟩:=ih
  exact ⟨_ :: us,by simp only [List.mapM_cons,z4i,Sem.run_bind,Sem.run_pure,Result.andThen_ok,h1],kj hr h,h2⟩
 |agg ha hs hM hz hl k ih =>
  obtain ⟨us,h1,h2⟩:=ih
  obtain ⟨u,h3,h4⟩:=zab ha (by rw [hl]; exact hz) (st.own _ (List.mem_append_left F hM))
  have h5:=(kj hr hs).eq
  refine ⟨u :: us, ?_,h4,h2⟩
  simp only [List.mapM_cons,z4i,Sem.run_bind,h5,asAddr,Sem.run_pure,Result.andThen_ok,h3,h1]
 |one ha hs hM k ih =>
  obtain ⟨us,h1,h2⟩:=ih
  obtain ⟨cs,h3,h4⟩:=st.own _ (List.mem_append_left F hM)
  obtain ⟨u,rfl⟩ : ∃ u,cs = [u]:=List.length_eq_one_iff.1 h4.len
  have h5:=(kj hr hs).eq
  refine ⟨u :: us, ?_,h4.1,h2⟩
  have h6:=zei ha h3
  simp only [List.mapM_cons,z4i,Sem.run_bind,h5,asAddr,Sem.run_pure,Result.andThen_ok,h6,h1]
theorem qdr {T0 : Gh} {fn : Func} {rs : List ResultVar} {l : List AV} (h : fn.results.toList = rs) (k : ResL P M fr rs l) (hl : Nat.beq l.length 1 = false) : zjl P T0 fn fr M (zt l):=fun w0 G F tmps w st hr=>by
 obtain ⟨us,h1,h2⟩:=k.run st hr
 have hn : us.toArray.size ≠ 1:=fun e=>by
  have e2 : l.length = 1:=by rw [← h2.len]; simpa using e
  rw [e2] at hl; simp at hl
 refine ⟨.tuple us.toArray, ?_,.of ⟨us,rfl,h2⟩⟩
 have h' : fn.results = rs.toArray:=by rw [← h]
 rw [zin,h',List.mapM_toArray]
 simp only [Sem.run_bind,map_eq_pure_bind,bind_assoc,Sem.run_pure,h1,Result.andThen_ok,dif_neg hn,pure_bind]
end
theorem rl_ {T0 : Gh} {fr : Fr} {M : List Own} {fn : Func} {A : AV} (h : zjl Tryz.prog T0 fn fr M A:=by
 first
 |exact rs_
 |(apply qdr rfl
   (case k=>(repeat' (first
    |exact ResL.nil
    |(apply ResL.tmp; rfl)
    |(apply ResL.agg; exact zfb; rfl; exact vh; exact sz_; rfl)
    |(apply ResL.one; exact zfb; rfl; exact vh))))
   (case hl=>rfl)
   done)
 |fail) : zjl Tryz.prog T0 fn fr M A:=h
end
section
open Go Go.RowKit Go.MapKept
theorem z8h {α : Type} [Inhabited α] {l : List α} {i : Nat} (h : i < l.length) : l[i]? = some (l[i]!):=by simp [h]
section
variable {P : Program} {T0 : Gh} {N : Fz} {Q : kw} {fr : Fr} {M M' : List Own} {ops : Array Oper} {o : Oper} {rest : List Oper} {x0 : Nat}
theorem ze {x : Operand} {a : Addr} (ho : o.op = .nilCheck x) (hx : Opd T0 fr x (vA (.pointer (some a)))) : AY P T0 ops o fr M (vA (.pointer (some a))):=xl fun w0 G F ac w hs hf=>⟨.pointer (some a),by
 have h1:=(hx.use (o:=o) (ops:=ops) (by simp [ho,Op.operands]) hs.tab hf).eq
 simp [execOp,ho,h1],Rep.va _ _⟩
theorem zfy {x : Operand} {t : TypeId} {k : IntKind} {v : Value} (ho : o.op = .makeInterface t x) (hd : P.underlying t = some (.int k)) (hx : Opd T0 fr x (vA v)) : AY P T0 ops o fr M (vA (.iface t v)):=xl fun w0 G F ac w hs hf=>⟨.iface t v,by
 have h1:=(hx.use (o:=o) (ops:=ops) (by simp [ho,Op.operands]) hs.tab hf).eq
 simp [execOp,ho,h1,Instr.makeInterface,run_underlying hd],Rep.va _ _⟩
theorem qk {x : Operand} {t : TypeId} {v : Value} (hg : o.guard = none) (hd : o.dst = none) (ho : o.op = .panic x) (hx : Opd T0 fr x (vA (.iface t v))) (h : Q (.panic [{ v:=.iface t v,recovered:=false }]) fr M) : AL P T0 N false ops Q (o :: rest) fr M:=by
 refine zt4 (K:=fun _ _=>False) (KP:=fun c M'=>c = [{ v:=.iface t v,recovered:=false }] ∧ M' = M) hg (fun w0 G F a w next Qc hs hf hk hp => ?_) hd ?_ (fun _ _ h=>h.elim)
 ·have h1:=(hx.use (o:=o) (ops:=ops) (by simp [ho,Op.operands]) hs.tab hf).eq
  have hrun : (execOp a.eval o).run P w = .halt (.panic (.iface t v)) w:=by simp [execOp,ho,h1,run_panic_iface]
  unfold Oper.wp; rw [hrun]
  exact hp _ M G w ⟨rfl,rfl⟩ (Gh.le.refl _) hs
 ·rintro c M' ⟨rfl,rfl⟩; exact h
theorem zv {f : FuncId} {args : Array Operand} {ts : Array TypeId} {As : List AV} {m : Own} {K : AV → List Own → Prop} {KP : List PanicEntry → List Own → Prop} (hg : o.guard = none) (hd : o.dst = some x0) (hN : Nat.blt x0 N.n = true) (ho : o.op = .call { callee:=.value (.func f),args:=args,argTypes:=ts }) (ha : OpdAll T0 fr args.toList As) (c : AF P T0 f As [m] K KP) (hM : Pick m M M')
  (hp : ∀ ch M1,KP ch M1 → Q (.panic ch) fr (M1 ++ M')) (h : ∀ A M1,K A M1 → AL P T0 N false ops Q rest ((x0,A) :: fr) (M1 ++ M')) : AL P T0 N false ops Q (o :: rest) fr M:=by
 refine zr2 (zda hM.perm) ?_
 refine zbg hg (zhz ho ha c rfl) hd hN (fun ch M2 h=>by obtain ⟨M1,rfl,k⟩:=h; exact hp ch M1 k) ?_
 rintro A _ ⟨M1,rfl,k⟩
 exact h A M1 k
theorem zcm {fn : Func} {K : AV → List Own → Prop} {KP : List PanicEntry → List Own → Prop} {c : List PanicEntry} (h : KP c M) : qbq P T0 fn K KP (.panic c) fr M:=h
def z0p (b : Nat) (es : List MapEntry) (clock : Nat) : Own where
 foot:=some b
 holds:=fun _ w=>w.heap[b]? = some (.map es.toArray clock)
 mono:=fun _ h=>h
 loc:=fun h k=>(h _ rfl).trans k
theorem j8 {t : TypeId} (hg : o.guard = none) (hd : o.dst = some x0) (hN : Nat.blt x0 N.n = true) (ho : o.op = .makeMap t none) (h : ∀ b,AL P T0 N false ops Q rest ((x0,vA (.map (some b))) :: fr) (z0p b [] 0 :: M)) : AL P T0 N false ops Q (o :: rest) fr M:=by
 refine zbg (K:=fun A M' => ∃ b,A = vA (.map (some b)) ∧ M' = z0p b [] 0 :: M) (KP:=fun _ _=>False) hg (fun w0 G F a w next Qc hs hf hk hp => ?_) hd hN (fun _ _ h=>h.elim) ?_
 ·have hrun : (execOp a.eval o).run P w = .ok (.value (.map (some w.heap.size))) (w.alloc (.map #[] 0)):=by
   simp only [execOp,ho,Option.map_none,Sem.run_bind,show (Instr.makeMap t none).run P w = .ok (.map (some w.heap.size)) (w.alloc (.map #[] 0)) from rfl,Result.andThen_ok,Sem.run_pure]
  unfold Oper.wp; rw [hrun]
  exact hk _ (z0p w.heap.size [] 0 :: M) G _ _ ⟨_,rfl,rfl⟩ (Gh.le.refl _) (hs.alloc _ (z0p w.heap.size [] 0) rfl (heap_alloc_new w _)) (Rep.va _ _)
 ·rintro _ _ ⟨b,rfl,rfl⟩; exact h b
theorem kz {t kt et : TypeId} {d : TypeDesc} {x y z : Operand} {b clock : Nat} {es : List MapEntry} {kv vv : Value} {f : Own → List Own} (hg : o.guard = none) (hd : o.dst = none) (ho : o.op = .insert t x y z) (hu : P.underlying t = some (.map kt et)) (hk0 : P.underlying kt = some d) (hk : IsKey d kv) (hx : Opd T0 fr x (vA (.map (some b)))) (hy : Opd T0 fr y (vA kv)) (hz : Opd T0 fr z (vA vv))
  (hn : Instr.findNow d kv es 0 = some none) (hU : UpdF (z0p b es clock) M f) (h : AL P T0 N false ops Q rest fr (f (z0p b (es ++ [(⟨kv,vv,clock⟩ : MapEntry)]) (clock + 1)))) : AL P T0 N false ops Q (o :: rest) fr M:=by
 obtain ⟨i,k1,k2⟩:=hU.spec
 refine zt4 (K:=fun _ M'=>M' = M.set i (z0p b (es ++ [(⟨kv,vv,clock⟩ : MapEntry)]) (clock + 1))) (KP:=fun _ _=>False) hg (fun w0 G F a w next Qc hs hf hkk hp => ?_) hd (fun _ _ h=>h.elim) ?_
 ·have e1:=(hx.use (o:=o) (ops:=ops) (by simp [ho,Op.operands]) hs.tab hf).eq
  have e2:=(hy.use (o:=o) (ops:=ops) (by simp [ho,Op.operands]) hs.tab hf).eq
  have e3:=(hz.use (o:=o) (ops:=ops) (by simp [ho,Op.operands]) hs.tab hf).eq
  obtain ⟨hM1,hM2⟩:=xd (F:=F) (m':=z0p b (es ++ [(⟨kv,vv,clock⟩ : MapEntry)]) (clock + 1)) k1
  have hh : w.heap[b]? = some (.map es.toArray clock):=hs.own _ (List.mem_of_getElem? hM1)
  have hrun : (execOp a.eval o).run P w = .ok .skip { w with heap:=w.heap.setIfInBounds b (.map (es ++ [(⟨kv,vv,clock⟩ : MapEntry)]).toArray (clock + 1)) }:=by
   simp only [execOp,ho,e1,e2,e3,Instr.mapUpdate,Sem.run_bind,run_underlying hu,Result.andThen_ok,MapKept.run_getObj_map hh,MapKept.run_checkKey hk0 hk,MapKept.run_findKey (l:=es.toArray.toList) hk0 (by simpa using hn),MapKept.run_setObj_map _ hh,Sem.run_pure]
   simp
  unfold Oper.wp; rw [hrun]
  refine hkk z1_ _ G undef _ rfl (Gh.le.refl _) ?_ (Rep.any _ _)
  rw [← hM2]
  have hset:=heap_set (o':=.map (es ++ [(⟨kv,vv,clock⟩ : MapEntry)]).toArray (clock + 1)) hh
  refine hs.grown hM1 ⟨rfl,rfl,rfl,by simp,fun k _ hk=>hset.2 k (fun e=>hk (by rw [e]; rfl))⟩ hset.1 (fun b' hb'=>⟨.inl hb', ?_⟩)
  have : b = b':=Option.some.inj hb'
  subst this
  simpa using (Array.getElem?_eq_some_iff.1 hh).1
 ·rintro _ _ rfl
  rw [k2] at h; exact h
theorem zmt {t kt et : TypeId} {d : TypeDesc} {x y : Operand} {b clock i : Nat} {es : List MapEntry} {kv vv : Value} (ho : o.op = .lookup t x y false) (hu : P.underlying t = some (.map kt et)) (hk0 : P.underlying kt = some d) (hk : IsKey d kv) (hx : Opd T0 fr x (vA (.map (some b)))) (hy : Opd T0 fr y (vA kv)) (hM : z0p b es clock ∈ M) (hn : Instr.findNow d kv es 0 = some (some (i,vv))) : AY P T0 ops o fr M (vA vv):=xl fun w0 G F a w hs hf=>by
 have e1:=(hx.use (o:=o) (ops:=ops) (by simp [ho,Op.operands]) hs.tab hf).eq
 have e2:=(hy.use (o:=o) (ops:=ops) (by simp [ho,Op.operands]) hs.tab hf).eq
 have hh : w.heap[b]? = some (.map es.toArray clock):=hs.own _ (List.mem_append_left F hM)
 refine ⟨vv, ?_,Rep.va _ _⟩
 simp only [execOp,ho,e1,e2,Instr.lookup,Sem.run_bind,run_underlying hu,Result.andThen_ok,MapKept.run_getObj_map hh,Sem.run_pure,MapKept.run_checkKey hk0 hk,MapKept.run_findKey (l:=es.toArray.toList) hk0 (by simpa using hn)]
 simp
end
end
section
open Go Go.RowKit
section
variable {P : Program} {T0 : Gh} {N : Fz} {Q : kw} {fr : Fr} {M : List Own} {ops : Array Oper}
def zv9 (d L : Nat) (md : Region.Mode) (ops : Array Oper) : Bool:=(List.range ops.size).all fun i=>Nat.beq i d || Nat.beq i L || (List.range ops.size).any fun k=>decide (i < k) && !Nat.beq k d && (ops[k]?).any fun o=>o.after.any fun e=>Region.binds md e && e.on == i
theorem zsu {d L : Nat} {md : Region.Mode} (h : zv9 d L md ops = true) {i : Nat} (hi : i < ops.size) (hiL : i ≠ L) (hid : i ≠ d) : ∃ k o,i < k ∧ k ≠ d ∧ ops[k]? = some o ∧ ∃ e ∈ o.after,Region.binds md e = true ∧ e.on = i:=by
 have:=List.all_eq_true.1 h i (List.mem_range.2 hi)
 rw [zag hid,zag hiL,Bool.false_or,Bool.false_or] at this
 obtain ⟨k,_,h2⟩:=List.any_eq_true.1 this
 simp only [Bool.and_eq_true,decide_eq_true_eq,Bool.not_eq_true'] at h2
 obtain ⟨⟨h3,h3'⟩,h4⟩:=h2
 cases ho : ops[k]? with
 |none=>rw [ho] at h4; cases h4
 |some o =>
  rw [ho] at h4
  simp only [Option.any_some,Array.any_eq_true,Bool.and_eq_true,beq_iff_eq] at h4
  obtain ⟨n,hn,h5,h6⟩:=h4
  exact ⟨k,o,h3,fun e=>by (subst e; simp at h3'),ho,_,Array.getElem_mem hn,h5,h6⟩
theorem zv8 {d L : Nat} {md : Region.Mode} {listed : Array Bool} (hS : Shut md ops listed) (hlast : zv9 d L md ops = true) (hL : L ∈ Region.ready md ops listed) : ∀ n i,ops.size - i = n → i < ops.size → i ≠ L → i ≠ d → listed.getD i false = true:=by
 intro n
 induction n using Nat.strongRecOn with
 |_ n ih =>
  intro i hn hi hiL hid
  obtain ⟨k,o,h1,hkd,h2,e,h3,h4,h5⟩:=zsu hlast hi hiL hid
  have hk : k < ops.size:=(Array.getElem?_eq_some_iff.1 h2).1
  by_cases hkL : k = L
  ·obtain ⟨_,o',ho',hall⟩:=mem_ready.1 hL
   rw [← hkL,h2] at ho'; obtain rfl:=Option.some.inj ho'
   rw [← h5]; exact hall e h3 h4
  ·have:=ih (ops.size - k) (by omega) k rfl (by omega) hkL hkd
   rw [← h5]; exact hS k o h2 this e h3 h4
def zf7 (P : Program) (T0 : Gh) (N : Fz) (md : Region.Mode) (ops : Array Oper) (L d : Nat) (QB QC : Fr → Prop) (M : List Own) : Nat → Array Bool → Fr → Prop
 |0,_,_=>False
 |fuel + 1,listed,fr=>Region.ready md ops listed ≠ [] ∧ ∀ i ∈ Region.ready md ops listed,∀ o,ops[i]? = some o →
   (i = L ∧ fuel = 0 ∧ Region.ready md ops (listed.setIfInBounds i true) = [] ∧ QB fr) ∨
   (i = L ∧ fuel = 1 ∧ d ∈ Region.ready md ops (listed.setIfInBounds i true) ∧ (∀ k ∈ Region.ready md ops (listed.setIfInBounds i true),k = d) ∧ Region.ready md ops ((listed.setIfInBounds i true).setIfInBounds d true) = [] ∧ QC fr) ∨
   (i ≠ L ∧ (∀ x,o.dst = some x → x < N.n) ∧ ∃ A,QY P T0 ops o fr M A ∧ zf7 P T0 N md ops L d QB QC M fuel (listed.setIfInBounds i true) (fr.put o.dst A))
theorem zdm {md : Region.Mode} {L d : Nat} {oL od : Oper} {QB QC : Fr → Prop} {w0 : World} {F : List Own} {G0 : Gh} {Qc : Exit → Act → World → Prop} (hoL : ops[L]? = some oL) (hod : ops[d]? = some od)
  (hQ : ∀ fr' G a w,Gh.le G0 G → QB fr' → Con T0 N w0 G F fr' M a w → wpList P ops Qc [oL] a w)
  (hC : ∀ fr' G a w,Gh.le G0 G → QC fr' → Con T0 N w0 G F fr' M a w → wpList P ops Qc [oL,od] a w) : ∀ (fuel : Nat) (listed : Array Bool) (fr : Fr) (G : Gh) (a : Act) (w : World),Gh.le G0 G → Con T0 N w0 G F fr M a w →
  zf7 P T0 N md ops L d QB QC M fuel listed fr → wpAny P md ops Qc fuel listed a w
 |0,_,_,_,_,_,_,_,h=>h.elim
 |fuel + 1,listed,fr,G,a,w,hl,hc,h=>by
  refine ⟨fun h0=>absurd h0 h.1,fun i hi => ?_⟩
  unfold wpOp
  cases ho : ops[i]? with
  |none=>have:=(mem_ready.1 hi).2; rw [ho] at this; obtain ⟨_,e,_⟩:=this; cases e
  |some o =>
   rcases h.2 i hi o ho with ⟨rfl,rfl,hnone,hq⟩ | ⟨rfl,rfl,hdr,hall,hnone,hq⟩ | ⟨_,hd,A,hy,hr⟩
   ·rw [ho] at hoL; obtain rfl:=Option.some.inj hoL
    have h3:=hQ fr G a w hl hq hc
    simp only
    unfold wpList at h3
    split at h3
    ·rename_i hw
     rw [if_pos hw]
     exact h3.imp (fun h=>zae (fun a w h=>⟨hnone,h⟩) h) (fun h=>h)
    ·rename_i hw
     rw [if_neg hw]
     exact ⟨hnone,h3⟩
   ·rw [ho] at hoL; obtain rfl:=Option.some.inj hoL
    have h3:=hC fr G a w hl hq hc
    have hcont : ∀ a w,wpList P ops Qc [od] a w → wpAny P md ops Qc 1 (listed.setIfInBounds i true) a w:=fun a w h4=>by
     refine ⟨fun h0=>(by rw [h0] at hdr; cases hdr),fun k hk => ?_⟩
     obtain rfl:=hall k hk
     unfold wpOp
     rw [hod]
     unfold wpList at h4
     simp only
     split at h4
     ·rename_i hw
      rw [if_pos hw]
      exact h4.imp (fun h=>zae (fun a w h=>⟨hnone,h⟩) h) (fun h=>h)
     ·rename_i hw
      rw [if_neg hw]
      exact ⟨hnone,h4⟩
    unfold wpList at h3
    simp only
    split at h3
    ·rename_i hw
     rw [if_pos hw]
     exact h3.imp (fun h=>zae (fun a w h=>hcont a w h) h) (fun h=>h)
    ·rename_i hw
     rw [if_neg hw]
     exact hcont _ _ h3
   ·obtain ⟨h1,h2⟩:=hy w0 G F a w hc.st (fun s A _ e=>hc.fr s A trivial e)
    simp only
    by_cases hw : Region.wanted o (yielded ops a.tmps) = true
    ·rw [if_pos hw]
     refine .inl (h1 hw _ _ fun G' u w' hl' hs hu => ?_)
     exact zdm hoL hod hQ hC fuel _ _ G' _ w' (hl.trans hl') (hc.put hl' hs hd hu) hr
    ·rw [if_neg hw]
     exact zdm hoL hod hQ hC fuel _ _ G _ w hl (hc.put (Gh.le.refl _) hc.st hd (h2 (by simpa using hw))) hr
theorem zf6 {md : Region.Mode} {L d : Nat} {QB QC : Fr → Prop} (hQ : ∀ fr fr' : Fr,(∀ s,fr'.get s = fr.get s) → QB fr → QB fr') (hQC : ∀ fr fr' : Fr,(∀ s,fr'.get s = fr.get s) → QC fr → QC fr') : ∀ (fuel : Nat) (listed : Array Bool) (fr fr' : Fr),(∀ s,fr'.get s = fr.get s) → zf7 P T0 N md ops L d QB QC M fuel listed fr → zf7 P T0 N md ops L d QB QC M fuel listed fr'
 |0,_,_,_,_,h=>h
 |fuel + 1,listed,fr,fr',he,h=>by
  refine ⟨h.1,fun i hi o ho => ?_⟩
  rcases h.2 i hi o ho with ⟨h1,h2,h3,h4⟩ | ⟨h1,h2,h3,h4,h5,h6⟩ | ⟨h1,hd,A,hy,hr⟩
  ·exact .inl ⟨h1,h2,h3,hQ fr fr' he h4⟩
  ·exact .inr (.inl ⟨h1,h2,h3,h4,h5,hQC fr fr' he h6⟩)
  ·refine .inr (.inr ⟨h1,hd,A,hy.other (fun s _=>he s),zf6 hQ hQC fuel _ _ _ (fun s => ?_) hr⟩)
   cases hdst : o.dst with
   |none=>exact he s
   |some d =>
    by_cases e : s = d
    ·subst e; simp only [Fr.put,qo]
    ·simp only [Fr.put,qh e]; exact he s
theorem zcu {md : Region.Mode} {listed : Array Bool} {i : Nat} (h : i ∈ Region.ready md ops (listed.setIfInBounds i true)) : False:=by
 have h1:=(mem_ready.1 h).1
 rcases Nat.lt_or_ge i listed.size with h' | h'
 ·simp [h'] at h1
 ·simp [h'] at h1
theorem jv {md : Region.Mode} {listed : Array Bool} {i : Nat} (h : i ∈ Region.ready md ops listed) (h1 : listed.getD i false = true) : False:=by
 have h0:=(mem_ready.1 h).1
 rcases Nat.lt_or_ge i listed.size with h' | h'
 ·simp [h'] at h0 h1; rw [h0] at h1; cases h1
 ·simp [Array.getElem?_eq_none h'] at h1
theorem zlb {md : Region.Mode} {d L : Nat} {QB QC : Fr → Prop} (hQ : ∀ fr fr' : Fr,(∀ s,fr'.get s = fr.get s) → QB fr → QB fr') (hQC : ∀ fr fr' : Fr,(∀ s,fr'.get s = fr.get s) → QC fr → QC fr') (hlast : zv9 d L md ops = true) {i : Nat} {oi : Oper} {A : AV} (hi : ops[i]? = some oi) (hiL : i ≠ L) (hdi : ∀ x,oi.dst = some x → x < N.n)
  (hBC : i = d → ∀ fr,QB (fr.put oi.dst A) → QC fr) :
  ∀ (fuel : Nat) (listed : Array Bool) (fr : Fr),
    (∀ j oj,ops[j]? = some oj → j ≠ i → listed.getD j true = false → (∀ e ∈ oj.after,Region.binds md e = true → e.on ≠ i) → oi.apart ops oj = true) →
    Shut md ops listed → i ∈ Region.ready md ops listed → QY P T0 ops oi fr M A →
    zf7 P T0 N md ops L d QB QC M fuel (listed.setIfInBounds i true) (fr.put oi.dst A) → zf7 P T0 N md ops L d QB QC M (fuel + 1) listed fr:=by
 intro fuel
 induction fuel with
 |zero=>intro listed fr _ _ hr hy H; exact H.elim
 |succ fuel ih =>
  intro listed fr hfree hS hr hy H
  refine ⟨fun h=>(by rw [h] at hr; cases hr),fun j hj o ho => ?_⟩
  by_cases hji : j = i
  ·subst hji; rw [hi] at ho; obtain rfl:=Option.some.inj ho; exact .inr (.inr ⟨hiL,hdi,A,hy,H⟩)
  ·obtain ⟨hjun,oj,hoj,hall⟩:=mem_ready.1 hj
   rw [ho] at hoj; obtain rfl:=Option.some.inj hoj
   have hnot : ∀ e ∈ o.after,Region.binds md e = true → e.on ≠ i:=fun e he hb heq=>by
    have h1:=hall e he hb
    rw [heq] at h1
    exact jv hr h1
   by_cases hjL : j = L
   ·subst hjL
    by_cases hid : i = d
    ·rcases H.2 _ (ready_mono hj hji) o ho with ⟨_,h2,h3,h4⟩ | ⟨_,h2,h3,h4,h5,h6⟩ | ⟨h1,_⟩
     ·subst hid
      refine .inr (.inl ⟨rfl,by omega,ready_mono hr (Ne.symm hji),fun k hk => ?_, ?_,hBC rfl fr h4⟩)
      ·by_cases hki : k = i
       ·exact hki
       ·have:=ready_mono hk hki
        rw [Array.setIfInBounds_comm _ _ hji,h3] at this; cases this
      ·rw [Array.setIfInBounds_comm _ _ hji]; exact h3
     ·subst hid
      have:=zcu (md:=md) (ops:=ops) (listed:=listed.setIfInBounds j true) (i:=i) (by rw [Array.setIfInBounds_comm _ _ hji]; exact h3)
      exact this.elim
     ·exact absurd rfl h1
    ·exact (jv hr (zv8 hS hlast hj _ i rfl (Array.getElem?_eq_some_iff.1 hi).1 hiL hid)).elim
   ·rcases H.2 j (ready_mono hj hji) o ho with ⟨h1,_⟩ | ⟨h1,_⟩ | ⟨_,hd,A',hy',hr'⟩
    ·exact absurd h1 hjL
    ·exact absurd h1 hjL
    obtain ⟨p1,p2,p3⟩:=Oper.apart_spec (hfree j o ho hji hjun hnot)
    have hfree' : ∀ k ok,ops[k]? = some ok → k ≠ i → (listed.setIfInBounds j true).getD k true = false →
      (∀ e ∈ ok.after,Region.binds md e = true → e.on ≠ i) → oi.apart ops ok = true:=fun k ok hk hki hun hno=>by
     refine hfree k ok hk hki ?_ hno
     by_cases hjk : j = k
     ·subst hjk; exact hjun
     ·rw [getD_set_ne true hjk] at hun; exact hun
    refine .inr (.inr ⟨hjL,hd,A',hy'.other (fun s hs=>(x8 fun x hx e=>p1 x hx (e ▸ hs)).symm), ?_⟩)
    refine ih (listed.setIfInBounds j true) _ hfree' (hS.put hj) (ready_mono hr (Ne.symm hji)) (hy.other fun s hs=>x8 fun x hx e=>p3 x hx (e ▸ hs)) ?_
    rw [Array.setIfInBounds_comm _ _ hji]
    exact zf6 hQ hQC fuel _ _ _ (fun s=>v4 (fun x hx e=>p2 x (by rw [← e]) hx |>.elim) s) hr'
def zd3 (md : Region.Mode) (ops : Array Oper) (L : Nat) : Nat → Nat → Array Bool → Bool
 |0,_,listed=>(Region.ready md ops listed).contains L && (Region.ready md ops (listed.setIfInBounds L true)).isEmpty
 |fuel + 1,k,listed=>bif Nat.beq k L then zd3 md ops L fuel (k + 1) listed else (Region.ready md ops listed).contains k && Region.free md ops listed k && zd3 md ops L fuel (k + 1) (listed.setIfInBounds k true)
def zsb : Nat → List Oper → List Oper
 |_,[]=>[]
 |0,_ :: l=>l
 |n + 1,o :: l=>o :: zsb n l
def zdw (L k : Nat) (l : List Oper) : List Oper:=if k ≤ L then zsb (L - k) l else l
theorem zdo {md : Region.Mode} {d L : Nat} {QB QC : Fr → Prop} (hQ : ∀ fr fr' : Fr,(∀ s,fr'.get s = fr.get s) → QB fr → QB fr') (hQC : ∀ fr fr' : Fr,(∀ s,fr'.get s = fr.get s) → QC fr → QC fr') (hlast : zv9 d L md ops = true) (hBC : ∀ od,ops[d]? = some od → ∀ fr A,QB (fr.put od.dst A) → QC fr) : ∀ (l : List Oper) (k : Nat) (listed : Array Bool) (fr : Fr),(∀ j,l[j]? = ops[k + j]?) →
  zd3 md ops L l.length k listed = true → Shut md ops listed → AQ P T0 N ops QB M (zdw L k l) fr → zf7 P T0 N md ops L d QB QC M ((zdw L k l).length + 1) listed fr
 |[],k,listed,fr,_,hB,hS,h=>by
  simp only [List.length_nil,zd3,Bool.and_eq_true] at hB
  obtain ⟨hr,he⟩:=hB
  have hr' : L ∈ Region.ready md ops listed:=by simpa using hr
  have he' : Region.ready md ops (listed.setIfInBounds L true) = []:=by simpa using he
  have e : zdw L k [] = []:=by unfold zdw; split <;> (try rfl); cases L - k <;> rfl
  rw [e] at h ⊢
  refine ⟨fun e=>(by rw [e] at hr'; cases hr'),fun i hi oi hoi => ?_⟩
  by_cases hik : i = L
  ·subst hik
   exact .inl ⟨rfl,rfl,he',h⟩
  ·have:=ready_mono hi hik
   rw [he'] at this; cases this
 |o :: l,k,listed,fr,hl,hB,hS,h=>by
  have h0 : ops[k]? = some o:=by simpa using (hl 0).symm
  have hl' : ∀ j,l[j]? = ops[k + 1 + j]?:=fun j=>by have:=hl (j + 1); simpa [Nat.add_assoc,Nat.add_comm 1 j] using this
  simp only [List.length_cons,zd3] at hB
  by_cases hkL : k = L
  ·subst hkL
   have e : zdw k k (o :: l) = l:=by unfold zdw; rw [if_pos (Nat.le_refl _),Nat.sub_self]; rfl
   have e2 : zdw k (k + 1) l = l:=by unfold zdw; rw [if_neg (by omega)]
   rw [e] at h ⊢
   simp only [Nat.beq_refl,cond_true] at hB
   have:=zdo hQ hQC hlast hBC l (k + 1) listed fr hl' hB hS (by rw [e2]; exact h)
   rw [e2] at this; exact this
  ·have e : zdw L k (o :: l) = o :: zdw L (k + 1) l:=by
    unfold zdw
    by_cases hle : k ≤ L
    ·rw [if_pos hle,if_pos (by omega)]
     obtain ⟨m,hm⟩ : ∃ m,L - k = m + 1:=⟨L - k - 1,by omega⟩
     rw [hm,show L - (k + 1) = m by omega]; rfl
    ·rw [if_neg hle,if_neg (by omega)]
   rw [e] at h ⊢
   rw [zag hkL] at hB
   simp only [cond_false,Bool.and_eq_true] at hB
   obtain ⟨⟨hr,hf⟩,hB'⟩:=hB
   have hr' : k ∈ Region.ready md ops listed:=by simpa using hr
   obtain ⟨hd,A,hy,hr2⟩:=h
   refine zlb hQ hQC hlast h0 hkL hd (fun e fr hq=>by subst e; exact hBC o h0 fr A hq) _ listed fr (Region.free_spec h0 hf) hS hr' hy ?_
   exact zdo hQ hQC hlast hBC l (k + 1) _ _ hl' hB' (hS.put hr') hr2
inductive DelF (sd : Nat) (base : Fr) : Fr → Fr → Prop
 |base : DelF sd base base base
 |drop {A : AV} {fr frD : Fr} (h : DelF sd base fr frD) : DelF sd base ((sd,A) :: fr) frD
 |keep {s : Nat} {A : AV} {fr frD : Fr} (e : Nat.beq s sd = false) (h : DelF sd base fr frD) : DelF sd base ((s,A) :: fr) ((s,A) :: frD)
theorem DelF.spec {sd : Nat} {base fr frD : Fr} (h : DelF sd base fr frD) (hb : base.get sd = none) : ∀ s A,frD.get s = some A → s ≠ sd ∧ fr.get s = some A:=by
 induction h with
 |base=>intro s A e; exact ⟨fun h=>by (subst h; rw [hb] at e; cases e),e⟩
 |drop h ih =>
  intro s A e
  obtain ⟨h1,h2⟩:=ih s A e
  exact ⟨h1,by rw [qh h1]; exact h2⟩
 |keep e0 h ih =>
  rename_i s0 A0 fr0 frD0
  intro s A e
  by_cases hs : s = s0
  ·subst hs
   rw [qo] at e ⊢
   exact ⟨fun h=>by (subst h; simp at e0),e⟩
  ·rw [qh hs] at e ⊢; exact ih s A e
theorem zml {sd : Nat} {base fr frD : Fr} (h : DelF sd base fr frD:=by
 first
 |(repeat (first | exact DelF.base | apply DelF.drop | apply DelF.keep rfl)
   done)
 |fail) : DelF sd base fr frD:=h
def z6_ (P : Program) (T0 : Gh) (N : Fz) (ops : Array Oper) (oL od : Oper) (sd : Nat) (base : Fr) (J : kw) : kw:=fun e fr' M'=>e = .normal ∧ AL P T0 N false ops J [oL] fr' M' ∧ ∃ frD,DelF sd base fr' frD ∧ AL P T0 N false ops J [oL,od] frD M'
theorem zxt {oL od : Oper} {sd : Nat} {base fr' frD : Fr} {J : kw} {M' : List Own} (h1 : AL P T0 N false ops J [oL] fr' M') (h3 : AL P T0 N false ops J [oL,od] frD M') (h2 : DelF sd base fr' frD:=by first | exact zml | fail) : z6_ P T0 N ops oL od sd base J .normal fr' M':=⟨rfl,h1,frD,h2,h3⟩
theorem uj {id : Nat} {l : List Oper} (d L : Nat) {oL od : Oper} {sd : Nat} {d1 : Fr} {M1 : List Own} (hN : zcz .any l.toArray = false) (hD : zv9 d L .any l.toArray = true) (hB : zd3 .any l.toArray L l.length 0 (List.replicate l.length false).toArray = true) (hm : P.follows .mixedOrders = true)
  (hod : l[d]? = some od) (hl : l[L]? = some oL) (hn : (zsb L l).length + 1 = l.length) (hsd : od.dst = some sd) (hb : fr.get sd = none)
  (h : AL P T0 N true l.toArray (z6_ P T0 N l.toArray oL od sd fr (zia (d1 ++ fr) M1)) (zsb L l) fr M)
  (k : Q .normal (d1 ++ fr) M1) : AW P T0 N (.region id l.toArray true) Q fr M:=fun w0 G F a w hc=>by
 have h' : AQ2 P T0 N l.toArray (fun fr'=>z6_ P T0 N l.toArray oL od sd fr (zia (d1 ++ fr) M1) .normal fr' M) (fun o fr'=>zcz .any l.toArray = true ∧ AE P T0 N l.toArray (z6_ P T0 N l.toArray oL od sd fr (zia (d1 ++ fr) M1)) [o] fr' M) M (zsb L l) fr:=by simpa [AL] using h
 rcases yf _ _ h' with h1 | h1
 case inr=>obtain ⟨_,_,_,hlast,_⟩:=uw _ _ h1; rw [hN] at hlast; cases hlast
 have hoL : l.toArray[L]? = some oL:=by simpa using hl
 have e0 : zdw L 0 l = zsb L l:=by unfold zdw; rw [if_pos (Nat.zero_le _),Nat.sub_zero]
 have h2:=zbe _ _ h1
 have hod' : l.toArray[d]? = some od:=by simpa using hod
 have h3:=zdo (md:=.any) (d:=d) (L:=L) (QB:=fun fr' => ∃ fr1,(∀ s,Fr.get fr' s = Fr.get fr1 s) ∧ z6_ P T0 N l.toArray oL od sd fr (zia (d1 ++ fr) M1) .normal fr1 M) (QC:=fun fr' => ∃ fr1,(∀ s,s ≠ sd → Fr.get fr' s = Fr.get fr1 s) ∧ z6_ P T0 N l.toArray oL od sd fr (zia (d1 ++ fr) M1) .normal fr1 M)
  (fun fr fr' he h=>by obtain ⟨fr1,h1,h2⟩:=h; exact ⟨fr1,fun s=>(he s).trans (h1 s),h2⟩) (fun fr fr' he h=>by obtain ⟨fr1,h1,h2⟩:=h; exact ⟨fr1,fun s hs=>(he s).trans (h1 s hs),h2⟩) hD
  (fun o ho fr2 A hq=>by
   rw [hod'] at ho; obtain rfl:=Option.some.inj ho
   obtain ⟨fr1,h1,h2⟩:=hq
   exact ⟨fr1,fun s hs=>by rw [← h1 s,hsd]; exact (qh hs).symm,h2⟩) l 0 (List.replicate l.length false).toArray fr (by simp) hB (by simpa using zaa (md:=.any) (ops:=l.toArray) l.length) (by rw [e0]; exact h2)
 rw [e0,hn] at h3
 have hfin : ∀ a w G',Gh.le G G' → cQ T0 N w0 G' F (zia (d1 ++ fr) M1) .normal a w → cQ T0 N w0 G F Q .normal a w:=fun a w G' hl q=>by
  obtain ⟨fr',M',G2,⟨_,hw,hs⟩,hl2,hc'⟩:=q
  exact ⟨d1 ++ fr,M1,G2,k,hl.trans hl2,hc'.st.sub (hs.append (List.Sublist.refl F)),hw G2 a.tmps hc'.fr,hc'.size,hc'.defers⟩
 have hmono : ∀ G',Gh.le G G' → ∀ e a w,cQ T0 N w0 G' F (zia (d1 ++ fr) M1) e a w → cQ T0 N w0 G F Q e a w:=fun G' hl e a w q=>by
  obtain ⟨fr',M',G2,⟨he,hw,hs⟩,hl2,hc'⟩:=q
  subst he
  exact hfin a w G' hl ⟨fr',M',G2,⟨rfl,hw,hs⟩,hl2,hc'⟩
 refine wp_region_any hm ?_
 have es : Array.replicate l.toArray.size false = (List.replicate l.length false).toArray:=by simp
 rw [es]
 refine zdm (G0:=G) (F:=F) (w0:=w0) hoL hod' ?_ ?_ _ _ fr G _ _ (Gh.le.refl _) ⟨hc.st.drew,hc.fr,hc.size,hc.defers⟩ (by simpa using h3)
 ·rintro fr' G' a' w' hl' ⟨fr1,he,_,hq,_⟩ hc'
  simp only [AL,Bool.false_eq_true,if_false] at hq
  exact xb (hmono G' hl') _ _ _ (hq w0 G' F a' w' ⟨hc'.st,fun s A hs e=>hc'.fr s A hs (by rw [he s]; exact e),hc'.size,hc'.defers⟩)
 ·rintro fr' G' a' w' hl' ⟨fr1,he,_,_,frD,hdel,hq⟩ hc'
  simp only [AL,Bool.false_eq_true,if_false] at hq
  refine xb (hmono G' hl') _ _ _ (hq w0 G' F a' w' ⟨hc'.st,fun s A hs e => ?_,hc'.size,hc'.defers⟩)
  obtain ⟨e1,e2⟩:=hdel.spec hb s A e
  exact hc'.fr s A hs (by rw [he s e1]; exact e2)
def nop : Oper:={ dst:=none,op:=.move (.const (.bool false)),type:=0,pos := "",after := #[],guard:=none }
def ud : Array Oper := #[nop,nop]
theorem zbt : zcz .any ud = false:=by decide +kernel
theorem QY.plain {ops' : Array Oper} {o : Oper} {A : AV} (hg : o.guard = none) (h : QY P T0 ops' o fr M A) : QY P T0 ops o fr M A:=fun w0 G F a w hs hf=>by
 have hr : ∀ s,reads ops' o s → reads ops o s:=fun s hs=>by
  simp only [reads,Oper.looksAt,hg] at hs ⊢; exact hs
 obtain ⟨h1,h2⟩:=h w0 G F a w hs (fun s A hs' e=>hf s A (hr s hs') e)
 have hw : ∀ y,Region.wanted o y = true:=fun y=>by simp [Region.wanted,hg]
 exact ⟨fun _=>h1 (hw _),fun e=>by rw [hw] at e; cases e⟩
theorem zfz {ops' : Array Oper} {QA : Fr → Prop} : ∀ (l : List Oper) (fr : Fr),(l.all fun o=>o.guard.isNone) = true → AQ P T0 N ops' QA M l fr → AQ P T0 N ops QA M l fr
 |[],_,_,h=>h
 |o :: l,fr,hg,h=>by
  simp only [List.all_cons,Bool.and_eq_true] at hg
  obtain ⟨hd,A,hy,hr⟩:=h
  exact ⟨hd,A,hy.plain (by simpa using hg.1),zfz l _ hg.2 hr⟩
end
end
section
open Go Go.RowKit
section
variable {P : Program} {T0 : Gh} {N : Fz} {Q : kw} {fr : Fr} {M : List Own} {ops : Array Oper}
def zk5 (md : Region.Mode) (ops : Array Oper) : List Nat → Array Bool → Bool
 |[],listed=>(Region.ready md ops listed).isEmpty
 |d :: ds,listed=>(Region.ready md ops listed).contains d && ((Region.ready md ops listed).all fun k=>Nat.beq k d) && zk5 md ops ds (listed.setIfInBounds d true)
theorem v8 {md : Region.Mode} {Qc : Exit → Act → World → Prop} : ∀ (ds : List Nat) (os : List Oper) (listed : Array Bool) (a : Act) (w : World),ds.map (fun d=>ops[d]?) = os.map some → zk5 md ops ds listed = true → wpList P ops Qc os a w → wpAny P md ops Qc ds.length listed a w
 |[],[],listed,a,w,_,hB,h=>⟨by simpa [zk5] using hB,h⟩
 |[],_ :: _,_,_,_,he,_,_=>by simp at he
 |_ :: _,[],_,_,_,he,_,_=>by simp at he
 |d :: ds,o :: os,listed,a,w,he,hB,h=>by
  simp only [List.map_cons,List.cons.injEq] at he
  simp only [zk5,Bool.and_eq_true] at hB
  obtain ⟨⟨b1,b2⟩,b3⟩:=hB
  have r1 : d ∈ Region.ready md ops listed:=by simpa using b1
  refine ⟨fun h0=>(by rw [h0] at r1; cases r1),fun i hi => ?_⟩
  obtain rfl:=Nat.eq_of_beq_eq_true (List.all_eq_true.1 b2 i hi)
  unfold wpOp
  rw [he.1]
  unfold wpList at h
  simp only
  split at h
  ·rename_i hw
   rw [if_pos hw]
   exact h.imp (fun h=>zae (fun a w h=>v8 ds os _ a w he.2 b3 h) h) (fun h=>h)
  ·rename_i hw
   rw [if_neg hw]
   exact v8 ds os _ _ _ he.2 b3 h
def zf5 (P : Program) (T0 : Gh) (N : Fz) (md : Region.Mode) (ops : Array Oper) (L : Nat) (ds : List Nat) (QC : Fr → Prop) (M : List Own) : Nat → Array Bool → Fr → Prop
 |0,_,_=>False
 |fuel + 1,listed,fr=>Region.ready md ops listed ≠ [] ∧ ∀ i ∈ Region.ready md ops listed,∀ o,ops[i]? = some o →
   (i = L ∧ fuel = ds.length ∧ zk5 md ops ds (listed.setIfInBounds i true) = true ∧ QC fr) ∨
   (i ≠ L ∧ (∀ x,o.dst = some x → x < N.n) ∧ ∃ A,QY P T0 ops o fr M A ∧ zf5 P T0 N md ops L ds QC M fuel (listed.setIfInBounds i true) (fr.put o.dst A))
theorem zdl {md : Region.Mode} {L : Nat} {ds : List Nat} {oL : Oper} {os : List Oper} {QC : Fr → Prop} {w0 : World} {F : List Own} {G0 : Gh} {Qc : Exit → Act → World → Prop} (hoL : ops[L]? = some oL) (hos : ds.map (fun d=>ops[d]?) = os.map some)
  (hC : ∀ fr' G a w,Gh.le G0 G → QC fr' → Con T0 N w0 G F fr' M a w → wpList P ops Qc (oL :: os) a w) : ∀ (fuel : Nat) (listed : Array Bool) (fr : Fr) (G : Gh) (a : Act) (w : World),Gh.le G0 G → Con T0 N w0 G F fr M a w →
  zf5 P T0 N md ops L ds QC M fuel listed fr → wpAny P md ops Qc fuel listed a w
 |0,_,_,_,_,_,_,_,h=>h.elim
 |fuel + 1,listed,fr,G,a,w,hl,hc,h=>by
  refine ⟨fun h0=>absurd h0 h.1,fun i hi => ?_⟩
  unfold wpOp
  cases ho : ops[i]? with
  |none=>have:=(mem_ready.1 hi).2; rw [ho] at this; obtain ⟨_,e,_⟩:=this; cases e
  |some o =>
   rcases h.2 i hi o ho with ⟨rfl,rfl,hB,hq⟩ | ⟨_,hd,A,hy,hr⟩
   ·rw [ho] at hoL; obtain rfl:=Option.some.inj hoL
    have h3:=hC fr G a w hl hq hc
    unfold wpList at h3
    simp only
    split at h3
    ·rename_i hw
     rw [if_pos hw]
     exact h3.imp (fun h=>zae (fun a w h=>v8 ds os _ a w hos hB h) h) (fun h=>h)
    ·rename_i hw
     rw [if_neg hw]
     exact v8 ds os _ _ _ hos hB h3
   ·obtain ⟨h1,h2⟩:=hy w0 G F a w hc.st (fun s A _ e=>hc.fr s A trivial e)
    simp only
    by_cases hw : Region.wanted o (yielded ops a.tmps) = true
    ·rw [if_pos hw]
     refine .inl (h1 hw _ _ fun G' u w' hl' hs hu => ?_)
     exact zdl hoL hos hC fuel _ _ G' _ w' (hl.trans hl') (hc.put hl' hs hd hu) hr
    ·rw [if_neg hw]
     exact zdl hoL hos hC fuel _ _ G _ w hl (hc.put (Gh.le.refl _) hc.st hd (h2 (by simpa using hw))) hr
theorem zf4 {md : Region.Mode} {L : Nat} {ds : List Nat} {QC : Fr → Prop} (hQC : ∀ fr fr' : Fr,(∀ s,fr'.get s = fr.get s) → QC fr → QC fr') : ∀ (fuel : Nat) (listed : Array Bool) (fr fr' : Fr),(∀ s,fr'.get s = fr.get s) → zf5 P T0 N md ops L ds QC M fuel listed fr → zf5 P T0 N md ops L ds QC M fuel listed fr'
 |0,_,_,_,_,h=>h
 |fuel + 1,listed,fr,fr',he,h=>by
  refine ⟨h.1,fun i hi o ho => ?_⟩
  rcases h.2 i hi o ho with ⟨h1,h2,h3,h4⟩ | ⟨h1,hd,A,hy,hr⟩
  ·exact .inl ⟨h1,h2,h3,hQC fr fr' he h4⟩
  ·refine .inr ⟨h1,hd,A,hy.other (fun s _=>he s),zf4 hQC fuel _ _ _ (fun s => ?_) hr⟩
   cases hdst : o.dst with
   |none=>exact he s
   |some d =>
    by_cases e : s = d
    ·subst e; simp only [Fr.put,qo]
    ·simp only [Fr.put,qh e]; exact he s
def zv7 (L : Nat) (md : Region.Mode) (ops : Array Oper) : Bool:=(List.range L).all fun i=>(List.range (L + 1)).any fun k=>decide (i < k) && (ops[k]?).any fun o=>o.after.any fun e=>Region.binds md e && e.on == i
theorem zst {L : Nat} {md : Region.Mode} (h : zv7 L md ops = true) {i : Nat} (hi : i < L) : ∃ k o,i < k ∧ k ≤ L ∧ ops[k]? = some o ∧ ∃ e ∈ o.after,Region.binds md e = true ∧ e.on = i:=by
 have:=List.all_eq_true.1 h i (List.mem_range.2 hi)
 obtain ⟨k,hk,h2⟩:=List.any_eq_true.1 this
 simp only [Bool.and_eq_true,decide_eq_true_eq] at h2
 obtain ⟨h3,h4⟩:=h2
 cases ho : ops[k]? with
 |none=>rw [ho] at h4; cases h4
 |some o =>
  rw [ho] at h4
  simp only [Option.any_some,Array.any_eq_true,Bool.and_eq_true,beq_iff_eq] at h4
  obtain ⟨n,hn,h5,h6⟩:=h4
  exact ⟨k,o,h3,by have:=List.mem_range.1 hk; omega,ho,_,Array.getElem_mem hn,h5,h6⟩
theorem zv6 {L : Nat} {md : Region.Mode} {listed : Array Bool} (hS : Shut md ops listed) (hlast : zv7 L md ops = true) (hL : L ∈ Region.ready md ops listed) : ∀ n i,L - i = n → i < L → listed.getD i false = true:=by
 intro n
 induction n using Nat.strongRecOn with
 |_ n ih =>
  intro i hn hi
  obtain ⟨k,o,h1,h2',h2,e,h3,h4,h5⟩:=zst hlast hi
  by_cases hkL : k = L
  ·obtain ⟨_,o',ho',hall⟩:=mem_ready.1 hL
   rw [← hkL,h2] at ho'; obtain rfl:=Option.some.inj ho'
   rw [← h5]; exact hall e h3 h4
  ·have:=ih (L - k) (by omega) k rfl (by omega)
   rw [← h5]; exact hS k o h2 this e h3 h4
theorem zk_ {md : Region.Mode} {L : Nat} {ds : List Nat} {QC : Fr → Prop} (hQC : ∀ fr fr' : Fr,(∀ s,fr'.get s = fr.get s) → QC fr → QC fr') (hlast : zv7 L md ops = true) {i : Nat} {oi : Oper} {A : AV} (hi : ops[i]? = some oi) (hiL : i < L) (hdi : ∀ x,oi.dst = some x → x < N.n) :
  ∀ (fuel : Nat) (listed : Array Bool) (fr : Fr),
    (∀ j oj,ops[j]? = some oj → j ≠ i → listed.getD j true = false → (∀ e ∈ oj.after,Region.binds md e = true → e.on ≠ i) → oi.apart ops oj = true) →
    Shut md ops listed → i ∈ Region.ready md ops listed → QY P T0 ops oi fr M A →
    zf5 P T0 N md ops L ds QC M fuel (listed.setIfInBounds i true) (fr.put oi.dst A) → zf5 P T0 N md ops L ds QC M (fuel + 1) listed fr:=by
 intro fuel
 induction fuel with
 |zero=>intro listed fr _ _ hr hy H; exact H.elim
 |succ fuel ih =>
  intro listed fr hfree hS hr hy H
  refine ⟨fun h=>(by rw [h] at hr; cases hr),fun j hj o ho => ?_⟩
  by_cases hji : j = i
  ·subst hji; rw [hi] at ho; obtain rfl:=Option.some.inj ho; exact .inr ⟨by omega,hdi,A,hy,H⟩
  ·obtain ⟨hjun,oj,hoj,hall⟩:=mem_ready.1 hj
   rw [ho] at hoj; obtain rfl:=Option.some.inj hoj
   have hnot : ∀ e ∈ o.after,Region.binds md e = true → e.on ≠ i:=fun e he hb heq=>by
    have h1:=hall e he hb
    rw [heq] at h1
    exact jv hr h1
   have hjL : j ≠ L:=fun e=>by
    subst e
    exact jv hr (zv6 hS hlast hj _ i rfl hiL)
   rcases H.2 j (ready_mono hj hji) o ho with ⟨h1,_⟩ | ⟨_,hd,A',hy',hr'⟩
   ·exact absurd h1 hjL
   obtain ⟨p1,p2,p3⟩:=Oper.apart_spec (hfree j o ho hji hjun hnot)
   have hfree' : ∀ k ok,ops[k]? = some ok → k ≠ i → (listed.setIfInBounds j true).getD k true = false →
     (∀ e ∈ ok.after,Region.binds md e = true → e.on ≠ i) → oi.apart ops ok = true:=fun k ok hk hki hun hno=>by
    refine hfree k ok hk hki ?_ hno
    by_cases hjk : j = k
    ·subst hjk; exact hjun
    ·rw [getD_set_ne true hjk] at hun; exact hun
   refine .inr ⟨hjL,hd,A',hy'.other (fun s hs=>(x8 fun x hx e=>p1 x hx (e ▸ hs)).symm), ?_⟩
   refine ih (listed.setIfInBounds j true) _ hfree' (hS.put hj) (ready_mono hr (Ne.symm hji)) (hy.other fun s hs=>x8 fun x hx e=>p3 x hx (e ▸ hs)) ?_
   rw [Array.setIfInBounds_comm _ _ hji]
   exact zf4 hQC fuel _ _ _ (fun s=>v4 (fun x hx e=>p2 x (by rw [← e]) hx |>.elim) s) hr'
def z0r (md : Region.Mode) (ops : Array Oper) (L : Nat) (ds : List Nat) : Nat → Nat → Array Bool → Bool
 |0,_,listed=>zk5 md ops (L :: ds) listed
 |fuel + 1,k,listed=>(Region.ready md ops listed).contains k && Region.free md ops listed k && z0r md ops L ds fuel (k + 1) (listed.setIfInBounds k true)
theorem zii {md : Region.Mode} {L : Nat} {ds : List Nat} {QC : Fr → Prop} (hQC : ∀ fr fr' : Fr,(∀ s,fr'.get s = fr.get s) → QC fr → QC fr') (hlast : zv7 L md ops = true) : ∀ (l : List Oper) (k : Nat) (listed : Array Bool) (fr : Fr),k + l.length ≤ L → (∀ j,j < l.length → l[j]? = ops[k + j]?) →
  z0r md ops L ds l.length k listed = true → Shut md ops listed → AQ P T0 N ops QC M l fr → zf5 P T0 N md ops L ds QC M (l.length + (ds.length + 1)) listed fr
 |[],k,listed,fr,_,_,hB,hS,h=>by
  simp only [List.length_nil,z0r,zk5,Bool.and_eq_true] at hB
  obtain ⟨⟨b1,b2⟩,b3⟩:=hB
  have r1 : L ∈ Region.ready md ops listed:=by simpa using b1
  rw [List.length_nil,Nat.zero_add]
  refine ⟨fun e=>(by rw [e] at r1; cases r1),fun i hi oi hoi => ?_⟩
  obtain rfl:=Nat.eq_of_beq_eq_true (List.all_eq_true.1 b2 i hi)
  exact .inl ⟨rfl,rfl,b3,h⟩
 |o :: l,k,listed,fr,hL,hl,hB,hS,h=>by
  simp only [List.length_cons] at hL
  have h0 : ops[k]? = some o:=by simpa using (hl 0 (by simp)).symm
  have hl' : ∀ j,j < l.length → l[j]? = ops[k + 1 + j]?:=fun j hj=>by have:=hl (j + 1) (by simp; omega); simpa [Nat.add_assoc,Nat.add_comm 1 j] using this
  simp only [List.length_cons,z0r,Bool.and_eq_true] at hB
  obtain ⟨⟨hr,hf⟩,hB'⟩:=hB
  have hr' : k ∈ Region.ready md ops listed:=by simpa using hr
  obtain ⟨hd,A,hy,hr2⟩:=h
  rw [List.length_cons,show l.length + 1 + (ds.length + 1) = (l.length + (ds.length + 1)) + 1 by omega]
  refine zk_ hQC hlast h0 (by omega) hd _ listed fr (Region.free_spec h0 hf) hS hr' hy ?_
  exact zii hQC hlast l (k + 1) _ _ (by omega) hl' hB' (hS.put hr') hr2
def z69 (P : Program) (T0 : Gh) (N : Fz) (ops : Array Oper) (os : List Oper) (Q : kw) : kw:=fun e fr' M'=>e = .normal ∧ AL P T0 N false ops Q os fr' M'
theorem qa9 {os : List Oper} {fr' : Fr} {M' : List Own} (h : AL P T0 N false ops Q os fr' M') : z69 P T0 N ops os Q .normal fr' M':=⟨rfl,h⟩
def zc6 : Nat → Nat → List Nat
 |0,_=>[]
 |n + 1,k=>k :: zc6 n (k + 1)
theorem zc5 (l : List Oper) : ∀ (os : List Oper) (k : Nat),(∀ j,j < os.length → l[k + j]? = os[j]?) → (zc6 os.length k).map (fun d=>l.toArray[d]?) = os.map some
 |[],_,_=>rfl
 |o :: os,k,h=>by
  have h0:=h 0 (by simp)
  simp only [List.length_cons,zc6,List.map_cons,List.cons.injEq]
  refine ⟨by simpa using h0,zc5 l os (k + 1) fun j hj => ?_⟩
  have:=h (j + 1) (by simp; omega)
  rw [show k + 1 + j = k + (j + 1) by omega,this]; simp
theorem zc4 : ∀ n k,(zc6 n k).length = n
 |0,_=>rfl
 |n + 1,k=>by simp [zc6,zc4 n (k + 1)]
theorem qx {id : Nat} {l : List Oper} (n : Nat) {oL : Oper} {os : List Oper} (hs : l.drop n = oL :: os) (hD : zv7 n .any l.toArray = true) (hB : z0r .any l.toArray n (zc6 (l.length - (n + 1)) (n + 1)) n 0 (List.replicate l.length false).toArray = true) (hg : ((l.take n).all fun o=>o.guard.isNone) = true) (hm : P.follows .mixedOrders = true)
  (h : AL P T0 N true ud (z69 P T0 N l.toArray (oL :: os) Q) (l.take n) fr M) : AW P T0 N (.region id l.toArray true) Q fr M:=fun w0 G F a w hc=>by
 have h' : AQ2 P T0 N ud (fun fr'=>z69 P T0 N l.toArray (oL :: os) Q .normal fr' M) (fun o fr'=>zcz .any ud = true ∧ AE P T0 N ud (z69 P T0 N l.toArray (oL :: os) Q) [o] fr' M) M (l.take n) fr:=by simpa [AL] using h
 rcases yf _ _ h' with h1 | h1
 case inr=>obtain ⟨_,_,_,hlast,_⟩:=uw _ _ h1; rw [zbt] at hlast; cases hlast
 have hlen : l.length = n + (os.length + 1):=by
  have:=congrArg List.length hs
  simp only [List.length_drop,List.length_cons] at this; omega
 have hgd : ∀ j,l[n + j]? = (oL :: os)[j]?:=fun j=>by rw [← hs,List.getElem?_drop]
 have hoL : l.toArray[n]? = some oL:=by simpa using hgd 0
 have hos : (zc6 os.length (n + 1)).map (fun d=>l.toArray[d]?) = os.map some:=zc5 l os (n + 1) fun j _=>by
  have:=hgd (j + 1)
  rw [show n + 1 + j = n + (j + 1) by omega,this]; simp
 rw [show l.length - (n + 1) = os.length by omega] at hB
 have htl : (l.take n).length = n:=by rw [List.length_take]; omega
 have h2:=zfz (ops:=l.toArray) _ _ hg (zbe _ _ h1)
 have h3:=zii (md:=.any) (L:=n) (ds:=zc6 os.length (n + 1)) (QC:=fun fr' => ∃ fr1,(∀ s,Fr.get fr' s = Fr.get fr1 s) ∧ z69 P T0 N l.toArray (oL :: os) Q .normal fr1 M)
  (fun fr fr' he h=>by obtain ⟨fr1,h1,h2⟩:=h; exact ⟨fr1,fun s=>(he s).trans (h1 s),h2⟩) hD (l.take n) 0 (List.replicate l.length false).toArray fr (by omega)
  (fun j hj=>by rw [htl] at hj; simp [List.getElem?_take,hj]) (by rw [htl]; exact hB) (by simpa using zaa (md:=.any) (ops:=l.toArray) l.length) h2
 rw [htl,zc4,← hlen] at h3
 refine wp_region_any hm ?_
 have es : Array.replicate l.toArray.size false = (List.replicate l.length false).toArray:=by simp
 rw [es]
 refine zdl (QC:=fun fr' => ∃ fr1,(∀ s,Fr.get fr' s = Fr.get fr1 s) ∧ z69 P T0 N l.toArray (oL :: os) Q .normal fr1 M) (G0:=G) (F:=F) (w0:=w0) hoL hos ?_ _ _ fr G _ _ (Gh.le.refl _) ⟨hc.st.drew,hc.fr,hc.size,hc.defers⟩ (by simpa using h3)
 rintro fr' G' a' w' hl' ⟨fr1,he,_,hq⟩ hc'
 simp only [AL,Bool.false_eq_true,if_false] at hq
 exact xb (fun _ _ _ q=>q.mono (fun _ _ _ h=>h) hl') _ _ _ (hq w0 G' F a' w' ⟨hc'.st,fun s A hs e=>hc'.fr s A hs (by rw [he s]; exact e),hc'.size,hc'.defers⟩)
end
end
section
open Go Go.RowKit
section
variable {P : Program} {T0 : Gh} {N : Fz} {Q : kw} {fr : Fr} {M : List Own} {ops : Array Oper}
theorem AO.other {o : Oper} {fr' : Fr} {K : AV → List Own → Prop} {KP : List PanicEntry → List Own → Prop} (h : AO P T0 ops o fr M K KP) (he : ∀ s,reads ops o s → fr'.get s = fr.get s) : AO P T0 ops o fr' M K KP:=fun w0 G F a w next Qc hs hf hk hp =>
 h w0 G F a w next Qc hs (fun s A hr e=>hf s A hr (by rw [he s hr]; exact e)) hk hp
def u6 (P : Program) (T0 : Gh) (N : Fz) (md : Region.Mode) (ops : Array Oper) (M : List Own) (QE : Fr → List Own → Prop) : Nat → Array Bool → Fr → List Own → Prop
 |0,listed,fr,X=>Region.ready md ops listed = [] ∧ QE fr X
 |fuel + 1,listed,fr,X=>(Region.ready md ops listed = [] → QE fr X) ∧ ∀ i ∈ Region.ready md ops listed,∀ o,ops[i]? = some o → (∀ x,o.dst = some x → x < N.n) ∧
   ((∃ A,QY P T0 ops o fr M A ∧ u6 P T0 N md ops M QE fuel (listed.setIfInBounds i true) (fr.put o.dst A) X) ∨
    (o.guard = none ∧ ∃ K : AV → List Own → Prop,AO P T0 ops o fr X K (fun _ _=>False) ∧ ∀ A X',K A X' → u6 P T0 N md ops M QE fuel (listed.setIfInBounds i true) (fr.put o.dst A) X'))
theorem zax {md : Region.Mode} {QE : Fr → List Own → Prop} {w0 : World} {F : List Own} {G0 : Gh} {Qc : Exit → Act → World → Prop}
  (hQ : ∀ fr' X G a w,Gh.le G0 G → QE fr' X → Con T0 N w0 G F fr' (X ++ M) a w → Qc .normal a w) : ∀ (fuel : Nat) (listed : Array Bool) (fr : Fr) (X : List Own) (G : Gh) (a : Act) (w : World),Gh.le G0 G → Con T0 N w0 G F fr (X ++ M) a w →
  u6 P T0 N md ops M QE fuel listed fr X → wpAny P md ops Qc fuel listed a w
 |0,_,_,_,_,_,_,hl,hc,h=>⟨h.1,hQ _ _ _ _ _ hl h.2 hc⟩
 |fuel + 1,listed,fr,X,G,a,w,hl,hc,h=>by
  refine ⟨fun h0=>hQ _ _ _ _ _ hl (h.1 h0) hc,fun i hi => ?_⟩
  unfold wpOp
  cases ho : ops[i]? with
  |none=>have:=(mem_ready.1 hi).2; rw [ho] at this; obtain ⟨_,e,_⟩:=this; cases e
  |some o =>
   have hp : List.Perm (X ++ M ++ F) (M ++ (X ++ F)):=by
    rw [← List.append_assoc]; exact List.Perm.append_right F List.perm_append_comm
   obtain ⟨hd,⟨A,hy,hr⟩ | ⟨hg,K,hao,hr⟩⟩:=h.2 i hi o ho
   ·obtain ⟨h1,h2⟩:=hy w0 G (X ++ F) a w (hc.st.perm hp.symm) (fun s A _ e=>hc.fr s A trivial e)
    simp only
    by_cases hw : Region.wanted o (yielded ops a.tmps) = true
    ·rw [if_pos hw]
     refine .inl (h1 hw _ _ fun G' u w' hl' hs hu => ?_)
     exact zax hQ fuel _ _ _ G' _ w' (hl.trans hl') (hc.put hl' (hs.perm hp) hd hu) hr
    ·rw [if_neg hw]
     exact zax hQ fuel _ _ _ G _ w hl (hc.put (Gh.le.refl _) hc.st hd (h2 (by simpa using hw))) hr
   ·have hw : Region.wanted o (yielded ops a.tmps) = true:=by simp [Region.wanted,hg]
    simp only
    rw [if_pos hw]
    refine .inl (hao w0 G (M ++ F) a w _ _ (by rw [← List.append_assoc]; exact hc.st) (fun s A _ e=>hc.fr s A trivial e) (fun A X' G' u w' k hl' hs hu => ?_) (fun _ _ _ _ h=>h.elim))
    exact zax hQ fuel _ _ _ G' _ w' (hl.trans hl') (hc.put hl' (by rw [List.append_assoc]; exact hs) hd hu) (hr A X' k)
theorem zen {fr fr' : Fr} (he : ∀ s,fr'.get s = fr.get s) (d : Option Tmp) (A : AV) (s : Nat) : (fr'.put d A).get s = (fr.put d A).get s:=by
 cases d with
 |none=>exact he s
 |some d =>
  by_cases e : s = d
  ·subst e; simp only [Fr.put,qo]
  ·simp only [Fr.put,qh e]; exact he s
theorem zbo {md : Region.Mode} {QE : Fr → List Own → Prop} (hQ : ∀ (fr fr' : Fr) X,(∀ s,fr'.get s = fr.get s) → QE fr X → QE fr' X) : ∀ (fuel : Nat) (listed : Array Bool) (fr fr' : Fr) (X : List Own),(∀ s,fr'.get s = fr.get s) → u6 P T0 N md ops M QE fuel listed fr X → u6 P T0 N md ops M QE fuel listed fr' X
 |0,_,fr,fr',X,he,h=>⟨h.1,hQ fr fr' X he h.2⟩
 |fuel + 1,listed,fr,fr',X,he,h=>by
  refine ⟨fun h0=>hQ fr fr' X he (h.1 h0),fun i hi o ho => ?_⟩
  obtain ⟨hd,⟨A,hy,hr⟩ | ⟨hg,K,hao,hr⟩⟩:=h.2 i hi o ho
  ·exact ⟨hd,.inl ⟨A,hy.other (fun s _=>he s),zbo hQ fuel _ _ _ _ (zen he _ _) hr⟩⟩
  ·exact ⟨hd,.inr ⟨hg,K,hao.other (fun s _=>he s),fun A X' k=>zbo hQ fuel _ _ _ _ (zen he _ _) (hr A X' k)⟩⟩
theorem zla {md : Region.Mode} {QE : Fr → List Own → Prop} (hQ : ∀ (fr fr' : Fr) X,(∀ s,fr'.get s = fr.get s) → QE fr X → QE fr' X) {i : Nat} {oi : Oper} {A : AV} (hi : ops[i]? = some oi) (hdi : ∀ x,oi.dst = some x → x < N.n) :
  ∀ (fuel : Nat) (listed : Array Bool) (fr : Fr) (X : List Own),
    (∀ j oj,ops[j]? = some oj → j ≠ i → listed.getD j true = false → (∀ e ∈ oj.after,Region.binds md e = true → e.on ≠ i) → oi.apart ops oj = true) →
    i ∈ Region.ready md ops listed → QY P T0 ops oi fr M A →
    u6 P T0 N md ops M QE fuel (listed.setIfInBounds i true) (fr.put oi.dst A) X → u6 P T0 N md ops M QE (fuel + 1) listed fr X:=by
 intro fuel
 induction fuel with
 |zero =>
  intro listed fr X _ hr hy H
  refine ⟨fun h=>(by rw [h] at hr; cases hr),fun j hj o ho => ?_⟩
  by_cases hji : j = i
  ·subst hji; rw [hi] at ho; obtain rfl:=Option.some.inj ho; exact ⟨hdi,.inl ⟨A,hy,H⟩⟩
  ·have:=ready_mono hj hji
   rw [H.1] at this; cases this
 |succ fuel ih =>
  intro listed fr X hfree hr hy H
  refine ⟨fun h=>(by rw [h] at hr; cases hr),fun j hj o ho => ?_⟩
  by_cases hji : j = i
  ·subst hji; rw [hi] at ho; obtain rfl:=Option.some.inj ho; exact ⟨hdi,.inl ⟨A,hy,H⟩⟩
  ·obtain ⟨hjun,oj,hoj,hall⟩:=mem_ready.1 hj
   rw [ho] at hoj; obtain rfl:=Option.some.inj hoj
   have hnot : ∀ e ∈ o.after,Region.binds md e = true → e.on ≠ i:=fun e he hb heq=>by
    have h1:=hall e he hb
    rw [heq] at h1
    exact jv hr h1
   obtain ⟨p1,p2,p3⟩:=Oper.apart_spec (hfree j o ho hji hjun hnot)
   have hfree' : ∀ k ok,ops[k]? = some ok → k ≠ i → (listed.setIfInBounds j true).getD k true = false →
     (∀ e ∈ ok.after,Region.binds md e = true → e.on ≠ i) → oi.apart ops ok = true:=fun k ok hk hki hun hno=>by
    refine hfree k ok hk hki ?_ hno
    by_cases hjk : j = k
    ·subst hjk; exact hjun
    ·rw [getD_set_ne true hjk] at hun; exact hun
   have hstep : ∀ A' X',u6 P T0 N md ops M QE fuel ((listed.setIfInBounds i true).setIfInBounds j true) ((fr.put oi.dst A).put o.dst A') X' → u6 P T0 N md ops M QE (fuel + 1) (listed.setIfInBounds j true) (fr.put o.dst A') X':=fun A' X' hr'=>by
    refine ih (listed.setIfInBounds j true) _ X' hfree' (ready_mono hr (Ne.symm hji)) (hy.other fun s hs=>x8 fun x hx e=>p3 x hx (e ▸ hs)) ?_
    rw [Array.setIfInBounds_comm _ _ hji]
    exact zbo hQ fuel _ _ _ _ (fun s=>v4 (fun x hx e=>p2 x (by rw [← e]) hx |>.elim) s) hr'
   obtain ⟨hd,⟨A',hy',hr'⟩ | ⟨hg,K,hao,hr'⟩⟩:=H.2 j (ready_mono hj hji) o ho
   ·exact ⟨hd,.inl ⟨A',hy'.other (fun s hs=>(x8 fun x hx e=>p1 x hx (e ▸ hs)).symm),hstep A' X hr'⟩⟩
   ·exact ⟨hd,.inr ⟨hg,K,hao.other (fun s hs=>(x8 fun x hx e=>p1 x hx (e ▸ hs)).symm),fun A' X' k=>hstep A' X' (hr' A' X' k)⟩⟩
def zni (P : Program) (T0 : Gh) (N : Fz) (ops : Array Oper) (M : List Own) (QE : Fr → List Own → Prop) : List Oper → Fr → List Own → Prop
 |[],fr,X=>QE fr X
 |o :: os,fr,X=>(∀ x,o.dst = some x → x < N.n) ∧
    ((∃ A,QY P T0 ops o fr M A ∧ zni P T0 N ops M QE os (fr.put o.dst A) X) ∨
     (o.guard = none ∧ ∃ K : AV → List Own → Prop,AO P T0 ops o fr X K (fun _ _=>False) ∧ ∀ A X',K A X' → zni P T0 N ops M QE os (fr.put o.dst A) X'))
theorem zdn {md : Region.Mode} {QE : Fr → List Own → Prop} : ∀ (ds : List Nat) (os : List Oper) (listed : Array Bool) (fr : Fr) (X : List Own),ds.map (fun d=>ops[d]?) = os.map some → zk5 md ops ds listed = true → zni P T0 N ops M QE os fr X → u6 P T0 N md ops M QE ds.length listed fr X
 |[],[],listed,fr,X,_,hB,h=>⟨by simpa [zk5] using hB,h⟩
 |[],_ :: _,_,_,_,he,_,_=>by simp at he
 |_ :: _,[],_,_,_,he,_,_=>by simp at he
 |d :: ds,o :: os,listed,fr,X,he,hB,h=>by
  simp only [List.map_cons,List.cons.injEq] at he
  simp only [zk5,Bool.and_eq_true] at hB
  obtain ⟨⟨b1,b2⟩,b3⟩:=hB
  have r1 : d ∈ Region.ready md ops listed:=by simpa using b1
  refine ⟨fun h0=>(by rw [h0] at r1; cases r1),fun i hi o' ho' => ?_⟩
  obtain rfl:=Nat.eq_of_beq_eq_true (List.all_eq_true.1 b2 i hi)
  rw [he.1] at ho'; obtain rfl:=Option.some.inj ho'
  obtain ⟨hd,⟨A,hy,hr⟩ | ⟨hg,K,hao,hr⟩⟩:=h
  ·exact ⟨hd,.inl ⟨A,hy,zdn ds os _ _ _ he.2 b3 hr⟩⟩
  ·exact ⟨hd,.inr ⟨hg,K,hao,fun A X' k=>zdn ds os _ _ _ he.2 b3 (hr A X' k)⟩⟩
def z93 (md : Region.Mode) (ops : Array Oper) (ds : List Nat) : Nat → Nat → Array Bool → Bool
 |0,_,listed=>zk5 md ops ds listed
 |fuel + 1,k,listed=>(Region.ready md ops listed).contains k && Region.free md ops listed k && z93 md ops ds fuel (k + 1) (listed.setIfInBounds k true)
theorem zij {md : Region.Mode} {ds : List Nat} {os : List Oper} {QE : Fr → List Own → Prop} (hQ : ∀ (fr fr' : Fr) X,(∀ s,fr'.get s = fr.get s) → QE fr X → QE fr' X) (hos : ds.map (fun d=>ops[d]?) = os.map some) : ∀ (l : List Oper) (k : Nat) (listed : Array Bool) (fr : Fr),(∀ j,j < l.length → l[j]? = ops[k + j]?) →
  z93 md ops ds l.length k listed = true → AQ P T0 N ops (fun fr'=>zni P T0 N ops M QE os fr' []) M l fr → u6 P T0 N md ops M QE (l.length + ds.length) listed fr []
 |[],k,listed,fr,_,hB,h=>by
  rw [List.length_nil,Nat.zero_add]
  exact zdn ds os listed fr [] hos hB h
 |o :: l,k,listed,fr,hl,hB,h=>by
  have h0 : ops[k]? = some o:=by simpa using (hl 0 (by simp)).symm
  have hl' : ∀ j,j < l.length → l[j]? = ops[k + 1 + j]?:=fun j hj=>by have:=hl (j + 1) (by simp; omega); simpa [Nat.add_assoc,Nat.add_comm 1 j] using this
  simp only [List.length_cons,z93,Bool.and_eq_true] at hB
  obtain ⟨⟨hr,hf⟩,hB'⟩:=hB
  have hr' : k ∈ Region.ready md ops listed:=by simpa using hr
  obtain ⟨hd,A,hy,hr2⟩:=h
  rw [List.length_cons,show l.length + 1 + ds.length = (l.length + ds.length) + 1 by omega]
  exact zla hQ h0 hd _ listed fr [] (Region.free_spec h0 hf) hr' hy (zij hQ hos l (k + 1) _ _ hl' hB' hr2)
def z87 (P : Program) (T0 : Gh) (N : Fz) (ops : Array Oper) (M : List Own) (QE : Fr → List Own → Prop) (os : List Oper) : kw:=fun e fr' _=>e = .normal ∧ zni P T0 N ops M QE os fr' []
theorem zo5 {QE : Fr → List Own → Prop} {os : List Oper} {fr' : Fr} {M' : List Own} (h : zni P T0 N ops M QE os fr' []) : z87 P T0 N ops M QE os .normal fr' M':=⟨rfl,h⟩
theorem j7 {id : Nat} {l os : List Oper} (n : Nat) (hs : l.drop n = os) (hB : z93 .any l.toArray (zc6 (l.length - n) n) n 0 (List.replicate l.length false).toArray = true) (hn : Nat.ble n l.length = true) (hg : ((l.take n).all fun o=>o.guard.isNone) = true) (hm : P.follows .mixedOrders = true)
  (h : AL P T0 N true ud (z87 P T0 N l.toArray M (fun fr' X=>Q .normal fr' (X ++ M)) os) (l.take n) fr M) : AW P T0 N (.region id l.toArray true) Q fr M:=fun w0 G F a w hc=>by
 have h' : AQ2 P T0 N ud (fun fr'=>z87 P T0 N l.toArray M (fun fr' X=>Q .normal fr' (X ++ M)) os .normal fr' M) (fun o fr'=>zcz .any ud = true ∧ AE P T0 N ud (z87 P T0 N l.toArray M (fun fr' X=>Q .normal fr' (X ++ M)) os) [o] fr' M) M (l.take n) fr:=by simpa [AL] using h
 rcases yf _ _ h' with h1 | h1
 case inr=>obtain ⟨_,_,_,hlast,_⟩:=uw _ _ h1; rw [zbt] at hlast; cases hlast
 have hnl : n ≤ l.length:=Nat.le_of_ble_eq_true hn
 have hlen : l.length = n + os.length:=by
  have:=congrArg List.length hs
  simp only [List.length_drop] at this; omega
 have hgd : ∀ j,l[n + j]? = os[j]?:=fun j=>by rw [← hs,List.getElem?_drop]
 have hos : (zc6 os.length n).map (fun d=>l.toArray[d]?) = os.map some:=zc5 l os n fun j _=>hgd j
 rw [show l.length - n = os.length by omega] at hB
 have htl : (l.take n).length = n:=by rw [List.length_take]; omega
 have hQE : ∀ (fr fr' : Fr) (X : List Own),(∀ s,fr'.get s = fr.get s) → (∃ fr1,(∀ s,Fr.get fr s = Fr.get fr1 s) ∧ Q .normal fr1 (X ++ M)) → (∃ fr1,(∀ s,Fr.get fr' s = Fr.get fr1 s) ∧ Q .normal fr1 (X ++ M)):=fun fr fr' X he ⟨fr1,h1,h2⟩=>⟨fr1,fun s=>(he s).trans (h1 s),h2⟩
 have hup : ∀ (os : List Oper) (fr : Fr) (X : List Own),zni P T0 N l.toArray M (fun fr' X=>Q .normal fr' (X ++ M)) os fr X → zni P T0 N l.toArray M (fun fr' X => ∃ fr1,(∀ s,Fr.get fr' s = Fr.get fr1 s) ∧ Q .normal fr1 (X ++ M)) os fr X:=by
  intro os
  induction os with
  |nil=>intro fr X h; exact ⟨fr,fun _=>rfl,h⟩
  |cons o os ih =>
   rintro fr X ⟨hd,⟨A,hy,hr⟩ | ⟨hg,K,hao,hr⟩⟩
   ·exact ⟨hd,.inl ⟨A,hy,ih _ _ hr⟩⟩
   ·exact ⟨hd,.inr ⟨hg,K,hao,fun A X' k=>ih _ _ (hr A X' k)⟩⟩
 have hmono : ∀ (l' : List Oper) (fr : Fr),AQ P T0 N l.toArray (fun fr'=>z87 P T0 N l.toArray M (fun fr' X=>Q .normal fr' (X ++ M)) os .normal fr' M) M l' fr → AQ P T0 N l.toArray (fun fr'=>zni P T0 N l.toArray M (fun fr' X => ∃ fr1,(∀ s,Fr.get fr' s = Fr.get fr1 s) ∧ Q .normal fr1 (X ++ M)) os fr' []) M l' fr:=by
  intro l'
  induction l' with
  |nil=>intro fr h; exact hup os fr [] h.2
  |cons o l' ih=>rintro fr ⟨hd,A,hy,hr⟩; exact ⟨hd,A,hy,ih _ hr⟩
 have h2:=hmono _ _ (zfz (ops:=l.toArray) _ _ hg h1)
 have h3:=zij (md:=.any) hQE hos (l.take n) 0 (List.replicate l.length false).toArray fr (fun j hj=>by rw [htl] at hj; simp [List.getElem?_take,hj]) (by rw [htl]; exact hB) h2
 rw [htl,zc4,← hlen] at h3
 refine wp_region_any hm ?_
 have es : Array.replicate l.toArray.size false = (List.replicate l.length false).toArray:=by simp
 rw [es]
 refine zax (G0:=G) (F:=F) (w0:=w0) ?_ _ _ fr [] G _ _ (Gh.le.refl _) ⟨hc.st.drew,hc.fr,hc.size,hc.defers⟩ (by simpa using h3)
 rintro fr' X G' a' w' hl' ⟨fr1,he,hq⟩ hc'
 exact ⟨fr1,X ++ M,G',hq,hl',hc'.st,fun s A hs e=>hc'.fr s A hs (by rw [he s]; exact e),hc'.size,hc'.defers⟩
variable {QE : Fr → List Own → Prop} {X : List Own} {o : Oper} {os : List Oper} {x0 : Nat}
theorem z2o (h : QE fr X) : zni P T0 N ops M QE [] fr X:=h
theorem um {e : TypeId} {zs : List Value} {z : Value} {Z : List AV} (hg : o.guard = none) (hd : o.dst = some x0) (hN : Nat.blt x0 N.n = true) (ho : o.op = .alloc e) (hz : (P.info? e).map (·.zero) = some (some z) ∧ z.cells.toList = zs ∧ Z = zs.map vA) (h : ∀ b,zni P T0 N ops M QE os ((x0,vA (.pointer (some ⟨b,0,none⟩))) :: fr) (qd b e Z :: X)) : zni P T0 N ops M QE (o :: os) fr X:=by
 obtain ⟨h1,h2,rfl⟩:=hz
 refine ⟨fun x hx => ?_,.inr ⟨hg,_,zrz ho h1 h2, ?_⟩⟩
 ·rw [hd] at hx; obtain rfl:=Option.some.inj hx; exact Nat.lt_of_succ_le (Nat.le_of_ble_eq_true hN)
 ·rintro _ _ ⟨b,rfl,rfl⟩
  rw [hd]; exact h b
theorem ul {t e : TypeId} {x y : Operand} {b off n : Nat} {cells cells' l : List AV} {A : AV} {f : Own → List Own} (hg : o.guard = none) (hd : o.dst = none) (ho : o.op = .store t x y) (hz : ∀ w,(sizeOf t).run P w = .ok n w) (hx : Opd T0 fr x (vA (.pointer (some ⟨b,off,none⟩)))) (hy : Opd T0 fr y A) (hc : j5 A l) (hl : l.length = n) (h1 : OnesA l) (hU : UpdF (qd b e cells) X f) (hs : SetC cells off l cells')
  (h : zni P T0 N ops M QE os fr (f (qd b e cells'))) : zni P T0 N ops M QE (o :: os) fr X:=by
 obtain ⟨i,k1,k2⟩:=hU.spec
 obtain ⟨k3,k4⟩:=hs.spec
 subst hl; subst k4
 refine ⟨fun x hx=>(by rw [hd] at hx; cases hx),.inr ⟨hg,_,ze0 i ho hz k1 hx hy hc h1 k3, ?_⟩⟩
 rintro _ _ rfl
 rw [hd,← k2]; exact h
theorem z4g {A : AV} (hg : o.guard = none) (hd : o.dst = some x0) (hN : Nat.blt x0 N.n = true) (hy : AY P T0 ops o fr M A) (h : zni P T0 N ops M QE os ((x0,A) :: fr) X) : zni P T0 N ops M QE (o :: os) fr X:=by
 refine ⟨fun x hx => ?_,.inl ⟨A,zp8 hg hy,by rw [hd]; exact h⟩⟩
 rw [hd] at hx; obtain rfl:=Option.some.inj hx; exact Nat.lt_of_succ_le (Nat.le_of_ble_eq_true hN)
end
end
end Go.Proofs.YtgfmjmfphmjdkaaGreatDoor
