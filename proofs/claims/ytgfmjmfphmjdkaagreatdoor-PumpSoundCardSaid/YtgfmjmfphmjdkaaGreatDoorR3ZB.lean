/- Several texts in one: see the comment ahead of each. No condition. -/
import Derived.Test.YtgfmjmfphmjdkaaGreatDoorR3ZA
import Derived.Laws.CopyRow
import Derived.Lib.MinMax
import Derived.Lib.DecodeN
import Derived.Test.YtgfmjmfphmjdkaaGreatDoorProg
import Derived.Laws.Runes
import Derived.Laws.BytesString
import Derived.Scope
import Derived.MapKept
import Derived.WalkSmall
set_option linter.unusedSimpArgs false
set_option linter.unusedVariables false
set_option linter.unusedSectionVars false
namespace Go.Proofs.YtgfmjmfphmjdkaaGreatDoor
set_option maxHeartbeats 4000000
section
open Go Go.RowKit
section
variable {P : Program} {T0 : Gh} {N : Fz} {Q : ko} {fr : Fr} {M : List Own} {ops : Array Oper} {o : Oper}
def xh (T0 : Gh) (fr : Fr) (x : Operand) (k : IntKind) (n : Nat) : Prop:=Opd T0 fr x (vA (.int k (n : Int)))
theorem ogn {x : Operand} {c : Bool} {k : IntKind} {n : Nat} (h : fr.opd x = some (gvA c (vA (.int k (n : Int))))) (hc : c = true) : xh T0 fr x k n:=og h hc
theorem qa1 {x : Operand} {k : IntKind} {n : Nat} {A : AV} (h : fr.opd x = some A) (e : A = vA (.int k (OfNat.ofNat n))) : xh T0 fr x k (OfNat.ofNat n):=odl h e
theorem odn {x : Operand} {k : IntKind} {n : Nat} (h : fr.opd x = some (vA (.int k (n : Int)))) : xh T0 fr x k n:=od h
theorem z1y {t t' : TypeId} {x y : Operand} {k : IntKind} {a b : Nat} (ho : o.op = .binOp .add t x y t') (hx : xh T0 fr x k a) (hy : xh T0 fr y k b) (hf : Fit k ((a + b : Nat) : Int)) : AY P T0 ops o fr M (vA (.int k ((a + b : Nat) : Int))):=z5a ho hx hy hf
theorem z1w {t t' : TypeId} {x y : Operand} {k : IntKind} {a b : Nat} (ho : o.op = .binOp .mul t x y t') (hx : xh T0 fr x k a) (hy : xh T0 fr y k b) (hf : Fit k ((a * b : Nat) : Int)) : AY P T0 ops o fr M (vA (.int k ((a * b : Nat) : Int))):=z49 ho hx hy hf
theorem z1t {t t' : TypeId} {x y : Operand} {k : IntKind} {a b : Nat} (ho : o.op = .binOp .sub t x y t') (hx : xh T0 fr x k a) (hy : xh T0 fr y k b) (hb : b ≤ a) (hf : Fit k ((a - b : Nat) : Int)) : AY P T0 ops o fr M (vA (.int k ((a - b : Nat) : Int))):=z45 ho hx hy hb hf
theorem z1v {t t' : TypeId} {x y : Operand} {k : IntKind} {a b : Nat} (ho : o.op = .binOp .quo t x y t') (hx : xh T0 fr x k a) (hy : xh T0 fr y k b) (hb : 0 < b) (hf : Fit k ((a / b : Nat) : Int)) : AY P T0 ops o fr M (vA (.int k ((a / b : Nat) : Int))):=z47 ho hx hy hb hf
theorem z1u {t t' : TypeId} {x y : Operand} {k : IntKind} {a b : Nat} (ho : o.op = .binOp .rem t x y t') (hx : xh T0 fr x k a) (hy : xh T0 fr y k b) (hb : 0 < b) : AY P T0 ops o fr M (vA (.int k ((a % b : Nat) : Int))):=z46 ho hx hy hb
def EqK (P : Program) (t : TypeId) (A A' : AV) (b : Bool) : Prop := ∀ (T0 : Gh) (fr : Fr) (M : List Own) (ops : Array Oper) (o : Oper) (x y : Operand) (t' : TypeId),Opd T0 fr x A → Opd T0 fr y A' →
 (o.op = .binOp .eql t x y t' → AY P T0 ops o fr M (B b)) ∧ (o.op = .binOp .neq t x y t' → AY P T0 ops o fr M (B (!b)))
theorem zzl {t t' : TypeId} {x y : Operand} {A A' : AV} {b : Bool} (ho : o.op = .binOp .eql t x y t') (hx : Opd T0 fr x A) (hy : Opd T0 fr y A') (hk : EqK P t A A' b) : AY P T0 ops o fr M (B b):=(hk T0 fr M ops o x y t' hx hy).1 ho
theorem ze2 {t t' : TypeId} {x y : Operand} {A A' : AV} {b : Bool} (ho : o.op = .binOp .neq t x y t') (hx : Opd T0 fr x A) (hy : Opd T0 fr y A') (hk : EqK P t A A' b) : AY P T0 ops o fr M (B (!b)):=(hk T0 fr M ops o x y t' hx hy).2 ho
theorem z8a {t : TypeId} {k : IntKind} {a b : Int} : EqK P t (vA (.int k a)) (vA (.int k b)) (decide (a = b)):=fun _ _ _ _ _ _ _ _ hx hy=>⟨fun ho=>z8v ho hx hy,fun ho=>z8t ho hx hy⟩
theorem z4t {t : TypeId} {a b : Bool} (hu : P.underlying t = some .bool) : EqK P t (B a) (B b) (a == b):=fun _ _ _ _ _ _ _ _ hx hy=>⟨fun ho=>z4_ ho hu hx hy,fun ho=>z48 ho hu hx hy⟩
def LnK (P : Program) (T0 : Gh) (M : List Own) (t : TypeId) (A R : AV) : Prop := ∀ (fr : Fr) (ops : Array Oper) (o : Oper) (x : Operand) (ts : Array TypeId),o.op = .call { callee:=.builtin .len,args := #[x],argTypes:=ts } → ts[0]? = some t → Opd T0 fr x A → AY P T0 ops o fr M R
theorem zlo {x : Operand} {t : TypeId} {A R : AV} (ho : o.op = .call { callee:=.builtin .len,args := #[x],argTypes := #[t] }) (hx : Opd T0 fr x A) (hk : LnK P T0 M t A R) : AY P T0 ops o fr M R:=hk fr ops o x _ ho rfl hx
theorem z_i {α : Type} {T : Ty α} {t e : TypeId} {l : List α} (hu : P.underlying t = some (.slice e)) : LnK P T0 M t (slA T l) (I l.length):=fun _ _ _ _ _ ho ht hx=>z8u ho ht hu hx
theorem z6z {α : Type} {T : Ty α} {t e e' : TypeId} {l : List α} {u : Value} (i : Nat) (hu : P.underlying t = some (.slice e')) (hM : M[i]? = some (z_ T e u l)) : LnK P T0 M t (vA u) (I l.length):=fun _ _ _ _ _ ho ht hx=>zr7 i ho ht hu hx hM
def IxK (P : Program) (T0 : Gh) (M : List Own) (t : TypeId) (A : AV) (n : Nat) (R : AV) : Prop := ∀ (fr : Fr) (ops : Array Oper) (o : Oper) (x y : Operand) (k : IntKind),o.op = .indexAddr t x y → Opd T0 fr x A → xh T0 fr y k n → AY P T0 ops o fr M R
theorem zpb {x y : Operand} {t : TypeId} {A R : AV} {k : IntKind} {n : Nat} (ho : o.op = .indexAddr t x y) (hx : Opd T0 fr x A) (hy : xh T0 fr y k n) (hk : IxK P T0 M t A n R) : AY P T0 ops o fr M R:=hk fr ops o x y k ho hx hy
theorem zgu {α : Type} {T : Ty α} {t e : TypeId} {l : List α} {d z : α} {by' n : Nat} {av : α → AV} (hu : P.underlying t = some (.slice e)) (he : El P T e d by' av) (hn : l[n]? = some z) : IxK P T0 M t (slA T l) n (ipA (T.enc z)):=fun _ _ _ _ _ _ ho hx hy=>zmf ho hu he hx hy hn
theorem z6_ {α : Type} {T : Ty α} {t e : TypeId} {l : List α} {d : α} {by' n : Nat} {av : α → AV} {u : Value} (i : Nat) (hu : P.underlying t = some (.slice e)) (he : El P T e d by' av) (hM : M[i]? = some (z_ T e u l)) (hn : n < l.length) : IxK P T0 M t (vA u) n (rpA u (n * T.k)):=fun _ _ _ _ _ _ ho hx hy=>zme i ho hu he hx hM hy hn
def LdK (P : Program) (T0 : Gh) (M : List Own) (t : TypeId) (A R : AV) : Prop := ∀ (fr : Fr) (ops : Array Oper) (o : Oper) (x : Operand),o.op = .load t x → Opd T0 fr x A → AY P T0 ops o fr M R
theorem kh {x : Operand} {t : TypeId} {A R : AV} (ho : o.op = .load t x) (hx : Opd T0 fr x A) (hk : LdK P T0 M t A R) : AY P T0 ops o fr M R:=hk fr ops o x ho hx
theorem z_u {α : Type} {T : Ty α} {e : TypeId} {d z : α} {by' : Nat} {av : α → AV} (he : El P T e d by' av) : LdK P T0 M e (ipA (T.enc z)) (av z):=fun _ _ _ _ ho hx=>zr5 ho he hx
theorem qc3 {t : TypeId} {v : Value} {r : List Value} (ha : ∀ w,(isAgg t).run P w = .ok false w) : LdK P T0 M t (ipA (v :: r)) (vA v):=fun _ _ _ _ ho hx=>zp8 ho ha hx
theorem z_s {t e : TypeId} {b off : Nat} {cells : List AV} {A : AV} (i : Nat) (ha : ∀ w,(isAgg t).run P w = .ok false w) (hM : M[i]? = some (qh b e cells)) (hA : cells[off]? = some A) : LdK P T0 M t (vA (.pointer (some ⟨b,off,none⟩))) A:=fun _ _ _ _ ho hx=>zmb i ho ha hM hx hA
theorem z_r {t e : TypeId} {b off n : Nat} {cells : List AV} (i : Nat) (ha : ∀ w,(isAgg t).run P w = .ok true w) (hz : ∀ w,(sizeOf t).run P w = .ok n w) (hM : M[i]? = some (qh b e cells)) (hn : Nat.ble (off + n) cells.length = true) : LdK P T0 M t (vA (.pointer (some ⟨b,off,none⟩))) (qb ((cells.drop off).take n)):=fun _ _ _ _ ho hx=>zma i ho ha hz hM hx (Nat.le_of_ble_eq_true hn)
theorem zyq {α : Type} (T : Ty α) {l : List α} {n off : Nat} {z : α} {v : Value} (hz : l[n]? = some z) (hv : (T.enc z)[off]? = some v) : (l.flatMap T.enc)[n * T.k + off]? = some v:=by
 have hj : off < T.k:=by rw [← T.len z]; exact (List.getElem?_eq_some_iff.1 hv).1
 rw [jw T l n off z hz hj]; exact hv
theorem z_t {α : Type} {T : Ty α} {t e : TypeId} {l : List α} {off n : Nat} {z : α} {u v : Value} (i : Nat) (ha : ∀ w,(isAgg t).run P w = .ok false w) (hM : M[i]? = some (z_ T e u l)) (hz : l[n]? = some z) (hv : (T.enc z)[off]? = some v) : LdK P T0 M t (rpA u (n * T.k + off)) (vA v):=fun _ _ _ _ ho hx=>zmc i ho ha hM hx (zyq T hz hv)
def FaK (P : Program) (T0 : Gh) (M : List Own) (t : TypeId) (i : Nat) (A R : AV) : Prop := ∀ (fr : Fr) (ops : Array Oper) (o : Oper) (x : Operand),o.op = .fieldAddr t x i → Opd T0 fr x A → AY P T0 ops o fr M R
theorem qa6 {x : Operand} {t : TypeId} {i : Nat} {A R : AV} (ho : o.op = .fieldAddr t x i) (hx : Opd T0 fr x A) (hk : FaK P T0 M t i A R) : AY P T0 ops o fr M R:=hk fr ops o x ho hx
theorem qav {t : TypeId} {i off : Nat} {ft : TypeId} {cs : List Value} (hu : Fld P t i off ft) (hsz : ∀ w,∃ n,(sizeOf ft).run P w = .ok (n + 1) w) : FaK P T0 M t i (ipA cs) (ipA (cs.drop off)):=fun _ _ _ _ ho hx=>zmi ho hu hsz hx
theorem z86 {t : TypeId} {i off b of2 : Nat} {ft : TypeId} (hu : Fld P t i off ft) (hsz : ∀ w,∃ n,(sizeOf ft).run P w = .ok (n + 1) w) : FaK P T0 M t i (vA (.pointer (some ⟨b,of2,none⟩))) (vA (.pointer (some ⟨b,of2 + off,none⟩))):=fun _ _ _ _ ho hx=>zmg ho hu hsz hx
theorem z87 {t : TypeId} {i off of2 : Nat} {ft : TypeId} {u : Value} (hu : Fld P t i off ft) (hsz : ∀ w,∃ n,(sizeOf ft).run P w = .ok (n + 1) w) : FaK P T0 M t i (rpA u of2) (rpA u (of2 + off)):=fun _ _ _ _ ho hx=>zmh ho hu hsz hx
def FdK (P : Program) (T0 : Gh) (M : List Own) (t : TypeId) (i : Nat) (l : List AV) (R : AV) : Prop := ∀ (fr : Fr) (ops : Array Oper) (o : Oper) (x : Operand),o.op = .field t x i → Opd T0 fr x (qb l) → AY P T0 ops o fr M R
theorem qa5 {x : Operand} {t : TypeId} {i : Nat} {l : List AV} {R : AV} (ho : o.op = .field t x i) (hx : Opd T0 fr x (qb l)) (hk : FdK P T0 M t i l R) : AY P T0 ops o fr M R:=hk fr ops o x ho hx
theorem qc9 {t : TypeId} {i off : Nat} {l : List AV} {A : AV} {ft : TypeId} (hu : Fld P t i off ft) (ha : ∀ w,(isAgg ft).run P w = .ok false w) (hA : l[off]? = some A) : FdK P T0 M t i l A:=fun _ _ _ _ ho hx=>zwy ho hx hu ha hA
inductive SetC : List AV → Nat → List AV → List AV → Prop
 |nil {s : List AV} : SetC s 0 [] s
 |here {a b : AV} {s l r : List AV} (h : SetC s 0 l r) : SetC (a :: s) 0 (b :: l) (b :: r)
 |next {a : AV} {s l r : List AV} {n : Nat} (h : SetC s n l r) : SetC (a :: s) (n + 1) l (a :: r)
theorem SetC.spec {s l r : List AV} {n : Nat} (h : SetC s n l r) : n + l.length ≤ s.length ∧ r = setC s n l:=by
 induction h with
 |nil=>simp [setC]
 |here h ih=>obtain ⟨h1,h2⟩:=ih; refine ⟨by simp only [List.length_cons]; omega, ?_⟩; rw [h2]; simp [setC]
 |next h ih=>obtain ⟨h1,h2⟩:=ih
             refine ⟨by simp only [List.length_cons]; omega, ?_⟩
             have e : ∀ a b : Nat,a + 1 + b = (a + b) + 1:=fun a b=>by omega
             rw [h2]; simp only [setC,List.take_succ_cons,List.cons_append,e,List.drop_succ_cons]
theorem z9a {s : List AV} : SetC s 0 [] s:=.nil
theorem pk {pl : List (Nat × Nat)} {i : Nat} {x : Operand} {r : List (Nat × Operand)} {acc acc' res l : List AV} {A : AV} {off : Nat} (hx : Opd T0 fr x A) (hc : kg A l) (hp : pl[i]? = some (off,l.length)) (hs : SetC acc off l acc') (h : yc T0 fr pl r acc' res) : yc T0 fr pl ((i,x) :: r) acc res:=by
 obtain ⟨h1,h2⟩:=hs.spec
 subst h2
 exact ⟨A,l,off,hx,hc,hp,h1,h⟩
theorem qa4 {x : Operand} {n : Nat} {k : IntKind} (h : xh T0 fr x k n) : zsk (some x) n T0 fr:=⟨k,h⟩
theorem qa8 {x : Operand} {n len : Nat} {k : IntKind} (h : xh T0 fr x k n) : zus (some x) n len T0 fr:=⟨k,h⟩
end
end
section
open Go Go.RowKit
section
variable {P : Program} {T0 : Gh} {N : Fz} {Q : ko} {fr : Fr} {M : List Own} {ops : Array Oper} {o : Oper}
theorem zte {α : Type} {T : Ty α} {e : TypeId} {u : Value} {l : List α} {G : Gh} {w : World} (h : (z_ T e u l).holds G w) : u.cells = #[u] ∧ u.oneCell' = true:=by
 rcases yh h with ⟨rfl,_⟩ | ⟨g,cap,rfl,_⟩ <;> exact ⟨rfl,rfl⟩
def rsA (k : Nat) (u : Value) (off n : Nat) : AV:=fun _ v => ∃ g m cap c',u = .slice (some ⟨g,0,none⟩) m cap ∧ v = .slice (some ⟨g,off * k,none⟩) n c'
theorem Rep.rs {k off n : Nat} {u v : Value} {G : Gh} (h : Rep G (rsA k u off n) v) : ∃ g m cap c',u = .slice (some ⟨g,0,none⟩) m cap ∧ v = .slice (some ⟨g,off * k,none⟩) n c':=let ⟨_,_,r⟩:=h; r
theorem zl9 {α : Type} {T : Ty α} {t e : TypeId} {x y z : Operand} {l : List α} {d : α} {by' a b : Nat} {k k' : IntKind} {av : α → AV} {u : Value} (i : Nat) (ho : o.op = .slice t x (some y) (some z) none) (hu : P.underlying t = some (.slice e)) (he : El P T e d by' av) (hx : Opd T0 fr x (vA u)) (hM : M[i]? = some (z_ T e u l)) (hy : xh T0 fr y k a) (hz : xh T0 fr z k' b) (h1 : a < b) (h2 : b ≤ l.length) :
  AY P T0 ops o fr M (rsA T.k u a (b - a)):=xd fun w0 G F ac w hs hf=>by
 have e1:=(hx.use (o:=o) (ops:=ops) (by simp [ho,Op.operands]) hs.tab hf).eq
 have e2:=((show Opd T0 fr y (vA (.int k (a : Int))) from hy).use (o:=o) (ops:=ops) (by simp [ho,Op.operands]) hs.tab hf).eq
 have e3:=((show Opd T0 fr z (vA (.int k' (b : Int))) from hz).use (o:=o) (ops:=ops) (by simp [ho,Op.operands]) hs.tab hf).eq
 have hrow:=hs.own _ (List.mem_of_getElem? (xi (F:=F) (m':=z_ T e u l) hM).1)
 rcases yh hrow with ⟨rfl,rfl⟩ | ⟨g,cap,rfl,h4,h5⟩
 ·simp at h2; omega
 ·have hb:=jp (P:=P) (isS:=true) (cap:=cap) (len:=l.length) (w:=w) (lo:=a) (hi:=b) (vlo:=some (.int k (a : Int))) (vhi:=some (.int k' (b : Int))) (Nat.le_of_lt h1) (by omega) (.inr ⟨k,rfl⟩) (.inr ⟨k',rfl⟩)
  have hne : ¬ cap = a:=by omega
  refine ⟨.slice (some ⟨g,a * T.k,none⟩) (b - a) (cap - a), ?_,.of ⟨g,_,cap,cap - a,rfl,rfl⟩⟩
  simp only [execOp,ho,e1,Option.map_some,e2,e3]
  simp [run_sliceAt_slice _ _ _ _ _ _ (zd4 hu),Instr.slice,run_underlying hu,hb,he.size,hne,Addr.add_lit]
theorem zmd {α : Type} {T : Ty α} {t e : TypeId} {x y : Operand} {d : α} {by' off n m : Nat} {k : IntKind} {av : α → AV} {u : Value} (ho : o.op = .indexAddr t x y) (hu : P.underlying t = some (.slice e)) (he : El P T e d by' av) (hx : Opd T0 fr x (rsA T.k u off n)) (hy : xh T0 fr y k m) (hm : m < n) :
  AY P T0 ops o fr M (rpA u ((off + m) * T.k)):=xd fun w0 G F a w hs hf=>by
 obtain ⟨g,N',cap,c',h1,h2⟩:=(hx.use (o:=o) (ops:=ops) (by simp [ho,Op.operands]) hs.tab hf).rs
 have h4:=((show Opd T0 fr y (vA (.int k (m : Int))) from hy).use (o:=o) (ops:=ops) (by simp [ho,Op.operands]) hs.tab hf).eq
 refine ⟨.pointer (some ⟨g,(off + m) * T.k,none⟩), ?_,.of ⟨g,N',cap,h1,rfl⟩⟩
 simp only [execOp,ho,h2,h4]
 simp [Instr.indexAt,asIntOf,run_underlying hu,he.size,hm,Addr.add_lit,Nat.add_mul]
theorem z69 {α : Type} {T : Ty α} {t e : TypeId} {d : α} {by' off n m : Nat} {av : α → AV} {u : Value} (hu : P.underlying t = some (.slice e)) (he : El P T e d by' av) (hm : m < n) : IxK P T0 M t (rsA T.k u off n) m (rpA u ((off + m) * T.k)):=fun _ _ _ _ _ _ ho hx hy=>zmd ho hu he hx hy hm
def ovr {α : Type} (l : List α) (off : Nat) (c : List α) : List α:=l.take off ++ c ++ l.drop (off + c.length)
theorem j7 {α : Type} {l : List α} {off : Nat} {c : List α} (h : off + c.length ≤ l.length) : (ovr l off c).length = l.length:=by
 simp only [ovr,List.length_append,List.length_take,List.length_drop]; omega
theorem zor {α : Type} {T : Ty α} {t e ty : TypeId} {d : α} {by' : Nat} {av : α → AV} {w : World} {cur : Array Value} {et : TypeId} {g p n c' : Nat} {a : Option Addr} {sn sc : Nat} {m : List α} (hu : P.underlying t = some (.slice e)) (he : El P T e d by' av) (hg : w.heap[g]? = some (.cells cur et (0,0)))
  (hsn : sn = m.length) (hsrc : m ≠ [] → ∃ b off,a = some ⟨b,off,none⟩ ∧ ∀ j v,(m.flatMap T.enc)[j]? = some v → w.cell? ⟨b,off + j,none⟩ = some v) (hfit : p + (m.take n).length * T.k ≤ cur.size) :
  (Builtin.copy_ #[t,t] ty #[.slice (some ⟨g,p,none⟩) n c',.slice a sn sc]).run P w = .ok (goInt (m.take n).length) (w.setRow g (cur.toList.take p ++ (m.take n).flatMap T.enc ++ cur.toList.drop (p + (m.take n).length * T.k)).toArray):=by
 subst hsn
 have hmin : Nat.min m.length n = (m.take n).length:=by rw [List.length_take]; exact Nat.min_comm _ _
 have hst:=run_storeCells_at P g p et ((m.take n).flatMap T.enc) 0 cur w hg (by rw [zei]; simpa using hfit) (fun v hv=>by obtain ⟨x,_,hx⟩:=List.mem_flatMap.1 hv; exact he.one x v hx)
 rw [zei] at hst
 simp only [Nat.add_zero] at hst
 have hcells : (Builtin.firstCells T.k (m.take n).length (.slice a m.length sc)).run P w = .ok ((m.take n).flatMap T.enc).toArray w:=by
  by_cases hm : m = []
  ·subst hm
   cases a with
   |none=>simp [Builtin.firstCells]
   |some a=>simp [Builtin.firstCells,loadCells,loadCellsFrom]
  ·obtain ⟨b,off,rfl,hc⟩:=hsrc hm
   have hl:=run_loadCells_list (P:=P) (w:=w) ⟨b,off,none⟩ ((m.take n).flatMap T.enc) (fun j v hv=>by
    rw [Addr.add_lit]
    refine hc j v ?_
    rw [kc,List.getElem?_take] at hv
    split at hv
    ·exact hv
    ·cases hv)
   rw [zei] at hl
   simpa [Builtin.firstCells] using hl
 generalize m.take n = c at *
 simp only [Builtin.copy_]
 simp [run_underlying hu,Builtin.lenOf,he.size,hmin]
 rw [hcells]
 simp [hst]
theorem zw6 {α : Type} {T : Ty α} {t e : TypeId} {x y : Operand} {l m : List α} {d : α} {by' off n : Nat} {av : α → AV} {u : Value} {A : AV} (i : Nat) (ho : o.op = .call { callee:=.builtin .copy,args := #[x,y],argTypes := #[t,t] }) (hu : P.underlying t = some (.slice e)) (he : El P T e d by' av) (hx : Opd T0 fr x A) (hM : M[i]? = some (z_ T e u l)) (hA : (A = vA u ∧ off = 0 ∧ n = l.length) ∨ A = rsA T.k u off n) (hn : off + n ≤ l.length)
  (hy : Opd T0 fr y (slA T m)) : AO P T0 ops o fr M (fun A M'=>A = I (m.take n).length ∧ M' = M.set i (z_ T e u (ovr l off (m.take n)))) (fun _ _=>False):=fun w0 G F a w next Qc hs hf hk _=>by
 obtain ⟨ad,sn,sc,e1,e2,_,_,_,e6⟩:=(hy.use (o:=o) (ops:=ops) (by simp [ho,Op.operands,Call.operands]) hs.tab hf).sl
 have hxr:=hx.use (o:=o) (ops:=ops) (by simp [ho,Op.operands,Call.operands]) hs.tab hf
 obtain ⟨hM1,hM2⟩:=xi (F:=F) (m':=z_ T e u (ovr l off (m.take n))) hM
 have hrow:=hs.own _ (List.mem_of_getElem? hM1)
 have hclen : (m.take n).length ≤ n:=by rw [List.length_take]; omega
 have hrun0 : ∀ v w',(Builtin.copy_ #[t,t] o.type #[a.eval x,a.eval y]).run P w = .ok v w' → (execOp a.eval o).run P w = .ok (.value v) w':=fun v w' h=>by
  simp only [execOp,ho,resolve]
  simp [invoke,builtin,h]
 rcases hrow.2 with ⟨h',h0⟩ | ⟨g,cap,cur,h',_,hg,hnc,hcm,hcs,htake⟩
 ·have hl0 : l = []:=List.eq_nil_of_length_eq_zero h0
  rcases hA with ⟨rfl,rfl,rfl⟩ | rfl
  ·have hxe:=hxr.eq
   subst hl0
   have hr : (Builtin.copy_ #[t,t] o.type #[a.eval x,a.eval y]).run P w = .ok (goInt 0) w:=by
    rw [hxe,e1,h']
    cases ad with
    |none=>simp [Builtin.copy_,run_underlying hu,Builtin.lenOf,Builtin.firstCells,he.size]
    |some ad=>simp [Builtin.copy_,run_underlying hu,Builtin.lenOf,Builtin.firstCells,he.size,loadCells,loadCellsFrom]
   have hrun:=hrun0 _ _ hr
   unfold Oper.wp; rw [hrun]
   refine hk (I 0) (M.set i (z_ T e u (ovr [] 0 (m.take 0)))) G _ w ⟨by simp,by simp⟩ (Gh.le.refl _) ?_ (Rep.va _ _)
   have : M.set i (z_ T e u (ovr [] 0 (m.take 0))) = M:=by
    have ho2 : ovr ([] : List α) 0 (m.take 0) = []:=by simp [ovr]
    rw [ho2]
    refine List.ext_getElem? fun j => ?_
    rw [List.getElem?_set]
    split
    ·rename_i hij; subst hij
     split
     ·exact hM.symm
     ·rename_i hnl; exact absurd (List.getElem?_eq_some_iff.1 hM).1 hnl
    ·rfl
   rw [this]; exact hs
  ·obtain ⟨g,N',cap,c',h1,_⟩:=hxr.rs
   rw [h'] at h1; cases h1
 have hx2 : ∃ c',a.eval x = .slice (some ⟨g,off * T.k,none⟩) n c':=by
  rcases hA with ⟨rfl,rfl,rfl⟩ | rfl
  ·exact ⟨cap,by rw [hxr.eq,h',Nat.zero_mul]⟩
  ·obtain ⟨g',N',cap',c',h1,h2⟩:=hxr.rs
   rw [h'] at h1
   simp only [Value.slice.injEq,Option.some.injEq,Addr.mk.injEq,and_true] at h1
   obtain ⟨rfl,_⟩:=h1
   exact ⟨c',h2⟩
 obtain ⟨c',hx2⟩:=hx2
 have hfit1 : off + (m.take n).length ≤ l.length:=by omega
 have hb1 : (off + (m.take n).length) * T.k ≤ l.length * T.k:=Nat.mul_le_mul_right _ hfit1
 have hcap : l.length * T.k ≤ cur.size:=by rw [hcs]; exact Nat.mul_le_mul_right _ hnc
 have hr:=zor (P:=P) (T:=T) (t:=t) (ty:=o.type) (w:=w) (cur:=cur) (p:=off * T.k) (n:=n) (c':=c') (a:=ad) (sn:=sn) (sc:=sc) (m:=m) hu he hg e2 (fun hm=>let ⟨b,of,f1,f2⟩:=e6 hm; ⟨b,of,f1,fun j v hv=>hs.imm _ _ _ (f2 j v hv)⟩) (by rw [Nat.add_mul] at hb1; omega)
 rw [← hx2,← e1] at hr
 have hrun:=hrun0 _ _ hr
 unfold Oper.wp; rw [hrun]
 generalize m.take n = c at *
 refine hk (I (c).length) (M.set i (z_ T e u (ovr l off (c)))) G _ _ ⟨rfl,rfl⟩ (Gh.le.refl _) ?_ (Rep.va _ _)
 rw [← hM2]
 refine hs.grown hM1 ⟨rfl,rfl,rfl,by simp,fun k _ hk=>setRow_other w g k _ (fun e=>hk (by rw [h']; simp [z_,Value.ownBlock,e]))⟩ ?_ (fun b hb => ?_)
 ·have hlen:=j7 (c:=c) hfit1
  have hE : ((c).flatMap T.enc).length = (c).length * T.k:=zei T _
  have hsz : (cur.toList.take (off * T.k) ++ (c).flatMap T.enc ++ cur.toList.drop (off * T.k + (c).length * T.k)).length = cur.size:=by
   rw [Nat.add_mul] at hb1
   simp only [List.length_append,List.length_take,List.length_drop,hE,Array.length_toList]; omega
  refine ⟨by rw [zei],.inr ⟨g,cap,_,by rw [hlen]; exact h',Nat.zero_le _,setRow_heap w g cur _ e _ hg,by rw [hlen]; exact hnc,hcm, ?_, ?_⟩⟩
  ·rw [← hcs]; simpa using hsz
  ·rw [hlen]
   have h1 : (ovr l off (c)).flatMap T.enc = (l.flatMap T.enc).take (off * T.k) ++ (c).flatMap T.enc ++ (l.flatMap T.enc).drop (off * T.k + (c).length * T.k):=by
    rw [ovr,List.flatMap_append,List.flatMap_append,kc,kw,Nat.add_mul]
   rw [h1,← htake]
   rw [Nat.add_mul] at hb1
   exact ze9 cur.toList _ (off * T.k) _ (l.length * T.k) hE (by omega) (by simpa using hcap)
 ·refine ⟨.inl hb, ?_⟩
  have hb' : u.ownBlock = some b:=hb
  rw [h'] at hb'
  obtain rfl:=Option.some.inj (show some g = some b from hb')
  simpa using (Array.getElem?_eq_some_iff.1 hg).1
theorem zob {α : Type} {T : Ty α} {t e : TypeId} {x y : Operand} {l m : List α} {d : α} {by' : Nat} {av : α → AV} {u : Value} (i : Nat) (ho : o.op = .call { callee:=.builtin .copy,args := #[x,y],argTypes := #[t,t] }) (hu : P.underlying t = some (.slice e)) (he : El P T e d by' av) (hx : Opd T0 fr x (vA u)) (hM : M[i]? = some (z_ T e u l))
  (hy : Opd T0 fr y (slA T m)) : AO P T0 ops o fr M (fun A M'=>A = I (m.take l.length).length ∧ M' = M.set i (z_ T e u (ovr l 0 (m.take l.length)))) (fun _ _=>False):=zw6 i ho hu he hx hM (.inl ⟨rfl,rfl,rfl⟩) (by omega) hy
theorem zoa {α : Type} {T : Ty α} {t e : TypeId} {x y : Operand} {l m : List α} {d : α} {by' off n : Nat} {av : α → AV} {u : Value} (i : Nat) (ho : o.op = .call { callee:=.builtin .copy,args := #[x,y],argTypes := #[t,t] }) (hu : P.underlying t = some (.slice e)) (he : El P T e d by' av) (hx : Opd T0 fr x (rsA T.k u off n)) (hM : M[i]? = some (z_ T e u l)) (hn : off + n ≤ l.length)
  (hy : Opd T0 fr y (slA T m)) : AO P T0 ops o fr M (fun A M'=>A = I (m.take n).length ∧ M' = M.set i (z_ T e u (ovr l off (m.take n)))) (fun _ _=>False):=zw6 i ho hu he hx hM (.inr rfl) hn hy
theorem z1x {ts : Array TypeId} {x y : Operand} {k : IntKind} {a b : Nat} (ho : o.op = .call { callee:=.builtin .min,args := #[x,y],argTypes:=ts }) (hx : xh T0 fr x k a) (hy : xh T0 fr y k b) : AY P T0 ops o fr M (vA (.int k ((min a b : Nat) : Int))):=xd fun w0 G F ac w hs hf=>by
 have e1:=((show Opd T0 fr x (vA (.int k (a : Int))) from hx).use (o:=o) (ops:=ops) (by simp [ho,Op.operands,Call.operands]) hs.tab hf).eq
 have e2:=((show Opd T0 fr y (vA (.int k (b : Int))) from hy).use (o:=o) (ops:=ops) (by simp [ho,Op.operands,Call.operands]) hs.tab hf).eq
 have hm : min (a : Int) (b : Int) = ((min a b : Nat) : Int):=by omega
 refine ⟨.int k ((min a b : Nat) : Int), ?_,Rep.va _ _⟩
 simp only [execOp,ho,resolve]
 simp [invoke,builtin,e1,e2,Go.Lib.run_min_ints,hm]
theorem zan {t e : TypeId} {b : Nat} {cells : List AV} {G : Gh} {w : World} (ha : ∀ w,(isAgg t).run P w = .ok true w) (hz : ∀ w,(sizeOf t).run P w = .ok cells.length w) (h : (qh b e cells).holds G w) : ∃ u,(loadVar t ⟨b,0,none⟩).run P w = .ok u w ∧ Rep G (qb cells) u:=by
 obtain ⟨cs,h3,h4⟩:=zcd h
 have hl:=run_loadCells_list (P:=P) (w:=w) ⟨b,0,none⟩ cs (fun j v hv=>by
  rw [Addr.add_lit,cell_of_row _ _ _ _ _ _ h3]; simpa using hv)
 rw [h4.len] at hl
 refine ⟨.agg cs.toArray, ?_,.of ⟨_,rfl,h4⟩⟩
 simp only [loadVar]
 simp [ha,hz,hl]
theorem z97 {fn : Func} {s t e : Nat} {b : Nat} {cells : List AV} (i : Nat) (h : fn.results = #[.cell s t]) (hs : fr.get s = some (vA (.pointer (some ⟨b,0,none⟩)))) (hM : M[i]? = some (qh b e cells)) (ha : ∀ w,(isAgg t).run P w = .ok true w) (hz : ∀ w,(sizeOf t).run P w = .ok cells.length w) : zi3 P T0 fn fr M (qb cells):=fun w0 G F tmps w st hr=>by
 obtain ⟨u,h1,h2⟩:=zan ha hz (st.own _ (List.mem_of_getElem? (xi (F:=F) (m':=qh b e cells) hM).1))
 have h3 : tmps.getD s undef = .pointer (some ⟨b,0,none⟩):=(ki hr hs).eq
 refine ⟨u, ?_,h2⟩
 have h5 : tmps[s]?.getD undef = .pointer (some ⟨b,0,none⟩):=by simpa using h3
 simp only [results,h]
 simp [h5,asAddr,h1]
theorem z96 {fn : Func} {s t s' e : Nat} {b : Nat} {cells : List AV} {A : AV} (i : Nat) (h : fn.results = #[.cell s t,.tmp s']) (hs : fr.get s = some (vA (.pointer (some ⟨b,0,none⟩)))) (hs' : fr.get s' = some A) (hM : M[i]? = some (qh b e cells)) (ha : ∀ w,(isAgg t).run P w = .ok true w) (hz : ∀ w,(sizeOf t).run P w = .ok cells.length w) : zi3 P T0 fn fr M (zy [qb cells,A]):=fun w0 G F tmps w st hr=>by
 obtain ⟨u,h1,h2⟩:=zan ha hz (st.own _ (List.mem_of_getElem? (xi (F:=F) (m':=qh b e cells) hM).1))
 have h3 : tmps.getD s undef = .pointer (some ⟨b,0,none⟩):=(ki hr hs).eq
 have h4:=ki hr hs'
 refine ⟨.tuple #[u,tmps.getD s' undef], ?_,.of ⟨[_,_],rfl,h2,h4,trivial⟩⟩
 have h5 : tmps[s]?.getD undef = .pointer (some ⟨b,0,none⟩):=by simpa using h3
 simp only [results,h]
 simp [h5,asAddr,h1]
end
end
section
open Go Go.RowKit
inductive UpdF (m : Own) : List Own → (Own → List Own) → Prop
 |here {s : List Own} : UpdF m (m :: s) (fun m'=>m' :: s)
 |next {a : Own} {s : List Own} {f : Own → List Own} (h : UpdF m s f) : UpdF m (a :: s) (fun m'=>a :: f m')
theorem UpdF.spec {m : Own} {M : List Own} {f : Own → List Own} (h : UpdF m M f) : ∃ i,M[i]? = some m ∧ ∀ m',f m' = M.set i m':=by
 induction h with
 |here=>exact ⟨0,rfl,fun _=>rfl⟩
 |next h ih=>obtain ⟨i,h1,h2⟩:=ih; exact ⟨i + 1,by simpa using h1,fun m'=>congrArg (List.cons _) (h2 m')⟩
inductive SubC : List AV → Nat → Nat → List AV → Prop
 |nil {s : List AV} : SubC s 0 0 []
 |here {a : AV} {s r : List AV} {n : Nat} (h : SubC s 0 n r) : SubC (a :: s) 0 (n + 1) (a :: r)
 |next {a : AV} {s r : List AV} {off n : Nat} (h : SubC s off n r) : SubC (a :: s) (off + 1) n r
theorem SubC.spec {s r : List AV} {off n : Nat} (h : SubC s off n r) : (s.drop off).take n = r ∧ off + n ≤ s.length ∧ (s.take (off + n)).drop off = r:=by
 induction h with
 |nil=>simp
 |here h ih=>obtain ⟨h1,h2,h3⟩:=ih; refine ⟨by simpa using h1,by simp only [List.length_cons]; omega, ?_⟩; simp at h3 ⊢; exact h3
 |next h ih=>obtain ⟨h1,h2,h3⟩:=ih; refine ⟨by simpa using h1,by simp only [List.length_cons]; omega, ?_⟩
             rw [Nat.add_right_comm]; simpa using h3
inductive Pick (m : Own) : List Own → List Own → Prop
 |here {s : List Own} : Pick m (m :: s) s
 |next {a : Own} {s r : List Own} (h : Pick m s r) : Pick m (a :: s) (a :: r)
theorem Pick.perm {m : Own} {M M' : List Own} (h : Pick m M M') : List.Perm (m :: M') M:=by
 induction h with
 |here=>exact List.Perm.refl _
 |next h ih=>exact (List.Perm.swap _ _ _).trans (ih.cons _)
section
variable {P : Program} {T0 : Gh} {N : Fz} {Q : ko} {fr : Fr} {M M' : List Own} {ops : Array Oper} {o : Oper} {rest : List Oper} {x0 : Nat}
theorem z65 {α : Type} {T : Ty α} {t e e' : TypeId} {l : List α} {u : Value} (hu : P.underlying t = some (.slice e')) (hM : z_ T e u l ∈ M) : LnK P T0 M t (vA u) (I l.length):=let ⟨i,h⟩:=List.getElem?_of_mem hM; z6z i hu h
theorem z_o {α : Type} {T : Ty α} {t e : TypeId} {l : List α} {d : α} {by' n : Nat} {av : α → AV} {u : Value} (hu : P.underlying t = some (.slice e)) (he : El P T e d by' av) (hM : z_ T e u l ∈ M) (hn : n < l.length) : IxK P T0 M t (vA u) n (rpA u (n * T.k)):=let ⟨i,h⟩:=List.getElem?_of_mem hM; z6_ i hu he h hn
theorem z_m {t e : TypeId} {b off : Nat} {cells : List AV} {A : AV} (ha : ∀ w,(isAgg t).run P w = .ok false w) (hM : qh b e cells ∈ M) (hA : cells[off]? = some A) : LdK P T0 M t (vA (.pointer (some ⟨b,off,none⟩))) A:=let ⟨i,h⟩:=List.getElem?_of_mem hM; z_s i ha h hA
theorem z_l {t e : TypeId} {b off n : Nat} {cells l : List AV} (ha : ∀ w,(isAgg t).run P w = .ok true w) (hz : ∀ w,(sizeOf t).run P w = .ok n w) (hM : qh b e cells ∈ M) (hl : SubC cells off n l) : LdK P T0 M t (vA (.pointer (some ⟨b,off,none⟩))) (qb l):=by
 obtain ⟨i,h⟩:=List.getElem?_of_mem hM
 obtain ⟨h1,h2,_⟩:=hl.spec
 rw [← h1]
 exact z_r i ha hz h (Nat.ble_eq_true_of_le h2)
theorem z_n {α : Type} {T : Ty α} {t e : TypeId} {l : List α} {off n : Nat} {z : α} {u v : Value} (ha : ∀ w,(isAgg t).run P w = .ok false w) (hM : z_ T e u l ∈ M) (hz : l[n]? = some z) (hv : (T.enc z)[off]? = some v) : LdK P T0 M t (rpA u (n * T.k + off)) (vA v):=let ⟨i,h⟩:=List.getElem?_of_mem hM; z_t i ha h hz hv
theorem zo7 {α : Type} {T : Ty α} {t e : TypeId} {x y z : Operand} {l : List α} {d : α} {by' a b : Nat} {k k' : IntKind} {av : α → AV} {u : Value} (ho : o.op = .slice t x (some y) (some z) none) (hu : P.underlying t = some (.slice e)) (he : El P T e d by' av) (hx : Opd T0 fr x (vA u)) (hM : z_ T e u l ∈ M) (hy : xh T0 fr y k a) (hz : xh T0 fr z k' b) (h1 : a < b) (h2 : b ≤ l.length) :
  AY P T0 ops o fr M (rsA T.k u a (b - a)):=let ⟨i,h⟩:=List.getElem?_of_mem hM; zl9 i ho hu he hx h hy hz h1 h2
theorem z95 {fn : Func} {s t e : Nat} {b n : Nat} {cells : List AV} (h : fn.results = #[.cell s t]) (hs : fr.get s = some (vA (.pointer (some ⟨b,0,none⟩)))) (hM : qh b e cells ∈ M) (ha : ∀ w,(isAgg t).run P w = .ok true w) (hz : ∀ w,(sizeOf t).run P w = .ok n w) (hl : cells.length = n) : zi3 P T0 fn fr M (qb cells):=let ⟨i,k⟩:=List.getElem?_of_mem hM; z97 i h hs k ha (by rw [hl]; exact hz)
theorem z94 {fn : Func} {s t s' e : Nat} {b n : Nat} {cells : List AV} {A : AV} (h : fn.results = #[.cell s t,.tmp s']) (hs : fr.get s = some (vA (.pointer (some ⟨b,0,none⟩)))) (hs' : fr.get s' = some A) (hM : qh b e cells ∈ M) (ha : ∀ w,(isAgg t).run P w = .ok true w) (hz : ∀ w,(sizeOf t).run P w = .ok n w) (hl : cells.length = n) : zi3 P T0 fn fr M (zy [qb cells,A]):=let ⟨i,k⟩:=List.getElem?_of_mem hM; z96 i h hs hs' k ha (by rw [hl]; exact hz)
theorem zc4 (p : List.Perm M' M) : Ent T0 fr M fr M':=fun _ G F _ _ s r=>⟨G,Gh.le.refl _,s.perm (p.append_right F),r⟩
theorem qq {α : Type} {T : Ty α} {e : TypeId} {u : Value} {l : List α} {ol : List Oper} (hM : z_ T e u l ∈ M) (h : u.cells = #[u] → u.oneCell' = true → AL P T0 N false ops Q ol fr M) : AL P T0 N false ops Q ol fr M:=by
 have e : ∀ p : u.cells = #[u] ∧ u.oneCell' = true,AL P T0 N false ops Q ol fr M:=fun p=>h p.1 p.2
 simp only [AL,Bool.false_eq_true,if_false] at e ⊢
 exact fun w0 G F a w hc=>e (zte (hc.st.own _ (List.mem_append_left F hM))) w0 G F a w hc
theorem z5b {α : Type} {T : Ty α} {e : TypeId} {u : Value} {l : List α} {c : Code} (hM : z_ T e u l ∈ M) (h : u.cells = #[u] → u.oneCell' = true → AW P T0 N c Q fr M) : AW P T0 N c Q fr M:=fun w0 G F a w hc=>by
 have h1:=zte (hc.st.own _ (List.mem_append_left F hM))
 exact h h1.1 h1.2 w0 G F a w hc
theorem zmo {t e : TypeId} {x y : Operand} {b off n : Nat} {cells cells' l : List AV} {A : AV} {f : Own → List Own} (hg : o.guard = none) (hd : o.dst = none) (ho : o.op = .store t x y) (hz : ∀ w,(sizeOf t).run P w = .ok n w) (hx : Opd T0 fr x (vA (.pointer (some ⟨b,off,none⟩)))) (hy : Opd T0 fr y A) (hc : kg A l) (hl : l.length = n) (h1 : OnesA l) (hU : UpdF (qh b e cells) M f) (hs : SetC cells off l cells')
  (h : AL P T0 N false ops Q rest fr (f (qh b e cells'))) : AL P T0 N false ops Q (o :: rest) fr M:=by
 obtain ⟨i,k1,k2⟩:=hU.spec
 obtain ⟨k3,k4⟩:=hs.spec
 subst hl; subst k4
 refine zse hg (zeu i ho hz k1 hx hy hc h1 k3) hd (fun _ _ h=>h.elim) ?_
 rintro _ _ rfl
 rw [k2] at h; exact h
theorem zmp {α : Type} {T : Ty α} {e : TypeId} {x y : Operand} {l : List α} {d z : α} {by' : Nat} {av : α → AV} {n : Nat} {u : Value} {A : AV} {f : Own → List Own} (hg : o.guard = none) (hd : o.dst = none) (ho : o.op = .store e x y) (he : El P T e d by' av) (hx : Opd T0 fr x (rpA u (n * T.k))) (hy : Opd T0 fr y A) (hU : UpdF (z_ T e u l) M f) (hn : n < l.length) (hc : kg A ((T.enc z).map vA))
  (h : AL P T0 N false ops Q rest fr (f (z_ T e u (l.set n z)))) : AL P T0 N false ops Q (o :: rest) fr M:=by
 obtain ⟨i,k1,k2⟩:=hU.spec
 refine zse hg (zmm i ho he k1 hx hn hy hc) hd (fun _ _ h=>h.elim) ?_
 rintro _ _ rfl
 rw [k2] at h; exact h
theorem zxc {α : Type} {T : Ty α} {t e : TypeId} {x y : Operand} {l m : List α} {d : α} {by' : Nat} {av : α → AV} {u : Value} {f : Own → List Own} (hg : o.guard = none) (hd : o.dst = some x0) (hN : Nat.blt x0 N.n = true) (ho : o.op = .call { callee:=.builtin .append,args := #[x,y],argTypes := #[t,t] }) (hu : P.underlying t = some (.slice e)) (he : El P T e d by' av) (hx : Opd T0 fr x (vA u)) (hy : Opd T0 fr y (slA T m))
  (hU : UpdF (z_ T e u l) M f) (hn : (l.length + m.length) * by' ≤ 140737488355328) (hm : l.length + m.length ≤ maxLen) (h : ∀ u',u'.cells = #[u'] → u'.oneCell' = true → AL P T0 N false ops Q rest ((x0,vA u') :: fr) (f (z_ T e u' (l ++ m)))) : AL P T0 N false ops Q (o :: rest) fr M:=by
 obtain ⟨i,k1,k2⟩:=hU.spec
 refine zdh hg (zw8 i ho hu he hx k1 hy hn hm) hd hN (fun _ _ h=>h.elim) ?_
 rintro _ _ ⟨u',rfl,rfl⟩
 have hi : i < M.length:=(List.getElem?_eq_some_iff.1 k1).1
 refine qq (T:=T) (e:=e) (u:=u') (l:=l ++ m) (List.mem_of_getElem? (i:=i) (by rw [List.getElem?_set]; simp [hi])) fun a b => ?_
 have:=h u' a b
 rw [k2] at this; exact this
theorem z5g {α : Type} {T : Ty α} {t e : TypeId} {x y : Operand} {n : Nat} {d : α} {by' : Nat} {av : α → AV} {k k' : IntKind} (hg : o.guard = none) (hd : o.dst = some x0) (hN : Nat.blt x0 N.n = true) (ho : o.op = .makeSlice t x y) (hu : P.underlying t = some (.slice e)) (he : El P T e d by' av) (hx : xh T0 fr x k n) (hy : xh T0 fr y k' n)
  (hn : by' * n ≤ 140737488355328) (hm : n ≤ maxLen) (h : ∀ u',u'.cells = #[u'] → u'.oneCell' = true → AL P T0 N false ops Q rest ((x0,vA u') :: fr) (z_ T e u' (List.replicate n d) :: M)) : AL P T0 N false ops Q (o :: rest) fr M:=by
 refine zdh hg (zw5 ho hu he hx hy hn hm) hd hN (fun _ _ h=>h.elim) ?_
 rintro _ _ ⟨u',rfl,rfl⟩
 exact qq (List.Mem.head _) fun a b=>h u' a b
theorem z1d {e : TypeId} {zs : List Value} {z : Value} {Z : List AV} (hg : o.guard = none) (hd : o.dst = some x0) (hN : Nat.blt x0 N.n = true) (ho : o.op = .alloc e) (hz : (P.info? e).map (·.zero) = some (some z) ∧ z.cells.toList = zs ∧ Z = zs.map vA) (h : ∀ b,AL P T0 N false ops Q rest ((x0,vA (.pointer (some ⟨b,0,none⟩))) :: fr) (qh b e Z :: M)) : AL P T0 N false ops Q (o :: rest) fr M:=by
 obtain ⟨h1,h2,rfl⟩:=hz
 refine zdh hg (zqd ho h1 h2) hd hN (fun _ _ h=>h.elim) ?_
 rintro _ _ ⟨b,rfl,rfl⟩
 exact h b
theorem z85 {e : TypeId} {x : Operand} {A : AV} {l : List AV} (hg : o.guard = none) (hd : o.dst = some x0) (hN : Nat.blt x0 N.n = true) (ho : o.op = .box e x) (hx : Opd T0 fr x A) (hc : kg A l) (h : ∀ b,AL P T0 N false ops Q rest ((x0,vA (.pointer (some ⟨b,0,none⟩))) :: fr) (qh b e l :: M)) : AL P T0 N false ops Q (o :: rest) fr M:=by
 refine zdh hg (z8z ho hx hc) hd hN (fun _ _ h=>h.elim) ?_
 rintro _ _ ⟨b,rfl,rfl⟩
 exact h b
theorem zoe {α : Type} {T : Ty α} {t e : TypeId} {x y : Operand} {l m : List α} {d : α} {by' : Nat} {av : α → AV} {u : Value} {f : Own → List Own} (hg : o.guard = none) (hd : o.dst = some x0) (hN : Nat.blt x0 N.n = true) (ho : o.op = .call { callee:=.builtin .copy,args := #[x,y],argTypes := #[t,t] }) (hu : P.underlying t = some (.slice e)) (he : El P T e d by' av) (hx : Opd T0 fr x (vA u)) (hy : Opd T0 fr y (slA T m)) (hU : UpdF (z_ T e u l) M f)
  (h : AL P T0 N false ops Q rest ((x0,I (m.take l.length).length) :: fr) (f (z_ T e u (ovr l 0 (m.take l.length))))) : AL P T0 N false ops Q (o :: rest) fr M:=by
 obtain ⟨i,k1,k2⟩:=hU.spec
 refine zdh hg (zob i ho hu he hx k1 hy) hd hN (fun _ _ h=>h.elim) ?_
 rintro _ _ ⟨rfl,rfl⟩
 rw [k2] at h; exact h
theorem zod {α : Type} {T : Ty α} {t e : TypeId} {x y : Operand} {l m : List α} {d : α} {by' off n : Nat} {av : α → AV} {u : Value} {f : Own → List Own} (hg : o.guard = none) (hd : o.dst = some x0) (hN : Nat.blt x0 N.n = true) (ho : o.op = .call { callee:=.builtin .copy,args := #[x,y],argTypes := #[t,t] }) (hu : P.underlying t = some (.slice e)) (he : El P T e d by' av) (hx : Opd T0 fr x (rsA T.k u off n)) (hy : Opd T0 fr y (slA T m)) (hU : UpdF (z_ T e u l) M f) (hn : off + n ≤ l.length)
  (h : AL P T0 N false ops Q rest ((x0,I (m.take n).length) :: fr) (f (z_ T e u (ovr l off (m.take n))))) : AL P T0 N false ops Q (o :: rest) fr M:=by
 obtain ⟨i,k1,k2⟩:=hU.spec
 refine zdh hg (zoa i ho hu he hx k1 hn hy) hd hN (fun _ _ h=>h.elim) ?_
 rintro _ _ ⟨rfl,rfl⟩
 rw [k2] at h; exact h
theorem zb {f : FuncId} {args : Array Operand} {ts : Array TypeId} {As : List AV} {m : Own} {K : AV → List Own → Prop} (hg : o.guard = none) (hd : o.dst = some x0) (hN : Nat.blt x0 N.n = true) (ho : o.op = .call { callee:=.value (.func f),args:=args,argTypes:=ts }) (ha : OpdAll T0 fr args.toList As) (c : AF P T0 f As [m] K) (hM : Pick m M M')
  (h : ∀ A M1,K A M1 → AL P T0 N false ops Q rest ((x0,A) :: fr) (M1 ++ M')) : AL P T0 N false ops Q (o :: rest) fr M:=by
 refine zqi (zc4 hM.perm) ?_
 refine zdh hg (zhr ho ha c rfl) hd hN (fun _ _ h=>by obtain ⟨_,_,h⟩:=h; exact h.elim) ?_
 rintro A _ ⟨M1,rfl,k⟩
 exact h A M1 k
theorem zt {f : FuncId} {args : Array Operand} {ts : Array TypeId} {As : List AV} {K : AV → List Own → Prop} (hg : o.guard = none) (hd : o.dst = some x0) (hN : Nat.blt x0 N.n = true) (ho : o.op = .call { callee:=.value (.func f),args:=args,argTypes:=ts }) (ha : OpdAll T0 fr args.toList As) (c : AF P T0 f As [] K)
  (h : ∀ A M1,K A M1 → AL P T0 N false ops Q rest ((x0,A) :: fr) (M1 ++ M)) : AL P T0 N false ops Q (o :: rest) fr M:=by
 refine zdh hg (zhr (M1:=[]) ho ha c rfl) hd hN (fun _ _ h=>by obtain ⟨_,_,h⟩:=h; exact h.elim) ?_
 rintro A _ ⟨M1,rfl,k⟩
 exact h A M1 k
theorem ze6 {c : Code} {σ : Type} (fs : σ → Fr) (ms : σ → List Own) (inv : σ → Prop) (μ : σ → Nat) (s0 : σ) (h0 : inv s0) (hf0 : Weak fr (fs s0)) (hm0 : List.Sublist (ms s0) M)
  (round : ∀ s,inv s → AW P T0 N c (zz (fun fr' M' => ∃ s',inv s' ∧ μ s' < μ s ∧ Weak fr' (fs s') ∧ List.Sublist (ms s') M') Q) (fs s) (ms s)) : AW P T0 N (.loop c) Q fr M:=by
 refine zw3 (fun n fr M => ∃ s,inv s ∧ n = μ s ∧ Weak fr (fs s) ∧ List.Sublist (ms s) M) (μ s0) ⟨s0,h0,rfl,hf0,hm0⟩ ?_
 rintro n fr M ⟨s,h1,rfl,h2,h3⟩
 refine zqc (z0n h3) (zn9 h2 (AW.mono (round s h1) fun e fr' M' q => ?_))
 cases e with
 |normal=>obtain ⟨s',a1,a2,a3,a4⟩:=q; exact ⟨μ s',a2,s',a1,rfl,a3,a4⟩
 |_=>exact q
theorem z2n {c : Code} {σ τ : Type} (fs : σ → τ → Fr) (ms : σ → τ → List Own) (inv : σ → τ → Prop) (μ : σ → τ → Nat) (s0 : σ) (t0 : τ) (h0 : inv s0 t0) (hf0 : Weak fr (fs s0 t0)) (hm0 : List.Sublist (ms s0 t0) M)
  (round : ∀ s t,inv s t → AW P T0 N c (zz (fun fr' M' => ∃ s' t',inv s' t' ∧ μ s' t' < μ s t ∧ Weak fr' (fs s' t') ∧ List.Sublist (ms s' t') M') Q) (fs s t) (ms s t)) : AW P T0 N (.loop c) Q fr M :=
 ze6 (fun x : σ × τ=>fs x.1 x.2) (fun x=>ms x.1 x.2) (fun x=>inv x.1 x.2) (fun x=>μ x.1 x.2) (s0,t0) h0 hf0 hm0 fun x hx=>AW.mono (round x.1 x.2 hx) fun e fr' M' q=>by
  cases e with
  |normal=>obtain ⟨s',t',a⟩:=q; exact ⟨(s',t'),a⟩
  |_=>exact q
theorem AF.frz1 {α : Type} {T : Ty α} {e : TypeId} {f : FuncId} {As : List AV} {l : List α} {F : Value → AV} {A' : AV} {M0 : List Own} (h : AF P T0 f As M0 (fun A M' => ∃ u,A = F u ∧ M' = [z_ T e u l])) (hz : ∀ u,FzA u T l (F u) A') : AF P T0 f As M0 (fun A M'=>Sub A A' ∧ M' = []) :=
 h.freeze fun A M' q=>by
  obtain ⟨u,rfl,rfl⟩:=q
  exact ⟨α,T,e,u,l,0,A',rfl,hz u,Sub.refl _,rfl⟩
end
end
section
open Go Go.RowKit
def kz : List (Int × Int):=[(4352,4447),(11904,12350),(12353,42191),(44032,55203),(63744,64255),(65072,65135),(65281,65376),(65504,65510),(127744,128591),(129280,129535),(131072,262141)]
def zf_ : List Value:=kz.flatMap fun p=>[.int .i32 p.1,.int .i32 p.2]
def zej : List Value:=(List.range 256).map fun b=>.int .u8 (Go.Lib.firstT b : Nat)
def z1e : List Value:=(List.range 16).flatMap fun i=>[.int .u8 (Go.Lib.accLo i : Nat),.int .u8 (Go.Lib.accHi i : Nat)]
def z22 : Gh:=fun b o=>if b = 0 then zf_[o]? else none
def zmz : Gh:=fun b o=>if b = 1 then zej[o]? else if b = 2 then z1e[o]? else none
class TabS (T : Gh) : Prop where h : Gh.le z22 T
class TabU (T : Gh) : Prop where h : Gh.le zmz T
theorem yq {t : TypeId} {P : Program} (h : (match P.underlying t with | some (.struct _)=>true | some (.array _ _)=>true | some _=>false | none=>true) = false) (w : World) : (isAgg t).run P w = .ok false w:=by
 cases hu : P.underlying t with
 |none=>simp [hu] at h
 |some d=>cases d <;> simp [hu] at h <;> simp [isAgg,run_underlying hu]
theorem kf {t : TypeId} {P : Program} (h : (match P.underlying t with | some (.struct _)=>true | some (.array _ _)=>true | some _=>false | none=>false) = true) (w : World) : (isAgg t).run P w = .ok true w:=by
 cases hu : P.underlying t with
 |none=>simp [hu] at h
 |some d=>cases d <;> simp [hu] at h <;> simp [isAgg,run_underlying hu]
theorem xg {t : TypeId} {P : Program} {n : Nat} (h : (P.info? t).map (·.size) = some n) (w : World) : (sizeOf t).run P w = .ok n w:=by
 obtain ⟨i,h1,h2⟩:=Option.map_eq_some_iff.1 h
 simp [sizeOf,typeInfo,h1,h2]
theorem jn {t : TypeId} {P : Program} {n : Nat} (h : (P.info? t).map (·.size) = some (n + 1)) (w : World) : ∃ n,(sizeOf t).run P w = .ok (n + 1) w:=⟨n,xg h w⟩
class UnC (t : TypeId) (d : outParam TypeDesc) : Prop where h : Tryz.prog.underlying t = some d
class ElC {α : outParam Type} (e : TypeId) (T : outParam (Ty α)) (d : outParam α) (by' : outParam Nat) (av : outParam (α → AV)) : Prop where h : El Tryz.prog T e d by' av
class AggC (t : TypeId) (b : outParam Bool) : Prop where h : ∀ w,(isAgg t).run Tryz.prog w = .ok b w
class SzC (t : TypeId) (n : outParam Nat) : Prop where h : ∀ w,(sizeOf t).run Tryz.prog w = .ok n w
class SpC (t : TypeId) : Prop where h : ∀ w,∃ n,(sizeOf t).run Tryz.prog w = .ok (n + 1) w
class FldC (t i : Nat) (off : outParam Nat) (ft : outParam TypeId) : Prop where h : Fld Tryz.prog t i off ft
class StC (t : TypeId) (Z : outParam (List AV)) (pl : outParam (List (Nat × Nat))) : Prop where h : StT Tryz.prog t Z pl
class AlC (t : TypeId) (z : outParam Value) (zs : outParam (List Value)) (Z : outParam (List AV)) : Prop where h : (Tryz.prog.info? t).map (·.zero) = some (some z) ∧ z.cells.toList = zs ∧ Z = zs.map vA
theorem al_ {t : TypeId} {z : Value} {zs : List Value} {Z : List AV} [c : AlC t z zs Z] : (Tryz.prog.info? t).map (·.zero) = some (some z) ∧ z.cells.toList = zs ∧ Z = zs.map vA:=c.h
theorem un_ {t : TypeId} {d : TypeDesc} [c : UnC t d] : Tryz.prog.underlying t = some d:=c.h
theorem el_ {α : Type} {e : TypeId} {T : Ty α} {d : α} {by' : Nat} {av : α → AV} [c : ElC e T d by' av] : El Tryz.prog T e d by' av:=c.h
theorem zku {t : TypeId} {b : Bool} [c : AggC t b] : ∀ w,(isAgg t).run Tryz.prog w = .ok b w:=c.h
theorem sz_ {t : TypeId} {n : Nat} [c : SzC t n] : ∀ w,(sizeOf t).run Tryz.prog w = .ok n w:=c.h
theorem sp_ {t : TypeId} [c : SpC t] : ∀ w,∃ n,(sizeOf t).run Tryz.prog w = .ok (n + 1) w:=c.h
theorem fl_ {t i off : Nat} {ft : TypeId} [c : FldC t i off ft] : Fld Tryz.prog t i off ft:=c.h
theorem st_ {t : TypeId} {Z : List AV} {pl : List (Nat × Nat)} [c : StC t Z pl] : StT Tryz.prog t Z pl:=c.h
theorem v1_ {T0 : Gh} {M : List Own} {t e : TypeId} {b off : Nat} {cells : List AV} {A : AV} [c : AggC t false] (hM : qh b e cells ∈ M) (hA : cells[off]? = some A) : LdK Tryz.prog T0 M t (vA (.pointer (some ⟨b,off,none⟩))) A:=z_m c.h hM hA
theorem vn_ {T0 : Gh} {M : List Own} {t e : TypeId} {b off n : Nat} {cells l : List AV} [c : AggC t true] [z : SzC t n] (hM : qh b e cells ∈ M) (hl : SubC cells off n l) : LdK Tryz.prog T0 M t (vA (.pointer (some ⟨b,off,none⟩))) (qb l):=z_l c.h z.h hM hl
theorem r1_ {α : Type} {T : Ty α} {T0 : Gh} {M : List Own} {t e : TypeId} {l : List α} {off n : Nat} {z : α} {u v : Value} [c : AggC t false] (hM : z_ T e u l ∈ M) (hz : l[n]? = some z) (hv : (T.enc z)[off]? = some v) : LdK Tryz.prog T0 M t (rpA u (n * T.k + off)) (vA v):=z_n c.h hM hz hv
abbrev zp:=Int × Int
def qs : Ty zp:={ enc:=fun c=>[.int .i32 c.1,.int .i64 c.2],k:=2,len:=fun _=>rfl }
def zh6 (c : zp) : AV:=qb [R c.1,I c.2]
theorem znz : El Tryz.prog qs 87 (0,0) 16 zh6:=⟨⟨.agg #[.int .i32 0,.int .i64 0],by kernel_rfl,rfl⟩,by decide,fun x v hv=>by simp [qs] at hv; rcases hv with rfl | rfl <;> rfl,.inl ⟨kf (by kernel_rfl),fun x=>rfl⟩⟩
instance qf0 : ElC 87 qs (0,0) 16 zh6:=⟨znz⟩
theorem z24 : StT Tryz.prog 87 [R 0,I 0] [(0,1),(1,1)]:=StT.mk' _ [.int .i32 0,.int .i64 0] Tryz.underlying87 (by kernel_rfl) (by kernel_rfl)
instance qfk : StC 87 [R 0,I 0] [(0,1),(1,1)]:=⟨z24⟩
theorem zmw : Tryz.prog.underlying 87 = some (.struct #[{ name := "R",type:=21,offset:=0,embedded:=false,tag := "",pkgPath := "",byteOffset:=0 },{ name := "K",type:=3,offset:=1,embedded:=false,tag := "",pkgPath := "",byteOffset:=8 }]):=Tryz.underlying87
theorem zu5 : Fld Tryz.prog 87 0 0 21:=⟨_,_,zmw,rfl,rfl,rfl⟩
instance qfy : FldC 87 0 0 21:=⟨zu5⟩
theorem zu6 : Fld Tryz.prog 87 1 1 3:=⟨_,_,zmw,rfl,rfl,rfl⟩
instance qfx : FldC 87 1 1 3:=⟨zu6⟩
theorem zsr : ∀ w,(isAgg 87).run Tryz.prog w = .ok true w:=kf (by kernel_rfl)
instance qf_ : AggC 87 true:=⟨zsr⟩
theorem zs2 : ∀ w,(sizeOf 87).run Tryz.prog w = .ok 2 w:=xg (by kernel_rfl)
instance qff : SzC 87 2:=⟨zs2⟩
theorem zdq : Tryz.prog.underlying 4 = some .bool:=Tryz.underlying4
instance qe7 : UnC 4 .bool:=⟨zdq⟩
theorem zok : Tryz.prog.underlying 25 = some (.slice 87):=Tryz.underlying25
instance qe6 : UnC 25 (.slice 87):=⟨zok⟩
theorem zo6 : ∀ w,(isAgg 3).run Tryz.prog w = .ok false w:=yq (by kernel_rfl)
instance qfw : AggC 3 false:=⟨zo6⟩
theorem ww : ∀ w,(isAgg 21).run Tryz.prog w = .ok false w:=yq (by kernel_rfl)
instance qfv : AggC 21 false:=⟨ww⟩
theorem znd : ∀ w,(isAgg 4).run Tryz.prog w = .ok false w:=yq (by kernel_rfl)
instance qfu : AggC 4 false:=⟨znd⟩
theorem z_k : ∀ w,(isAgg 5).run Tryz.prog w = .ok false w:=yq (by kernel_rfl)
instance qft : AggC 5 false:=⟨z_k⟩
theorem z64 : ∀ w,(isAgg 9).run Tryz.prog w = .ok false w:=yq (by kernel_rfl)
instance qfs : AggC 9 false:=⟨z64⟩
theorem zze : ∀ w,(isAgg 31).run Tryz.prog w = .ok false w:=yq (by kernel_rfl)
instance qfr : AggC 31 false:=⟨zze⟩
instance qdb : UnC 5 (.int .u8):=⟨Tryz.underlying5⟩
instance qbk : UnC 21 (.int .i32):=⟨Tryz.underlying21⟩
instance qbj : UnC 3 (.int .i64):=⟨Tryz.underlying3⟩
theorem z6f : ∀ w,∃ n,(sizeOf 3).run Tryz.prog w = .ok (n + 1) w:=jn (n:=0) (by kernel_rfl)
instance qfq : SpC 3:=⟨z6f⟩
theorem z6g : ∀ w,∃ n,(sizeOf 21).run Tryz.prog w = .ok (n + 1) w:=jn (n:=0) (by kernel_rfl)
instance qfp : SpC 21:=⟨z6g⟩
theorem z26 : ∀ w,∃ n,(sizeOf 4).run Tryz.prog w = .ok (n + 1) w:=jn (n:=0) (by kernel_rfl)
instance qfo : SpC 4:=⟨z26⟩
theorem zf7 : Tryz.prog.underlying 27 = some (.struct #[{ name := "W",type:=3,offset:=0,embedded:=false,tag := "",pkgPath := "",byteOffset:=0 },{ name := "H",type:=3,offset:=1,embedded:=false,tag := "",pkgPath := "",byteOffset:=8 },{ name := "L",type:=25,offset:=2,embedded:=false,tag := "",pkgPath := "",byteOffset:=16 }]):=Tryz.underlying27
instance qfj : StC 27 [I 0,I 0,vA (.slice none 0 0)] [(0,1),(1,1),(2,1)]:=⟨StT.mk' _ [.int .i64 0,.int .i64 0,.slice none 0 0] zf7 (by kernel_rfl) (by kernel_rfl)⟩
instance qeg : FldC 27 0 0 3:=⟨_,_,zf7,rfl,rfl,rfl⟩
instance qef : FldC 27 1 1 3:=⟨_,_,zf7,rfl,rfl,rfl⟩
instance qee : FldC 27 2 2 25:=⟨_,_,zf7,rfl,rfl,rfl⟩
instance qf9 : AggC 27 true:=⟨kf (by kernel_rfl)⟩
instance qfb : SzC 27 3:=⟨xg (by kernel_rfl)⟩
instance qfn : SpC 27:=⟨jn (n:=2) (by kernel_rfl)⟩
instance qf4 : AlC 27 (.agg #[.int .i64 0,.int .i64 0,.slice none 0 0]) [.int .i64 0,.int .i64 0,.slice none 0 0] [I 0,I 0,vA (.slice none 0 0)]:=⟨by kernel_rfl,rfl,rfl⟩
abbrev xx (w h : Int) (l : List zp) : AV:=qb [I w,I h,slA qs l]
instance qez : AggC 25 false:=⟨yq (by kernel_rfl)⟩
instance qd1 : SpC 25:=⟨jn (n:=0) (by kernel_rfl)⟩
instance qf6 : AlC 87 (.agg #[.int .i32 0,.int .i64 0]) [.int .i32 0,.int .i64 0] [R 0,I 0]:=⟨by kernel_rfl,rfl,rfl⟩
theorem ul : Tryz.prog.underlying 195 = some (.array 11 194):=Tryz.underlying195
theorem vk : Tryz.prog.underlying 194 = some (.array 2 21):=Tryz.underlying194
theorem zds : ∀ w,(sizeOf 194).run Tryz.prog w = .ok 2 w:=xg (by kernel_rfl)
theorem y0 : ∀ w,(sizeOf 21).run Tryz.prog w = .ok 1 w:=xg (by kernel_rfl)
instance qfe : SzC 21 1:=⟨y0⟩
theorem z6d : ∀ w,(sizeOf 3).run Tryz.prog w = .ok 1 w:=xg (by kernel_rfl)
instance qfd : SzC 3 1:=⟨z6d⟩
theorem za_ {T0 : Gh} [c : TabS T0] {fr : Fr} : Opd T0 fr (.global 0) (ipA zf_):=zjo fun j v h=>c.h _ _ _ (by simpa [z22] using h)
theorem ks : ∀ (m : Nat) (p : Int × Int),kz[m]? = some p → ((zf_.drop (m * 2)).drop (0 * 1))[0]? = some (.int .i32 p.1) ∧ ((zf_.drop (m * 2)).drop (1 * 1))[0]? = some (.int .i32 p.2):=by
 intro m p h
 have hm : m < 11:=(List.getElem?_eq_some_iff.1 h).1
 have hm' : m = 0 ∨ m = 1 ∨ m = 2 ∨ m = 3 ∨ m = 4 ∨ m = 5 ∨ m = 6 ∨ m = 7 ∨ m = 8 ∨ m = 9 ∨ m = 10:=by omega
 rcases hm' with rfl | rfl | rfl | rfl | rfl | rfl | rfl | rfl | rfl | rfl | rfl <;> (have h':=Option.some.inj h; subst h'; exact ⟨rfl,rfl⟩)
theorem zo2 {T0 : Gh} [c : TabU T0] {fr : Fr} : Opd T0 fr (.global 1) (ipA zej):=zjo fun j v h=>c.h _ _ _ (by simpa [zmz] using h)
theorem z1p {T0 : Gh} [c : TabU T0] {fr : Fr} : Opd T0 fr (.global 2) (ipA z1e):=zjo fun j v h=>c.h _ _ _ (by
 unfold zmz; rw [if_neg (by decide),if_pos rfl]; exact h)
section
variable {T0 : Gh} {fr : Fr} {M : List Own} {ops : Array Oper} {o : Oper}
theorem zp3 {t : TypeId} {x : Operand} {r k : Int} (ho : o.op = .buildSlice t 1 #[(0,x)]) (hu : Tryz.prog.underlying t = some (.slice 87)) (hx : Opd T0 fr x (qb [R r,I k])) : AY Tryz.prog T0 ops o fr M (slA qs [(r,k)]) :=
 AY.sub (qa [(r,k)] ho hu znz rfl (by decide) ⟨_,qa0 hx rfl zgf,rfl⟩) jc
theorem zp2 {t : TypeId} {x y : Operand} {r k r' k' : Int} (ho : o.op = .buildSlice t 2 #[(0,x),(1,y)]) (hu : Tryz.prog.underlying t = some (.slice 87)) (hx : Opd T0 fr x (qb [R r,I k])) (hy : Opd T0 fr y (qb [R r',I k'])) : AY Tryz.prog T0 ops o fr M (slA qs [(r,k),(r',k')]) :=
 AY.sub (qa [(r,k),(r',k')] ho hu znz rfl (by decide) ⟨_,qa0 hx rfl (z6r hy zeo rfl rfl zgf),rfl⟩) jc
theorem z37 : (Tryz.prog.fieldsOf 87).toList = [{ name := "R",type:=21,offset:=0,embedded:=false,tag := "",pkgPath := "",byteOffset:=0 },{ name := "K",type:=3,offset:=1,embedded:=false,tag := "",pkgPath := "",byteOffset:=8 }]:=by kernel_rfl
theorem z18 (d : Nat) (a b : Int) (w : World) : (Op.equalIn (d + 1) 21 (.int .i32 a) (.int .i32 b)).run Tryz.prog w = .ok (a == b) w:=run_equalIn_int w d _ .i32 .i32 a b Tryz.underlying21
theorem zv2 (d : Nat) (a b : Int) (w : World) : (Op.equalIn (d + 1) 3 (.int .i64 a) (.int .i64 b)).run Tryz.prog w = .ok (a == b) w:=run_equalIn_int w d _ .i64 .i64 a b Tryz.underlying3
theorem zb0 (d : Nat) (a b : zp) (w : World) : (Op.equalIn (d + 2) 87 (.agg #[.int .i32 a.1,.int .i64 a.2]) (.agg #[.int .i32 b.1,.int .i64 b.2])).run Tryz.prog w = .ok (decide (a = b)) w:=by
 rw [run_equalIn_agg _ _ _ _ _ (by kernel_rfl) (by kernel_rfl),z37]
 obtain ⟨a1,a2⟩:=a
 obtain ⟨b1,b2⟩:=b
 simp [Op.eqFields,part,ww,zo6,z18,zv2]
 by_cases h1 : a1 = b1 <;> by_cases h2 : a2 = b2 <;> simp [h1,h2]
theorem zpx (op : BinOp) (x y : Operand) (xs ys : Array Value) (w : World) : (eqGuard op 87 x y (.agg xs) (.agg ys)).run Tryz.prog w = .ok () w:=run_eqGuard_agg w op _ x y xs ys (by kernel_rfl)
theorem zn6 {x y : Operand} {a1 a2 b1 b2 : Int} {t' : TypeId} (ho : o.op = .binOp .eql 87 x y t') (hx : Opd T0 fr x (qb [R a1,I a2])) (hy : Opd T0 fr y (qb [R b1,I b2])) : AY Tryz.prog T0 ops o fr M (B (decide (((a1,a2) : zp) = (b1,b2)))):=xd fun w0 G F a w hs hf=>by
 obtain ⟨us,h1,r1⟩:=(hx.use (o:=o) (ops:=ops) (by simp [ho,Op.operands]) hs.tab hf).agg
 obtain ⟨vs,h2,r2⟩:=(hy.use (o:=o) (ops:=ops) (by simp [ho,Op.operands]) hs.tab hf).agg
 obtain rfl:=x_ (zs:=[.int .i32 a1,.int .i64 a2]) r1
 obtain rfl:=x_ (zs:=[.int .i32 b1,.int .i64 b2]) r2
 have h3:=zb0 9998 (a1,a2) (b1,b2) w
 refine ⟨_, ?_,Rep.va _ _⟩
 simp only [execOp,ho,h1,h2,Sem.run_bind,zpx,Result.andThen_ok,run_eql_struct,h3,Sem.run_pure]
theorem zn5 {x y : Operand} {a1 a2 b1 b2 : Int} {t' : TypeId} (ho : o.op = .binOp .neq 87 x y t') (hx : Opd T0 fr x (qb [R a1,I a2])) (hy : Opd T0 fr y (qb [R b1,I b2])) : AY Tryz.prog T0 ops o fr M (B (!decide (((a1,a2) : zp) = (b1,b2)))):=xd fun w0 G F a w hs hf=>by
 obtain ⟨us,h1,r1⟩:=(hx.use (o:=o) (ops:=ops) (by simp [ho,Op.operands]) hs.tab hf).agg
 obtain ⟨vs,h2,r2⟩:=(hy.use (o:=o) (ops:=ops) (by simp [ho,Op.operands]) hs.tab hf).agg
 obtain rfl:=x_ (zs:=[.int .i32 a1,.int .i64 a2]) r1
 obtain rfl:=x_ (zs:=[.int .i32 b1,.int .i64 b2]) r2
 have h3:=zb0 9998 (a1,a2) (b1,b2) w
 refine ⟨_, ?_,Rep.va _ _⟩
 simp only [execOp,ho,h1,h2,Sem.run_bind,zpx,Result.andThen_ok,run_neq_struct,h3,Sem.run_pure]
theorem z4s {a1 a2 b1 b2 : Int} : EqK Tryz.prog 87 (qb [R a1,I a2]) (qb [R b1,I b2]) (decide (((a1,a2) : zp) = (b1,b2))):=fun _ _ _ _ _ _ _ _ hx hy=>⟨fun ho=>zn6 ho hx hy,fun ho=>zn5 ho hx hy⟩
end
end
section
open Go Go.RowKit
section
variable {P : Program} {T0 : Gh} {N : Fz} {Q : ko} {fr : Fr} {M M' : List Own} {ops : Array Oper} {o : Oper} {rest : List Oper} {x0 : Nat}
structure Nice (c : Bool) (p q : Prop) : Prop where
 t : c = true → p
 f : c = false → q
theorem z60 : Nice true True False:=⟨fun _=>trivial,fun h=>(nomatch h)⟩
theorem z61 : Nice false False True:=⟨fun h=>(nomatch h),fun _=>trivial⟩
theorem z62 {p : Prop} [Decidable p] : Nice (decide p) p (¬ p):=⟨of_decide_eq_true,of_decide_eq_false⟩
theorem zy6 {c : Bool} {p q : Prop} (h : Nice c p q) : Nice (!c) q p:=⟨fun e=>h.f (by cases c <;> simp_all),fun e=>h.t (by cases c <;> simp_all)⟩
theorem zy9 {a b : Bool} {p q p' q' : Prop} (h : Nice a p q) (k : Nice b p' q') : Nice (a && b) (p ∧ p') (q ∨ q'):=⟨fun e=>(by cases a <;> cases b <;> first | exact ⟨h.t rfl,k.t rfl⟩ | (cases e)),fun e=>by
 cases a
 ·exact .inl (h.f rfl)
 ·cases b
  ·exact .inr (k.f rfl)
  ·cases e⟩
theorem z3q {a b : Bool} {p q p' q' : Prop} (h : Nice a p q) (k : Nice b p' q') : Nice (a || b) (p ∨ p') (q ∧ q'):=⟨fun e=>by
 cases a
 ·cases b
  ·cases e
  ·exact .inr (k.t rfl)
 ·exact .inl (h.t rfl),fun e=>(by cases a <;> cases b <;> first | exact ⟨h.f rfl,k.f rfl⟩ | (cases e))⟩
theorem zt1 {a : Bool} {p q : Prop} (h : Nice a p q) : Nice (true && a) p q:=⟨fun e=>h.t (by simpa using e),fun e=>h.f (by simpa using e)⟩
theorem zy7 {c : Bool} {p q : Prop} (h : Nice c p q) : Nice (c == true) p q:=⟨fun e=>h.t (by simpa using e),fun e=>h.f (by simpa using e)⟩
theorem zy8 {c : Bool} {p q : Prop} (h : Nice c p q) : Nice (c == false) q p:=⟨fun e=>h.f (by simpa using e),fun e=>h.t (by simpa using e)⟩
theorem z63 {c : Bool} : Nice c (c = true) (c = false):=⟨id,id⟩
theorem zy_ {c : Bool} {p q : Prop} (h : Nice c p q:=by
 first
 |(with_reducible repeat' (first
   |exact z60
   |exact z61
   |exact z62
   |apply zy6
   |apply zt1
   |apply zy9
   |apply z3q
   |apply zy7
   |apply zy8
   |exact z63)
   done)
 |fail) : Nice c p q:=h
theorem zd {t : Nat} {x y : Code} {c : Bool} {p q : Prop} (ht : p → AW P T0 N x Q fr M) (hf : q → AW P T0 N y Q fr M) (hc : fr.get t = some (B c):=by rfl) (hn : Nice c p q:=by first | exact zy_ | fail) : AW P T0 N (.cond (.tmp t) x y) Q fr M:=z5d hc (fun e=>ht (hn.t e)) (fun e=>hf (hn.f e))
def zdz {α : Type _} : List α → Bool
 |[]=>true
 |_ :: l=>zdz l
theorem hk_ {p : Prop} (h : p:=by
 first
 |(first
   |assumption
   |(refine gd ?_ ?_ <;> assumption)
   |(refine gd rfl ?_; assumption)
   |(apply gl; assumption)
   |(refine gd (by apply gl; assumption) ?_; assumption)
   done)
 |fail) : p:=h
theorem oo_ {x : Operand} {A : AV} (h : Opd T0 fr x A:=by
 first
 |exact od rfl
 |(refine og rfl ?_; exact hk_)
 |fail) : Opd T0 fr x A:=h
theorem ql {x : Operand} {A : AV} (h : Opd T0 fr x A:=by
 first
 |(refine og rfl ?_; exact hk_)
 |exact od rfl
 |fail) : Opd T0 fr x A:=h
theorem ol_ {x : Operand} {A : AV} (h : Opd T0 fr x A:=by
 first
 |(apply odl rfl; with_reducible rfl)
 |exact od rfl
 |(refine og rfl ?_; exact hk_)
 |fail) : Opd T0 fr x A:=h
theorem on_ {x : Operand} {k : IntKind} {n : Nat} (h : xh T0 fr x k n:=by
 first
 |(apply qa1 rfl; with_reducible rfl)
 |exact odn rfl
 |(refine ogn rfl ?_; exact hk_)
 |fail) : xh T0 fr x k n:=h
theorem zih {x : Operand} {k : IntKind} {n : Nat} (h : xh T0 fr x k n:=by
 first
 |(refine ogn rfl ?_; exact hk_)
 |(apply qa1 rfl; with_reducible rfl)
 |exact odn rfl
 |fail) : xh T0 fr x k n:=h
theorem os_ {xs : List Operand} {l : List AV} (hb : zdz xs = true:=by rfl) (h : OpdAll T0 fr xs l:=by
 first
 |(repeat' (first
   |exact zcn
   |apply zcm oo_)
   done)
 |fail) : OpdAll T0 fr xs l:=h
theorem qc1 {xs : List Operand} {l : List AV} (hb : zdz xs = true:=by rfl) (h : OpdAll T0 fr xs l:=by
 first
 |(repeat' (first
   |exact zcn
   |apply zcm ql)
   done)
 |fail) : OpdAll T0 fr xs l:=h
theorem gb_ {p : Prop} (h : p:=by
 first
 |(first
   |omega
   |(simp only [List.length_append,List.length_nil,List.length_cons,List.nil_append,List.length_replicate,List.length_set,List.length_take,List.length_drop]; omega)
   done)
 |fail) : p:=h
theorem zb5 {k : IntKind} {n : Int} (h : Fit k n:=by
 first
 |(first
   |exact z__ (by omega) (by omega)
   |exact fit32 (by omega) (by omega)
   |exact qc6 (by omega) (by omega)
   done)
 |fail) : Fit k n:=h
theorem wk_ {fr' : Fr} (hb : zdz fr' = true:=by rfl) (h : Weak fr fr':=by
 first
 |(repeat' (first
   |exact zog
   |refine zak rfl ?_)
   done)
 |fail) : Weak fr fr':=h
theorem sl_ {α : Type _} {l m : List α} (hb : zdz m = true:=by rfl) (h : List.Sublist l m:=by
 first
 |(repeat' (first
   |exact List.nil_sublist _
   |apply List.Sublist.cons_cons
   |apply List.Sublist.cons)
   done)
 |fail) : List.Sublist l m:=h
theorem kx {α : Type _} {x : α} {l : List α} (hb : zdz l = true:=by rfl) (h : x ∈ l:=by
 first
 |(repeat' (first
   |exact List.Mem.head _
   |apply List.Mem.tail)
   done)
 |fail) : x ∈ l:=h
theorem yd {m : Own} {f : Own → List Own} (hb : zdz M = true:=by rfl) (h : UpdF m M f:=by
 first
 |(repeat' (first
   |exact UpdF.here
   |apply UpdF.next)
   done)
 |fail) : UpdF m M f:=h
theorem zf {m : Own} (hb : zdz M = true:=by rfl) (h : Pick m M M':=by
 first
 |(repeat' (first
   |exact Pick.here
   |apply Pick.next)
   done)
 |fail) : Pick m M M':=h
theorem vh {s l r : List AV} {n : Nat} (hb : zdz s = true:=by rfl) (h : SetC s n l r:=by
 first
 |(repeat' (first
   |exact z9a
   |apply SetC.here
   |apply SetC.next)
   done)
 |fail) : SetC s n l r:=h
theorem zx8 {s r : List AV} {off n : Nat} (hb : zdz s = true:=by rfl) (h : SubC s off n r:=by
 first
 |(repeat' (first
   |exact SubC.nil
   |apply SubC.here
   |apply SubC.next)
   done)
 |fail) : SubC s off n r:=h
theorem zc8 {A : AV} {l : List AV} (h : kg A l:=by
 first
 |(first
   |exact zeo
   |exact z9l rfl
   |exact z9l (by assumption)
   |exact qan
   |exact z8p
   done)
 |fail) : kg A l:=h
theorem z00 {c : zp} : kg (zh6 c) ((qs.enc c).map vA):=zeo
theorem qc_ {A : AV} {l : List AV} (h : kg A l:=by
 first
 |(first
   |exact z00
   |exact ca_cell
   |exact zeo
   |exact z9l (by rfl)
   done)
 |fail) : kg A l:=h
theorem vw {l : List AV} (hb : zdz l = true:=by rfl) (h : OnesA l:=by
 first
 |(repeat' (first
   |exact z_h
   |apply z_g
   |exact z6s rfl
   |exact z6s (by assumption)
   |exact z6t
   |exact z3l)
   done)
 |fail) : OnesA l:=h
theorem px_ {pl : List (Nat × Nat)} {r : List (Nat × Operand)} {acc res : List AV} (hb : zdz r = true:=by rfl) (h : yc T0 fr pl r acc res:=by
 first
 |(repeat' (first
   |exact zgf
   |apply pk oo_ zc8 rfl vh)
   done)
 |fail) : yc T0 fr pl r acc res:=h
theorem qc0 {pl : List (Nat × Nat)} {r : List (Nat × Operand)} {acc res : List AV} (hb : zdz r = true:=by rfl) (h : yc T0 fr pl r acc res:=by
 first
 |(repeat' (first
   |exact zgf
   |apply pk ql zc8 rfl vh)
   done)
 |fail) : yc T0 fr pl r acc res:=h
theorem zrc {α : Type} {T : Ty α} {l : List α} {F : Value → AV} {A' : AV} (h : ∀ u,FzA u T l (F u) A':=by
 first
 |(intro u
   repeat' (first
   |exact zu0
   |apply z7p
   |apply z7o
   |exact z34
   |apply zzz
   |exact zuz)
   done)
 |fail) : ∀ u,FzA u T l (F u) A':=h
theorem rs_ {fn : Func} {A : AV} (h : zi3 Tryz.prog T0 fn fr M A:=by
 first
 |(first
   |exact qcy rfl rfl
   |exact qcx rfl rfl rfl
   |exact qcw rfl rfl rfl rfl
   |exact qcz rfl
   |((first
      |apply z95 rfl rfl
      |apply z94 rfl rfl rfl) <;> (repeat' (first
       |exact List.Mem.head _
       |apply List.Mem.tail
       |exact zku
       |exact sz_
       |rfl)); done)
   done)
 |fail) : zi3 Tryz.prog T0 fn fr M A:=h
theorem ge_ {α : Type} {l : List α} {i : Nat} {c : α} (h : l[i]? = some c:=by
 first
 |(first
   |assumption
   |exact zwk gb_
   |exact List.getElem?_eq_getElem gb_
   |exact z7f gb_
   |exact rfl
   done)
 |fail) : l[i]? = some c:=h
theorem QY.sub {A A' : AV} (h : QY P T0 ops o fr M A) (s : Sub A A') : QY P T0 ops o fr M A':=fun w0 G F a w hs hf =>
 let ⟨h1,h2⟩:=h w0 G F a w hs hf
 ⟨fun hw next Qc k=>h1 hw next Qc fun G' u w' hl hs' hu=>k G' u w' hl hs' (s _ _ hu),fun hw=>s _ _ (h2 hw)⟩
def GK (P : Program) (T0 : Gh) (ops : Array Oper) (o : Oper) (fr : Fr) (k : Bool) : Prop := ∀ (M : List Own) (A : AV),(k = true → AY P T0 ops o fr M A) → QY P T0 ops o fr M (gvA k A)
theorem zs3 {A : AV} : Sub A (gvA true A):=fun _ _ h=>.of ⟨fun _=>h,fun e=>(nomatch e)⟩
theorem z3w {A : AV} : Sub (gvA true A) A:=fun _ _ h=>h.gv.1 rfl
theorem zpe (hg : o.guard = none) : GK P T0 ops o fr true:=fun _ _ h=>(zov hg (h rfl)).sub zs3
theorem z10 {g t : Nat} {want k c : Bool} (hg : o.guard = some (g,want)) (ht : (ops[g]?).bind (·.dst) = some t) (hs : u_ fr t k c) (hc : (k && (c == want)) = true) : GK P T0 ops o fr true:=fun _ _ h=>(z6o hg ht hs hc (h rfl)).sub zs3
theorem z7d {g t : Nat} {want k c : Bool} (hg : o.guard = some (g,want)) (ht : (ops[g]?).bind (·.dst) = some t) (hs : u_ fr t k c) : GK P T0 ops o fr (k && (c == want)):=fun _ _ h=>z_a hg ht hs h
theorem gk_ {k : Bool} (h : GK P T0 ops o fr k:=by
 first
 |(first
   |exact zpe rfl
   |exact z10 rfl rfl (zd1 rfl) rfl
   |exact z7d rfl rfl (zd1 rfl)
   |exact z7d rfl rfl (zzr rfl)
   done)
 |fail) : GK P T0 ops o fr k:=h
inductive OutK : Bool → AV → AV → Prop
 |t {A : AV} : OutK true A A
 |g {k : Bool} {A : AV} : OutK k A (gvA k A)
theorem OutK.qy {k : Bool} {A A' : AV} (h : OutK k A A') (q : QY P T0 ops o fr M (gvA k A)) : QY P T0 ops o fr M A':=by
 cases h
 ·exact q.sub z3w
 ·exact q
theorem z9m {d : Bool} {A A' : AV} {k : Bool} (hg : GK P T0 ops o fr k) (hy : k = true → AY P T0 ops o fr M A) (hA : OutK k A A') (hx : o.dst = some x0) (hd : Nat.blt x0 N.n = true) (h : AL P T0 N d ops Q rest ((x0,A') :: fr) M) : AL P T0 N d ops Q (o :: rest) fr M:=qcq (hA.qy (hg M A hy)) hx hd h
theorem z6i {d : Bool} (h : AL P T0 N d ops Q rest ((x0,z0_) :: fr) M) (hs : QY P T0 ops o fr M z0_:=by first | exact z3g rfl rfl (zd1 rfl) rfl | fail) (hx : o.dst = some x0:=by rfl) (hd : Nat.blt x0 N.n = true:=by rfl) : AL P T0 N d ops Q (o :: rest) fr M:=qcq hs hx hd h
end
section
variable {T0 : Gh} {N : Fz} {Q : ko} {fr : Fr} {M M' : List Own} {ops : Array Oper} {o : Oper} {rest : List Oper} {x0 : Nat}
theorem lt_ {a b : Nat} (h : a < b:=by
 first
 |exact gb_
 |fail) : a < b:=h
theorem le_ {a b : Nat} (h : a ≤ b:=by
 first
 |exact gb_
 |fail) : a ≤ b:=h
theorem lo_ {x : Option Operand} {n : Nat} (h : zsk x n T0 fr:=by
 first
 |exact zue
 |(apply qa4; exact on_)
 |fail) : zsk x n T0 fr:=h
theorem hi_ {x : Option Operand} {n m : Nat} (h : zus x n m T0 fr:=by
 first
 |exact zur
 |(apply qa8; exact on_)
 |fail) : zus x n m T0 fr:=h
theorem z9c {b v : Bool} {x : Operand} {A : AV} (h : b = v → Opd T0 fr x A:=by
 first
 |(intro hp
   exact ql)
 |fail) : b = v → Opd T0 fr x A:=h
theorem qa3 {x : Option Operand} {n : Nat} (h : zsk x n T0 fr:=by
 first
 |exact zue
 |(apply qa4; exact zih)
 |fail) : zsk x n T0 fr:=h
theorem qa7 {x : Option Operand} {n m : Nat} (h : zus x n m T0 fr:=by
 first
 |exact zur
 |(apply qa8; exact zih)
 |fail) : zus x n m T0 fr:=h
theorem ld_ {t : TypeId} {A R : AV} (h : LdK Tryz.prog T0 M t A R:=by
 first
 |exact z_u el_
 |exact qc3 zku
 |(apply v1_; exact kx; rfl)
 |(apply vn_; exact kx; exact zx8)
 |(apply mk_r el_; exact kx; exact ge_)
 |(apply r1_; exact kx; exact ge_; rfl)
 |fail) : LdK Tryz.prog T0 M t A R:=h
theorem ix_ {t : TypeId} {A R : AV} {n : Nat} (h : IxK Tryz.prog T0 M t A n R:=by
 first
 |(apply zgu un_ el_; exact ge_)
 |(apply z_o un_ el_; exact kx; exact lt_)
 |(apply z69 un_ el_; exact lt_)
 |fail) : IxK Tryz.prog T0 M t A n R:=h
theorem fa_ {t i : Nat} {A R : AV} (h : FaK Tryz.prog T0 M t i A R:=by
 first
 |exact qav fl_ sp_
 |exact z86 fl_ sp_
 |exact z87 fl_ sp_
 |fail) : FaK Tryz.prog T0 M t i A R:=h
theorem fd_ {t i : Nat} {l : List AV} {R : AV} (h : FdK Tryz.prog T0 M t i l R:=by
 first
 |exact qc9 fl_ zku rfl
 |(apply fn_; exact zx8)
 |fail) : FdK Tryz.prog T0 M t i l R:=h
theorem ln_ {t : TypeId} {A R : AV} (h : LnK Tryz.prog T0 M t A R:=by
 first
 |exact z_i un_
 |(apply z65 un_; exact kx)
 |exact nk_sub un_
 |exact z6y un_
 |fail) : LnK Tryz.prog T0 M t A R:=h
theorem eq_ {t : TypeId} {A A' : AV} {b : Bool} (h : EqK Tryz.prog t A A' b:=by
 first
 |exact z8a
 |exact z4t un_
 |exact z4s
 |exact z79
 |exact z8b
 |fail) : EqK Tryz.prog t A A' b:=h
theorem y_ {A : AV} (h : AY Tryz.prog T0 ops o fr M A:=by
 first
 |(apply zwv rfl; exact oo_)
 |(apply zmj rfl; exact oo_)
 |(apply kh rfl; exact oo_; exact ld_)
 |(apply qa5 rfl; exact oo_; exact fd_)
 |(apply qa6 rfl; exact oo_; exact fa_)
 |(apply zpb rfl; exact oo_; exact on_; exact ix_)
 |(apply zlo rfl; exact oo_; exact ln_)
 |(apply z2f rfl; exact oo_; exact oo_)
 |(apply z2g rfl; exact oo_; exact oo_)
 |(apply z2i rfl; exact oo_; exact oo_)
 |(apply z2j rfl; exact oo_; exact oo_)
 |(apply zzl rfl; exact oo_; exact oo_; exact eq_)
 |(apply ze2 rfl; exact oo_; exact oo_; exact eq_)
 |(apply z2d rfl; exact oo_)
 |(apply zw1 rfl; exact oo_; exact z9c)
 |(apply z8s rfl; exact oo_; exact z9c)
 |(apply zp9 rfl st_; exact px_; done)
 |(apply ziz rfl; exact oo_; rfl)
 |(apply zp7 rfl un_ el_; exact oo_; exact lo_; exact hi_; exact le_; exact le_; done)
 |(apply zp3 rfl un_; exact oo_; done)
 |(apply zp2 rfl un_; exact oo_; exact oo_; done)
 |(apply z1y rfl; exact on_; exact on_; exact zb5)
 |(apply z1t rfl; exact on_; exact on_; exact le_; exact zb5)
 |(apply z1w rfl; exact on_; exact on_; exact zb5)
 |(apply z1v rfl; exact on_; exact on_; exact lt_; exact zb5)
 |(apply z1u rfl; exact on_; exact on_; exact lt_)
 |(apply z1x rfl; exact on_; exact on_)
 |(apply zo7 rfl un_ el_; exact oo_; exact kx; exact on_; exact on_; exact lt_; exact le_; done)
 |(apply ziy rfl un_; exact oo_; exact on_; exact ge_; done)
 |(apply zbm rfl un_; exact oo_; exact lo_; exact hi_; exact le_; exact le_; done)
 |(apply z2k rfl; exact oo_; exact oo_; exact le_)
 |(apply jr rfl un_ un_; exact oo_; exact zb5; done)
 |(apply zer rfl un_ un_; exact oo_; done)
 |(apply zdb rfl un_ un_ un_; exact oo_; done)
 |(apply z2e rfl; exact oo_; exact zb5)
 |(apply zw2 rfl; exact oo_; exact oo_; exact zb5)
 |(apply zho rfl; exact oo_; exact oo_; exact zb5)
 |(apply zwu rfl; exact oo_; exact oo_; exact zb5)
 |(apply zwr rfl; exact oo_; exact oo_; exact ile_; exact ilt_; exact zb5)
 |(apply zwq rfl; exact oo_; exact oo_; exact ile_; exact ilt_)
 |fail) : AY Tryz.prog T0 ops o fr M A:=h
theorem yg_ {A : AV} (h : AY Tryz.prog T0 ops o fr M A:=by
 first
 |(apply zwv rfl; exact ql)
 |(apply zmj rfl; exact ql)
 |(apply kh rfl; exact ql; exact ld_)
 |(apply qa5 rfl; exact ql; exact fd_)
 |(apply qa6 rfl; exact ql; exact fa_)
 |(apply zpb rfl; exact ql; exact zih; exact ix_)
 |(apply zlo rfl; exact ql; exact ln_)
 |(apply z2f rfl; exact ql; exact ql)
 |(apply z2g rfl; exact ql; exact ql)
 |(apply z2i rfl; exact ql; exact ql)
 |(apply z2j rfl; exact ql; exact ql)
 |(apply zzl rfl; exact ql; exact ql; exact eq_)
 |(apply ze2 rfl; exact ql; exact ql; exact eq_)
 |(apply z2d rfl; exact ql)
 |(apply zw1 rfl; exact ql; exact z9c)
 |(apply z8s rfl; exact ql; exact z9c)
 |(apply zp9 rfl st_; exact qc0; done)
 |(apply ziz rfl; exact ql; rfl)
 |(apply zp7 rfl un_ el_; exact ql; exact qa3; exact qa7; exact le_; exact le_; done)
 |(apply zp3 rfl un_; exact ql; done)
 |(apply zp2 rfl un_; exact ql; exact ql; done)
 |(apply z1y rfl; exact zih; exact zih; exact zb5)
 |(apply z1t rfl; exact zih; exact zih; exact le_; exact zb5)
 |(apply z1w rfl; exact zih; exact zih; exact zb5)
 |(apply z1v rfl; exact zih; exact zih; exact lt_; exact zb5)
 |(apply z1u rfl; exact zih; exact zih; exact lt_)
 |(apply z1x rfl; exact zih; exact zih)
 |(apply zo7 rfl un_ el_; exact ql; exact kx; exact zih; exact zih; exact lt_; exact le_; done)
 |(apply ziy rfl un_; exact ql; exact zih; exact ge_; done)
 |(apply zbm rfl un_; exact ql; exact qa3; exact qa7; exact le_; exact le_; done)
 |(apply z2k rfl; exact ql; exact ql; exact le_)
 |(apply jr rfl un_ un_; exact ql; exact zb5; done)
 |(apply zer rfl un_ un_; exact ql; done)
 |(apply zdb rfl un_ un_ un_; exact ql; done)
 |(apply z2e rfl; exact ql; exact zb5)
 |(apply zw2 rfl; exact ql; exact ql; exact zb5)
 |(apply zho rfl; exact ql; exact ql; exact zb5)
 |(apply zwu rfl; exact ql; exact ql; exact zb5)
 |(apply zwr rfl; exact ql; exact ql; exact ile_; exact ilt_; exact zb5)
 |(apply zwq rfl; exact ql; exact ql; exact ile_; exact ilt_)
 |fail) : AY Tryz.prog T0 ops o fr M A:=h
theorem z7e (h : GK Tryz.prog T0 ops o fr true:=by
 first
 |exact zpe rfl
 |exact z10 rfl rfl (zd1 rfl) rfl
 |fail) : GK Tryz.prog T0 ops o fr true:=h
theorem qau {d : Bool} {A : AV} (hg : GK Tryz.prog T0 ops o fr true) (hy : AY Tryz.prog T0 ops o fr M A) (hx : o.dst = some x0) (hd : Nat.blt x0 N.n = true) (h : AL Tryz.prog T0 N d ops Q rest ((x0,A) :: fr) M) : AL Tryz.prog T0 N d ops Q (o :: rest) fr M:=z9m hg (fun _=>hy) OutK.t hx hd h
theorem s_y {d : Bool} {A : AV} (h : AL Tryz.prog T0 N d ops Q rest ((x0,A) :: fr) M) (hg : GK Tryz.prog T0 ops o fr true:=by first | exact z7e | fail) (hy : AY Tryz.prog T0 ops o fr M A:=by first | exact y_ | fail) (hx : o.dst = some x0:=by rfl) (hd : Nat.blt x0 N.n = true:=by rfl) : AL Tryz.prog T0 N d ops Q (o :: rest) fr M:=qau hg hy hx hd h
theorem jd {d : Bool} {A : AV} (h : AL Tryz.prog T0 N d ops Q rest ((x0,A) :: fr) M) (hg : GK Tryz.prog T0 ops o fr true:=by first | exact z7e | fail) (hy : AY Tryz.prog T0 ops o fr M A) (hx : o.dst = some x0:=by rfl) (hd : Nat.blt x0 N.n = true:=by rfl) : AL Tryz.prog T0 N d ops Q (o :: rest) fr M:=qau hg hy hx hd h
theorem qd {d : Bool} {A : AV} {f : FuncId} {args : Array Operand} {ts : Array TypeId} {As : List AV} (h : AL Tryz.prog T0 N d ops Q rest ((x0,A) :: fr) M) (ho : o.op = .call { callee:=.value (.func f),args:=args,argTypes:=ts }:=by rfl) (hg : GK Tryz.prog T0 ops o fr true:=by first | exact z7e | fail) (ha : OpdAll T0 fr args.toList As:=by first | exact os_ | fail) (c : AP Tryz.prog T0 f As A) (hx : o.dst = some x0:=by rfl) (hd : Nat.blt x0 N.n = true:=by rfl) : AL Tryz.prog T0 N d ops Q (o :: rest) fr M:=qau hg (zw0 ho ha c) hx hd h
theorem j0 {d : Bool} {A : AV} {k : Bool} {p q : Prop} (h : AL Tryz.prog T0 N d ops Q rest ((x0,gvA k A) :: fr) M) (hg : GK Tryz.prog T0 ops o fr k:=by first | exact gk_ | fail) (hn : Nice k p q:=by first | exact zy_ | fail) (hy : k = true → p → AY Tryz.prog T0 ops o fr M A:=by
 first
 |(intro hk hk2
   exact yg_)
 |fail) (hx : o.dst = some x0:=by rfl) (hd : Nat.blt x0 N.n = true:=by rfl) : AL Tryz.prog T0 N d ops Q (o :: rest) fr M:=z9m hg (fun e=>hy e (hn.t e)) OutK.g hx hd h
theorem qj {d : Bool} {A : AV} {k : Bool} {p q : Prop} (h : AL Tryz.prog T0 N d ops Q rest ((x0,gvA k A) :: fr) M) (hg : GK Tryz.prog T0 ops o fr k:=by first | exact gk_ | fail) (hn : Nice k p q:=by first | exact zy_ | fail) (hy : k = true → p → AY Tryz.prog T0 ops o fr M A) (hx : o.dst = some x0:=by rfl) (hd : Nat.blt x0 N.n = true:=by rfl) : AL Tryz.prog T0 N d ops Q (o :: rest) fr M:=z9m hg (fun e=>hy e (hn.t e)) OutK.g hx hd h
theorem zr {d : Bool} {A : AV} {k : Bool} {p q : Prop} {f : FuncId} {args : Array Operand} {ts : Array TypeId} {As : List AV} (h : AL Tryz.prog T0 N d ops Q rest ((x0,gvA k A) :: fr) M) (ho : o.op = .call { callee:=.value (.func f),args:=args,argTypes:=ts }:=by rfl) (hg : GK Tryz.prog T0 ops o fr k:=by first | exact gk_ | fail) (hn : Nice k p q:=by first | exact zy_ | fail) (ha : k = true → OpdAll T0 fr args.toList As:=by
 first
 |(intro hk
   exact qc1)
 |fail) (c : k = true → p → AP Tryz.prog T0 f As A) (hx : o.dst = some x0:=by rfl) (hd : Nat.blt x0 N.n = true:=by rfl) : AL Tryz.prog T0 N d ops Q (o :: rest) fr M:=z9m hg (fun e=>zw0 ho (ha e) (c e (hn.t e))) OutK.g hx hd h
def zt0 : List Oper → Bool
 |[]=>false
 |[_]=>false
 |o :: l=>(match o.op with | .store _ _ _=>true | _=>false) || zt0 l
theorem zw {id : Nat} {l : List Oper} (hn : zt0 l = false) (hm : Tryz.prog.follows .mixedOrders = true) (hB : Region.lexB .any l.toArray = true) (h : AL Tryz.prog T0 N true l.toArray Q l fr M) : AW Tryz.prog T0 N (.region id l.toArray true) Q fr M:=zr9 hm hB h
theorem c_ {p q : Prop} (h : q) (k : q → p:=by
 first
 |(intro hh
   first
   |refine zes ?_ | refine ws ?_ | refine zi2 ?_ | refine z5p ?_ | refine z5q ?_ | refine z5o ?_ | refine z5v ?_ | refine z5w rfl ?_ | refine zq8 rfl ?_ | refine z5u ?_ | refine zbn ?_ | refine zd7 ?_ | refine zi1 ?_ | refine zd6 ?_
   |(apply zw (by rfl) (by kernel_rfl) (by kernel_rfl))
   repeat (first
    |refine zes ?_ | refine ws ?_ | refine zi2 ?_ | refine z5p ?_ | refine z5q ?_ | refine z5o ?_ | refine z5v ?_ | refine z5w rfl ?_ | refine zq8 rfl ?_ | refine z5u ?_ | refine zbn ?_ | refine zd7 ?_ | refine zi1 ?_ | refine zd6 ?_
    |(apply zw (by rfl) (by kernel_rfl) (by kernel_rfl)))
   exact hh
   done)
 |fail) : p:=k h
theorem z2u {e : TypeId} {z : Value} {zs : List Value} {Z : List AV} [c : AlC e z zs Z] (h : ∀ b,AL Tryz.prog T0 N false ops Q rest ((x0,vA (.pointer (some ⟨b,0,none⟩))) :: fr) (qh b e Z :: M)) (ho : o.op = .alloc e:=by rfl) (hg : o.guard = none:=by rfl) (hd : o.dst = some x0:=by rfl) (hN : Nat.blt x0 N.n = true:=by rfl) : AL Tryz.prog T0 N false ops Q (o :: rest) fr M:=z1d hg hd hN ho c.h h
theorem z9v {e : TypeId} {x : Operand} {A : AV} {l : List AV} (h : ∀ b,AL Tryz.prog T0 N false ops Q rest ((x0,vA (.pointer (some ⟨b,0,none⟩))) :: fr) (qh b e l :: M)) (ho : o.op = .box e x:=by rfl) (hg : o.guard = none:=by rfl) (hd : o.dst = some x0:=by rfl) (hN : Nat.blt x0 N.n = true:=by rfl) (hx : Opd T0 fr x A:=by first | exact oo_ | fail) (hc : kg A l:=by first | exact zc8 | fail) : AL Tryz.prog T0 N false ops Q (o :: rest) fr M:=z85 hg hd hN ho hx hc h
theorem zxw {t e : TypeId} {x y : Operand} {b off n : Nat} {cells cells' l : List AV} {A : AV} {f : Own → List Own} (h : AL Tryz.prog T0 N false ops Q rest fr (f (qh b e cells'))) (ho : o.op = .store t x y:=by rfl) (hg : o.guard = none:=by rfl) (hd : o.dst = none:=by rfl) (hx : Opd T0 fr x (vA (.pointer (some ⟨b,off,none⟩))):=by first | exact oo_ | fail) (hz : ∀ w,(sizeOf t).run Tryz.prog w = .ok n w:=by first | exact sz_ | fail) (hy : Opd T0 fr y A:=by first | exact oo_ | fail) (hc : kg A l:=by first | exact zc8 | fail) (hl : l.length = n:=by rfl) (h1 : OnesA l:=by first | exact vw | fail) (hU : UpdF (qh b e cells) M f:=by first | exact yd | fail) (hs : SetC cells off l cells':=by first | exact vh | fail) : AL Tryz.prog T0 N false ops Q (o :: rest) fr M:=zmo hg hd ho hz hx hy hc hl h1 hU hs h
theorem zxx {α : Type} {T : Ty α} {e : TypeId} {x y : Operand} {l : List α} {d z : α} {by' : Nat} {av : α → AV} {n : Nat} {u : Value} {A : AV} {f : Own → List Own} (h : AL Tryz.prog T0 N false ops Q rest fr (f (z_ T e u (l.set n z)))) (ho : o.op = .store e x y:=by rfl) (hg : o.guard = none:=by rfl) (hd : o.dst = none:=by rfl) (he : El Tryz.prog T e d by' av:=by first | exact el_ | fail) (hx : Opd T0 fr x (rpA u (n * T.k)):=by first | exact oo_ | fail) (hy : Opd T0 fr y A:=by first | exact oo_ | fail) (hU : UpdF (z_ T e u l) M f:=by first | exact yd | fail) (hn : n < l.length:=by first | exact gb_ | fail) (hc : kg A ((T.enc z).map vA):=by first | exact qc_ | fail) : AL Tryz.prog T0 N false ops Q (o :: rest) fr M:=zmp hg hd ho he hx hy hU hn hc h
theorem z59 {α : Type} {T : Ty α} {t e : TypeId} {x y : Operand} {n : Nat} {d : α} {by' : Nat} {av : α → AV} {k k' : IntKind} (h : ∀ u',u'.cells = #[u'] → u'.oneCell' = true → AL Tryz.prog T0 N false ops Q rest ((x0,vA u') :: fr) (z_ T e u' (List.replicate n d) :: M)) (ho : o.op = .makeSlice t x y:=by rfl) (hg : o.guard = none:=by rfl) (hd : o.dst = some x0:=by rfl) (hN : Nat.blt x0 N.n = true:=by rfl) (hu : Tryz.prog.underlying t = some (.slice e):=by first | exact un_ | fail) (he : El Tryz.prog T e d by' av:=by first | exact el_ | fail)
  (hx : xh T0 fr x k n:=by first | exact on_ | fail) (hy : xh T0 fr y k' n:=by first | exact on_ | fail) (hn : by' * n ≤ 140737488355328:=by omega) (hm : n ≤ maxLen:=by
   first
   |(simp only [maxLen]
     omega
     done)
   |fail) : AL Tryz.prog T0 N false ops Q (o :: rest) fr M:=z5g hg hd hN ho hu he hx hy hn hm h
theorem z9w {α : Type} {T : Ty α} {t e : TypeId} {x y : Operand} {l m : List α} {d : α} {by' : Nat} {av : α → AV} {u : Value} {f : Own → List Own} (h : ∀ u',u'.cells = #[u'] → u'.oneCell' = true → AL Tryz.prog T0 N false ops Q rest ((x0,vA u') :: fr) (f (z_ T e u' (l ++ m)))) (ho : o.op = .call { callee:=.builtin .append,args := #[x,y],argTypes := #[t,t] }:=by rfl) (hg : o.guard = none:=by rfl) (hd : o.dst = some x0:=by rfl) (hN : Nat.blt x0 N.n = true:=by rfl) (hu : Tryz.prog.underlying t = some (.slice e):=by first | exact un_ | fail) (he : El Tryz.prog T e d by' av:=by first | exact el_ | fail)
  (hx : Opd T0 fr x (vA u):=by first | exact oo_ | fail) (hy : Opd T0 fr y (slA T m):=by first | exact oo_ | fail) (hU : UpdF (z_ T e u l) M f:=by first | exact yd | fail) (hn : (l.length + m.length) * by' ≤ 140737488355328:=by first | exact gb_ | fail) (hm : l.length + m.length ≤ maxLen:=by
   first
   |(simp only [maxLen]
     exact gb_
     done)
   |fail) : AL Tryz.prog T0 N false ops Q (o :: rest) fr M:=zxc hg hd hN ho hu he hx hy hU hn hm h
theorem z9u {α : Type} {T : Ty α} {t e : TypeId} {x y : Operand} {l m : List α} {d : α} {by' : Nat} {av : α → AV} {u : Value} {f : Own → List Own} (h : AL Tryz.prog T0 N false ops Q rest ((x0,I (m.take l.length).length) :: fr) (f (z_ T e u (ovr l 0 (m.take l.length))))) (ho : o.op = .call { callee:=.builtin .copy,args := #[x,y],argTypes := #[t,t] }:=by rfl) (hg : o.guard = none:=by rfl) (hd : o.dst = some x0:=by rfl) (hN : Nat.blt x0 N.n = true:=by rfl) (hu : Tryz.prog.underlying t = some (.slice e):=by first | exact un_ | fail) (he : El Tryz.prog T e d by' av:=by first | exact el_ | fail)
  (hx : Opd T0 fr x (vA u):=by first | exact oo_ | fail) (hy : Opd T0 fr y (slA T m):=by first | exact oo_ | fail) (hU : UpdF (z_ T e u l) M f:=by first | exact yd | fail) : AL Tryz.prog T0 N false ops Q (o :: rest) fr M:=zoe hg hd hN ho hu he hx hy hU h
theorem z9t {α : Type} {T : Ty α} {t e : TypeId} {x y : Operand} {l m : List α} {d : α} {by' off n : Nat} {av : α → AV} {u : Value} {f : Own → List Own} (h : AL Tryz.prog T0 N false ops Q rest ((x0,I (m.take n).length) :: fr) (f (z_ T e u (ovr l off (m.take n))))) (ho : o.op = .call { callee:=.builtin .copy,args := #[x,y],argTypes := #[t,t] }:=by rfl) (hg : o.guard = none:=by rfl) (hd : o.dst = some x0:=by rfl) (hN : Nat.blt x0 N.n = true:=by rfl) (hu : Tryz.prog.underlying t = some (.slice e):=by first | exact un_ | fail) (he : El Tryz.prog T e d by' av:=by first | exact el_ | fail)
  (hx : Opd T0 fr x (rsA T.k u off n):=by first | exact oo_ | fail) (hy : Opd T0 fr y (slA T m):=by first | exact oo_ | fail) (hU : UpdF (z_ T e u l) M f:=by first | exact yd | fail) (hn : off + n ≤ l.length:=by first | exact gb_ | fail) : AL Tryz.prog T0 N false ops Q (o :: rest) fr M:=zod hg hd hN ho hu he hx hy hU hn h
theorem no_ {P : Prop} (h : False:=by first | assumption | omega | (simp only [or_self,and_self,not_true_eq_false,not_false_eq_true,or_false,false_or,and_false,false_and,true_and,and_true] at hb; first | done | omega) | fail) : P:=h.elim
structure Bx (q : Prop) : Prop where
 h : q
theorem sa_ {p q : Prop} (h : q) (k : Bx q → p:=by
 first
 |(intro hh
   first
   |refine s_y ?_ | refine c_ ?_
   exact hh.h
   done)
 |fail) : p:=k ⟨h⟩
theorem sx_ {p q : Prop} (h : q) (k : Bx q → p:=by
 first
 |(intro hh
   first
   |refine z2u ?_ | refine z9v ?_
   exact hh.h
   done)
 |fail) : p:=k ⟨h⟩
theorem su_ {p q : Prop} (h : q) (k : Bx q → p:=by
 first
 |(intro hh
   first
   |refine w_emp ?_ | refine z59 ?_ | refine z9w ?_
   exact hh.h
   done)
 |fail) : p:=k ⟨h⟩
theorem sw_ {p q : Prop} (h : q) (k : Bx q → p:=by
 first
 |(intro hh
   first
   |refine z6i ?_ | refine zxw ?_ | refine zxx ?_ | refine z9u ?_ | refine z9t ?_ | refine z5h (by kernel_rfl) ?_
   exact hh.h
   done)
 |fail) : p:=k ⟨h⟩
theorem g1_ {p q : Prop} (h : q) (k : Bx q → p:=by
 first
 |(intro hh
   first | refine sa_ ?_ | refine qd ?_ (c:=by first | exact we _ | exact f_ref02Shown _ | exact zit _ | exact f_ref02Wide _ | fail) | refine j0 ?_ | refine zr ?_ (c:=by intro hk hk2; first | exact we _ | exact f_ref02Shown _ | exact zit _ | exact f_ref02Wide _ | fail) | refine sw_ ?_
   exact hh.h
   done)
 |fail) : p:=k ⟨h⟩
theorem g2_ {p q : Prop} (h : q) (k : Bx q → p:=by
 first
 |(intro hh
   first | refine sa_ ?_ | refine j0 ?_ | refine sw_ ?_
   exact hh.h
   done)
 |fail) : p:=k ⟨h⟩
theorem g3_ {p q : Prop} (h : q) (k : Bx q → p:=by
 first
 |(intro hh
   first | refine sa_ ?_ | refine qd ?_ (c:=by first | exact zvd _ | exact f_ref05Put _ | exact wi _ | exact f_ref05Is _ | fail) | refine j0 ?_ | refine zr ?_ (c:=by intro hk hk2; first | exact zvd _ | exact f_ref05Put _ | exact wi _ | exact f_ref05Is _ | fail) | refine sw_ ?_
   exact hh.h
   done)
 |fail) : p:=k ⟨h⟩
theorem g4_ {p q : Prop} (h : q) (k : Bx q → p:=by
 first
 |(intro hh
   first | refine sa_ ?_ | refine qd ?_ (c:=by first | exact c1 | exact c2 | exact z16 _ (by omega) | exact f_digits _ (by omega) | fail) | refine jd ?_ (hy:=by first | (apply zr2 rfl un_; exact oo_; omega) | fail) | refine j0 ?_ | refine zr ?_ (c:=by intro hk hk2; first | exact c1 | exact c2 | exact z16 _ (by omega) | exact f_digits _ (by omega) | fail) | refine qj ?_ (hy:=by intro hk hk2; first | (apply zr2 rfl un_; exact oo_; omega) | fail) | refine sw_ ?_
   exact hh.h
   done)
 |fail) : p:=k ⟨h⟩
theorem g5_ {p q : Prop} (h : q) (k : Bx q → p:=by
 first
 |(intro hh
   first | refine sa_ ?_ | refine qd ?_ (c:=by first | exact c1 | fail) | refine j0 ?_ | refine zr ?_ (c:=by intro hk hk2; first | exact c1 | fail) | refine sw_ ?_
   exact hh.h
   done)
 |fail) : p:=k ⟨h⟩
theorem g6_ {p q : Prop} (h : q) (k : Bx q → p:=by
 first
 |(intro hh
   first | refine z80 ?_ (by rfl)
   exact hh.h
   done)
 |fail) : p:=k ⟨h⟩
theorem g7_ {p q : Prop} (h : q) (k : Bx q → p:=by
 first
 |(intro hh
   first | refine sa_ ?_ | refine qd ?_ (c:=by first | exact c1 | exact c2 | fail) | refine j0 ?_ | refine zr ?_ (c:=by intro hk hk2; first | exact c1 | exact c2 | fail) | refine sw_ ?_
   exact hh.h
   done)
 |fail) : p:=k ⟨h⟩
theorem g8_ {p q : Prop} (h : q) (k : Bx q → p:=by
 first
 |(intro hh
   first | refine sa_ ?_ | refine qd ?_ (c:=by first | exact c1 | exact zj8 | fail) | refine j0 ?_ | refine zr ?_ (c:=by intro hk hk2; first | exact c1 | exact zj8 | fail) | refine sw_ ?_
   exact hh.h
   done)
 |fail) : p:=k ⟨h⟩
theorem g9_ {p q : Prop} (h : q) (k : Bx q → p:=by
 first
 |(intro hh
   first | refine sa_ ?_ | refine qd ?_ (c:=by first | exact c1 | exact we _ | exact zb8 _ | exact zg_ _ | fail) | refine j0 ?_ | refine zr ?_ (c:=by intro hk hk2; first | exact c1 | exact we _ | exact zb8 _ | exact zg_ _ | fail) | refine sw_ ?_
   exact hh.h
   done)
 |fail) : p:=k ⟨h⟩
theorem z51 {p q : Prop} (h : q) (k : Bx q → p:=by
 first
 |(intro hh
   first | refine sa_ ?_ | refine qd ?_ (c:=by first | exact zj8 | fail) | refine j0 ?_ | refine zr ?_ (c:=by intro hk hk2; first | exact zj8 | fail) | refine sw_ ?_
   exact hh.h
   done)
 |fail) : p:=k ⟨h⟩
theorem qbc {p q : Prop} (h : q) (k : Bx q → p:=by
 first
 |(intro hh
   first | refine sa_ ?_ | refine qd ?_ (c:=by first | exact zvz _ _ _ hl | exact cf | fail) | refine j0 ?_ | refine zr ?_ (c:=by intro hk hk2; first | exact zvz _ _ _ hl | exact cf | fail) | refine sw_ ?_
   exact hh.h
   done)
 |fail) : p:=k ⟨h⟩
theorem z7n {p q : Prop} (h : q) (k : Bx q → p:=by
 first
 |(intro hh
   first | refine sa_ ?_ | refine qd ?_ (c:=by first | exact zvh _ (by simp only [List.length_take,List.length_drop]; omega) | fail) | refine j0 ?_ | refine zr ?_ (c:=by intro hk hk2; first | exact zvh _ (by simp only [List.length_take,List.length_drop]; omega) | fail) | refine sw_ ?_
   exact hh.h
   done)
 |fail) : p:=k ⟨h⟩
theorem z_8 {p q : Prop} (h : q) (k : Bx q → p:=by
 first
 |(intro hh
   first | refine sa_ ?_ | refine qd ?_ (c:=by first | exact zfn (_,_) | exact f_ref02Is (_,_) | fail) | refine j0 ?_ | refine zr ?_ (c:=by intro hk hk2; first | exact zfn (_,_) | exact f_ref02Is (_,_) | fail) | refine sw_ ?_
   exact hh.h
   done)
 |fail) : p:=k ⟨h⟩
theorem z9g {p q : Prop} (h : q) (k : Bx q → p:=by
 first
 |(intro hh
   first | refine sa_ ?_ | refine qd ?_ (c:=by first | exact c1 | fail) | refine jd ?_ (hy:=by first | (apply wh rfl un_; exact oo_; done) | fail) | refine j0 ?_ | refine zr ?_ (c:=by intro hk hk2; first | exact c1 | fail) | refine qj ?_ (hy:=by intro hk hk2; first | (apply wh rfl un_; exact oo_; done) | fail) | refine sw_ ?_
   exact hh.h
   done)
 |fail) : p:=k ⟨h⟩
theorem zxp {p q : Prop} (h : q) (k : Bx q → p:=by
 first
 |(intro hh
   first | refine zqj ?_ | refine zq7 ?_
   exact hh.h
   done)
 |fail) : p:=k ⟨h⟩
theorem zxo {p q : Prop} (h : q) (k : Bx q → p:=by
 first
 |(intro hh
   first | refine sa_ ?_ | refine qd ?_ (c:=by first | exact cg | exact we _ | fail) | refine jd ?_ (hy:=by first | (apply ze rfl; exact oo_; done) | (apply ze rfl; exact ql; done) | (apply zft rfl un_; exact oo_; done) | (apply zl_ rfl un_ un_; (case hx=>exact oo_); (case hy=>exact oo_); (case hk=>exact (rfl : IntKind.u8 = IntKind.u8)); (case hM=>exact kx); (case hn=>rfl)) | fail) | refine j0 ?_ | refine zr ?_ (c:=by intro hk hk2; first | exact cg | exact we _ | fail) | refine qj ?_ (hy:=by intro hk hk2; first | (apply ze rfl; exact oo_; done) | (apply ze rfl; exact ql; done) | (apply zft rfl un_; exact oo_; done) | (apply zl_ rfl un_ un_; (case hx=>exact oo_); (case hy=>exact oo_); (case hk=>exact (rfl : IntKind.u8 = IntKind.u8)); (case hM=>exact kx); (case hn=>rfl)) | fail) | refine sw_ ?_
   exact hh.h
   done)
 |fail) : p:=k ⟨h⟩
theorem ze3 {p q : Prop} (h : q) (k : Bx q → p:=by
 first
 |(intro hh
   first | refine zqj ?_ | refine zq7 ?_ | refine sa_ ?_ | refine jd ?_ (hy:=by first | (apply ze rfl; exact oo_; done) | (apply ze rfl; exact ql; done) | (apply zft rfl un_; exact oo_; done) | fail) | refine j0 ?_ | refine qj ?_ (hy:=by intro hk hk2; first | (apply ze rfl; exact oo_; done) | (apply ze rfl; exact ql; done) | (apply zft rfl un_; exact oo_; done) | fail) | refine sw_ ?_
   exact hh.h
   done)
 |fail) : p:=k ⟨h⟩
theorem zph {p q : Prop} (h : q) (k : Bx q → p:=by
 first
 |(intro hh
   first | refine sa_ ?_ | refine qd ?_ (c:=by first | exact c1 | exact c2 | fail) | refine jd ?_ (hy:=by first | exact AY.sub (qa (T:=fnT) z8e rfl zsw z4r rfl (by decide) ⟨_,px_,rfl⟩) jc | fail) | refine j0 ?_ | refine zr ?_ (c:=by intro hk hk2; first | exact c1 | exact c2 | fail) | refine qj ?_ (hy:=by intro hk hk2; first | exact AY.sub (qa (T:=fnT) z8e rfl zsw z4r rfl (by decide) ⟨_,px_,rfl⟩) jc | fail) | refine sw_ ?_
   exact hh.h
   done)
 |fail) : p:=k ⟨h⟩
theorem zxn {p q : Prop} (h : q) (k : Bx q → p:=by
 first
 |(intro hh
   first | refine sa_ ?_ | refine qd ?_ (c:=by first | exact c1 | fail) | refine jd ?_ (hy:=by first | (apply ze rfl; exact oo_; done) | (apply ze rfl; exact ql; done) | fail) | refine j0 ?_ | refine zr ?_ (c:=by intro hk hk2; first | exact c1 | fail) | refine qj ?_ (hy:=by intro hk hk2; first | (apply ze rfl; exact oo_; done) | (apply ze rfl; exact ql; done) | fail) | refine sw_ ?_
   exact hh.h
   done)
 |fail) : p:=k ⟨h⟩
theorem z14 {p q : Prop} (h : q) (k : Bx q → p:=by
 first
 |(intro hh
   first | refine zes ?_ | refine ws ?_ | refine zi2 ?_ | refine z5p ?_ | refine z5q ?_ | refine z5o ?_ | refine z5v ?_ | refine z5w rfl ?_ | refine zq8 rfl ?_ | refine z5u ?_ | refine zbn ?_ | refine zd7 ?_ | refine zi1 ?_ | refine zd6 ?_
   exact hh.h
   done)
 |fail) : p:=k ⟨h⟩
theorem qbb {p q : Prop} (h : q) (k : Bx q → p:=by
 first
 |(intro hh
   first | refine sa_ ?_ | refine qd ?_ (c:=by first | exact c1 | exact cw | fail) | refine jd ?_ (hy:=by first | (apply ze rfl; exact oo_; done) | (apply ze rfl; exact ql; done) | fail) | refine j0 ?_ | refine zr ?_ (c:=by intro hk hk2; first | exact c1 | exact cw | fail) | refine qj ?_ (hy:=by intro hk hk2; first | (apply ze rfl; exact oo_; done) | (apply ze rfl; exact ql; done) | fail) | refine sw_ ?_
   exact hh.h
   done)
 |fail) : p:=k ⟨h⟩
theorem z50 {p q : Prop} (h : q) (k : Bx q → p:=by
 first
 |(intro hh
   first | refine sa_ ?_ | refine qd ?_ (c:=by first | exact c1 | exact zvy _ _ _ | exact f_ref03IsA _ _ _ | fail)
   exact hh.h
   done)
 |fail) : p:=k ⟨h⟩
theorem z5z {p q : Prop} (h : q) (k : Bx q → p:=by
 first
 |(intro hh
   first | refine j0 ?_ | refine zr ?_ (c:=by intro hk hk2; first | exact c1 | exact zvy _ _ _ | exact f_ref03IsA _ _ _ | fail)
   exact hh.h
   done)
 |fail) : p:=k ⟨h⟩
theorem z_7 {p q : Prop} (h : q) (k : Bx q → p:=by
 first
 |(intro hh
   first | refine sa_ ?_ | refine qd ?_ (c:=by first | exact c1 | exact c2 | exact f_within _ _ (by omega) | fail) | refine j0 ?_ | refine zr ?_ (c:=by intro hk hk2; first | exact c1 | exact c2 | exact f_within _ _ (by omega) | fail) | refine sw_ ?_
   exact hh.h
   done)
 |fail) : p:=k ⟨h⟩
theorem z7m {p q : Prop} (h : q) (k : Bx q → p:=by
 first
 |(intro hh
   first | refine sa_ ?_ | refine qd ?_ (c:=by first | exact c1 | exact c2 | exact c3 | fail) | refine j0 ?_ | refine zr ?_ (c:=by intro hk hk2; first | exact c1 | exact c2 | exact c3 | fail) | refine sw_ ?_
   exact hh.h
   done)
 |fail) : p:=k ⟨h⟩
theorem z7l {p q : Prop} (h : q) (k : Bx q → p:=by
 first
 |(intro hh
   first | refine sa_ ?_ | refine qd ?_ (c:=by first | exact c1 | exact zvu _ (by omega) | fail) | refine j0 ?_ | refine zr ?_ (c:=by intro hk hk2; first | exact c1 | exact zvu _ (by omega) | fail) | refine sw_ ?_
   exact hh.h
   done)
 |fail) : p:=k ⟨h⟩
theorem z_6 {p q : Prop} (h : q) (k : Bx q → p:=by
 first
 |(intro hh
   first | refine sa_ ?_ | refine jd ?_ (hy:=by first | (apply kh rfl; exact oo_; exact v1_ (List.Mem.head _) rfl) | (apply kh rfl; exact oo_; exact v1_ (List.Mem.tail _ (List.Mem.head _)) rfl) | fail) | refine j0 ?_ | refine qj ?_ (hy:=by intro hk hk2; first | (apply kh rfl; exact oo_; exact v1_ (List.Mem.head _) rfl) | (apply kh rfl; exact oo_; exact v1_ (List.Mem.tail _ (List.Mem.head _)) rfl) | fail) | refine sw_ ?_
   exact hh.h
   done)
 |fail) : p:=k ⟨h⟩
theorem qba {p q : Prop} (h : q) (k : Bx q → p:=by
 first
 |(intro hh
   first | refine sa_ ?_ | refine jd ?_ (hy:=by first | (apply zww rfl; exact os_) | fail) | refine j0 ?_ | refine qj ?_ (hy:=by intro hk hk2; first | (apply zww rfl; exact os_) | fail) | refine sw_ ?_
   exact hh.h
   done)
 |fail) : p:=k ⟨h⟩
theorem zsm {p q : Prop} (h : q) (k : Bx q → p:=by
 first
 |(intro hh
   first | refine sa_ ?_ | refine qd ?_ (c:=by first | exact zfn (_,_) | exact wj (_,2) | exact wj (_,1) | exact wj (_,_) | fail) | refine jd ?_ (hy:=by first | (apply zho rfl (a:=3) (b:=1); exact oo_; exact oo_; exact zb5) | (apply zho rfl (a:=3) (b:=2); exact oo_; exact oo_; exact zb5) | (apply ze2 rfl; exact oo_; exact oo_; exact zh2) | (apply ze2 rfl; exact ql; exact ql; exact zh2) | (apply zzl rfl; exact oo_; exact oo_;  exact zh2) | exact z2h rfl hk (by simp) | fail) | refine j0 ?_ | refine zr ?_ (c:=by intro hk hk2; first | exact zfn (_,_) | exact wj (_,2) | exact wj (_,1) | exact wj (_,_) | fail) | refine qj ?_ (hy:=by intro hk hk2; first | (apply zho rfl (a:=3) (b:=1); exact oo_; exact oo_; exact zb5) | (apply zho rfl (a:=3) (b:=2); exact oo_; exact oo_; exact zb5) | (apply ze2 rfl; exact oo_; exact oo_; exact zh2) | (apply ze2 rfl; exact ql; exact ql; exact zh2) | (apply zzl rfl; exact oo_; exact oo_;  exact zh2) | exact z2h rfl hk (by simp) | fail) | refine sw_ ?_
   exact hh.h
   done)
 |fail) : p:=k ⟨h⟩
theorem qa_ {p q : Prop} (h : q) (k : Bx q → p:=by
 first
 |(intro hh
   first | refine sa_ ?_ | refine qd ?_ (c:=by first | exact cw | fail) | refine j0 ?_ | refine zr ?_ (c:=by intro hk hk2; first | exact cw | fail) | refine sw_ ?_
   exact hh.h
   done)
 |fail) : p:=k ⟨h⟩
theorem z_5 {p q : Prop} (h : q) (k : Bx q → p:=by
 first
 |(intro hh
   first | refine j0 ?_ | refine zr ?_ (c:=by intro hk hk2; first | exact cm | fail)
   exact hh.h
   done)
 |fail) : p:=k ⟨h⟩
theorem z33 {p q : Prop} (h : q) (k : Bx q → p:=by
 first
 |(intro hh
   first | refine sa_ ?_ | refine qd ?_ (c:=by first | exact ci | exact cv1 | exact cv2 | fail) | refine jd ?_ (hy:=by first | (apply wh (c:=(k1,a1,e1,r1)) rfl un_; exact oo_; done) | (apply wh (c:=(k2,a2,e2,r2)) rfl un_; exact oo_; done) | fail) | refine j0 ?_ | refine zr ?_ (c:=by intro hk hk2; first | exact ci | exact cv1 | exact cv2 | fail) | refine qj ?_ (hy:=by intro hk hk2; first | (apply wh (c:=(k1,a1,e1,r1)) rfl un_; exact oo_; done) | (apply wh (c:=(k2,a2,e2,r2)) rfl un_; exact oo_; done) | fail) | refine sw_ ?_
   exact hh.h
   done)
 |fail) : p:=k ⟨h⟩
theorem z_4 {p q : Prop} (h : q) (k : Bx q → p:=by
 first
 |(intro hh
   first | refine sa_ ?_ | refine qd ?_ (c:=by first | exact ci | fail) | refine j0 ?_ | refine zr ?_ (c:=by intro hk hk2; first | exact ci | fail) | refine sw_ ?_
   exact hh.h
   done)
 |fail) : p:=k ⟨h⟩
theorem zzy {p q : Prop} (h : q) (k : Bx q → p:=by
 first
 |(intro hh
   first | refine qj ?_ (hy:=by intro hk hk2; first | (apply kh rfl; exact ql; apply r1_; exact kx; exact zxj gb_; rfl) | fail) | refine jd ?_ (hy:=by first | (apply kh rfl; exact oo_; apply r1_; exact kx; exact zxj gb_; rfl) | fail) | refine zxx ?_ (hc:=z2c) | refine zxx ?_ (hc:=ca_gu) | refine sa_ ?_ | refine qd ?_ (c:=by first | exact zbf | exact wj (32,0) | exact wj (_,_) | fail) | refine jd ?_ (hy:=by first | exact AY.sub (qa (T:=qs) [(32,0)] rfl un_ el_ rfl (by decide) ⟨_,px_,rfl⟩) jc | fail) | refine j0 ?_ | refine zr ?_ (c:=by intro hk hk2; first | exact zbf | exact wj (32,0) | exact wj (_,_) | fail) | refine qj ?_ (hy:=by intro hk hk2; first | exact AY.sub (qa (T:=qs) [(32,0)] rfl un_ el_ rfl (by decide) ⟨_,px_,rfl⟩) jc | fail) | refine sw_ ?_
   exact hh.h
   done)
 |fail) : p:=k ⟨h⟩
theorem zzx {p q : Prop} (h : q) (k : Bx q → p:=by
 first
 |(intro hh
   first | refine zxx ?_ (hc:=z2c) | refine sa_ ?_ | refine qd ?_ (c:=by first | exact zbf | exact wj (32,0) | fail)
   exact hh.h
   done)
 |fail) : p:=k ⟨h⟩
theorem zzw {p q : Prop} (h : q) (k : Bx q → p:=by
 first
 |(intro hh
   first | refine j0 ?_ | refine zr ?_ (c:=by intro hk hk2; first | exact zbf | exact wj (32,0) | fail)
   exact hh.h
   done)
 |fail) : p:=k ⟨h⟩
theorem z9f {p q : Prop} (h : q) (k : Bx q → p:=by
 first
 |(intro hh
   first | refine sa_ ?_ | refine qd ?_ (c:=by first | exact c1 | exact c2 | fail) | refine jd ?_ (hy:=by first | (apply ze rfl; exact oo_; done) | (apply ze rfl; exact ql; done) | fail) | refine j0 ?_ | refine zr ?_ (c:=by intro hk hk2; first | exact c1 | exact c2 | fail) | refine qj ?_ (hy:=by intro hk hk2; first | (apply ze rfl; exact oo_; done) | (apply ze rfl; exact ql; done) | fail) | refine sw_ ?_
   exact hh.h
   done)
 |fail) : p:=k ⟨h⟩
theorem zxm {p q : Prop} (h : q) (k : Bx q → p:=by
 first
 |(intro hh
   first | refine sa_ ?_ | refine qd ?_ (c:=by first | exact c1 | exact c2 | exact c3 | exact uf _ | fail)
   exact hh.h
   done)
 |fail) : p:=k ⟨h⟩
theorem zxl {p q : Prop} (h : q) (k : Bx q → p:=by
 first
 |(intro hh
   first | refine j0 ?_ | refine zr ?_ (c:=by intro hk hk2; first | exact c1 | exact c2 | exact c3 | exact uf _ | fail)
   exact hh.h
   done)
 |fail) : p:=k ⟨h⟩
theorem z13 {p q : Prop} (h : q) (k : Bx q → p:=by
 first
 |(intro hh
   first | refine sa_ ?_ | refine qd ?_ (c:=by first | exact c1 | exact c2 | exact c3 | exact c4 | fail)
   exact hh.h
   done)
 |fail) : p:=k ⟨h⟩
theorem z12 {p q : Prop} (h : q) (k : Bx q → p:=by
 first
 |(intro hh
   first | refine j0 ?_ | refine zr ?_ (c:=by intro hk hk2; first | exact c1 | exact c2 | exact c3 | exact c4 | fail)
   exact hh.h
   done)
 |fail) : p:=k ⟨h⟩
theorem z7k {p q : Prop} (h : q) (k : Bx q → p:=by
 first
 |(intro hh
   first | refine jd ?_ (hy:=by first | (apply zpb rfl; exact oo_; exact on_; apply zgu un_ el_; exact hat) | fail) | refine jd ?_ (hy:=by first | (apply zpb rfl; exact ql; exact zih; apply zgu un_ el_; exact hat2) | fail) | refine sa_ ?_ | refine qd ?_ (c:=by first | exact c1 | exact c2 | exact wj (_,_) | fail) | refine jd ?_ (hy:=by first | exact zc_ rfl zku sz_ oo_ (Nat.le_of_ble_eq_true rfl) | exact zc_ rfl zku sz_ ql (Nat.le_of_ble_eq_true rfl) | fail) | refine j0 ?_ | refine zr ?_ (c:=by intro hk hk2; first | exact c1 | exact c2 | exact wj (_,_) | fail) | refine qj ?_ (hy:=by intro hk hk2; first | exact zc_ rfl zku sz_ oo_ (Nat.le_of_ble_eq_true rfl) | exact zc_ rfl zku sz_ ql (Nat.le_of_ble_eq_true rfl) | fail) | refine sw_ ?_
   exact hh.h
   done)
 |fail) : p:=k ⟨h⟩
theorem z7j {p q : Prop} (h : q) (k : Bx q → p:=by
 first
 |(intro hh
   first | refine sa_ ?_ | refine qd ?_ (c:=by first | exact c1 | exact c2 | exact wj (_,_) | fail) | refine jd ?_ (hy:=by first | (apply qk rfl un_ el_; exact oo_; exact kx; exact lo_; exact hi_; exact heq; exact le_; done) | fail) | refine j0 ?_ | refine zr ?_ (c:=by intro hk hk2; first | exact c1 | exact c2 | exact wj (_,_) | fail) | refine qj ?_ (hy:=by intro hk hk2; first | (apply qk rfl un_ el_; exact oo_; exact kx; exact lo_; exact hi_; exact heq; exact le_; done) | fail) | refine sw_ ?_
   exact hh.h
   done)
 |fail) : p:=k ⟨h⟩
theorem z9e {p q : Prop} (h : q) (k : Bx q → p:=by
 first
 |(intro hh
   first | refine jd ?_ (hy:=by first | (apply zpb rfl; exact oo_; exact on_; apply zgu un_ el_; exact zxj gb_) | fail) | refine sa_ ?_ | refine jd ?_ (hy:=by first | (apply ze2 rfl; exact oo_; exact oo_; exact zh2) | fail) | refine j0 ?_ | refine qj ?_ (hy:=by intro hk hk2; first | (apply ze2 rfl; exact oo_; exact oo_; exact zh2) | fail) | refine sw_ ?_
   exact hh.h
   done)
 |fail) : p:=k ⟨h⟩
theorem zzv {p q : Prop} (h : q) (k : Bx q → p:=by
 first
 |(intro hh
   first | refine sa_ ?_ | refine qd ?_ (c:=by first | exact c1 | exact c2 | exact c3 | exact c4 | exact c5 | fail) | refine jd ?_ (hy:=by first | (apply zn rfl; exact oo_; exact oo_) | (apply zx rfl; exact oo_; exact oo_) | fail) | refine j0 ?_ | refine zr ?_ (c:=by intro hk hk2; first | exact c1 | exact c2 | exact c3 | exact c4 | exact c5 | fail) | refine qj ?_ (hy:=by intro hk hk2; first | (apply zn rfl; exact oo_; exact oo_) | (apply zx rfl; exact oo_; exact oo_) | fail) | refine sw_ ?_
   exact hh.h
   done)
 |fail) : p:=k ⟨h⟩
theorem z7i {p q : Prop} (h : q) (k : Bx q → p:=by
 first
 |(intro hh
   first | refine sa_ ?_ | refine qd ?_ (c:=by first | exact c1 | fail) | refine jd ?_ (hy:=by first | (apply zn rfl; exact oo_; exact oo_; done) | (apply vf rfl un_ el_; exact oo_; exact lo_; exact on_; exact on_; exact le_; exact le_; done) | fail) | refine j0 ?_ | refine zr ?_ (c:=by intro hk hk2; first | exact c1 | fail) | refine qj ?_ (hy:=by intro hk hk2; first | (apply zn rfl; exact oo_; exact oo_; done) | (apply vf rfl un_ el_; exact oo_; exact lo_; exact on_; exact on_; exact le_; exact le_; done) | fail) | refine sw_ ?_
   exact hh.h
   done)
 |fail) : p:=k ⟨h⟩
theorem z32 {p q : Prop} (h : q) (k : Bx q → p:=by
 first
 |(intro hh
   first | refine zqa (fun _ _ _ h=>h) ?_ | refine zqb ?_ | refine sa_ ?_ | refine qd ?_ (c:=by first | exact c1 | exact c2 | exact c3 | fail) | refine jd ?_ (hy:=by first | (apply wh rfl un_; exact oo_; done) | fail) | refine j0 ?_ | refine zr ?_ (c:=by intro hk hk2; first | exact c1 | exact c2 | exact c3 | fail) | refine qj ?_ (hy:=by intro hk hk2; first | (apply wh rfl un_; exact oo_; done) | fail) | refine sw_ ?_
   exact hh.h
   done)
 |fail) : p:=k ⟨h⟩
theorem z_3 {p q : Prop} (h : q) (k : Bx q → p:=by
 first
 |(intro hh
   first | refine sa_ ?_ | refine qd ?_ (c:=by first | exact c1 | exact c2 | exact zbc _ gb_ | exact f_ref05Cost _ gb_ | exact c3 | fail) | refine jd ?_ (hy:=by first | (apply wh rfl un_; exact oo_; done) | (apply vf rfl un_ el_; exact oo_; exact lo_; exact on_; exact on_; exact le_; exact le_; done) | (apply wn rfl un_ el_; exact oo_; exact oo_; exact gb_; (simp only [maxLen]; exact gb_); done) | fail) | refine j0 ?_ | refine zr ?_ (c:=by intro hk hk2; first | exact c1 | exact c2 | exact zbc _ gb_ | exact f_ref05Cost _ gb_ | exact c3 | fail) | refine qj ?_ (hy:=by intro hk hk2; first | (apply wh rfl un_; exact oo_; done) | (apply vf rfl un_ el_; exact oo_; exact lo_; exact on_; exact on_; exact le_; exact le_; done) | (apply wn rfl un_ el_; exact oo_; exact oo_; exact gb_; (simp only [maxLen]; exact gb_); done) | fail) | refine sw_ ?_
   exact hh.h
   done)
 |fail) : p:=k ⟨h⟩
theorem z7h {p q : Prop} (h : q) (k : Bx q → p:=by
 first
 |(intro hh
   first | refine sa_ ?_ | refine qd ?_ (c:=by first | exact c1 | exact wi _ | exact f_ref05Is _ | exact zbc _ gb_ | exact f_ref05Cost _ gb_ | fail) | refine jd ?_ (hy:=by first | (apply wh rfl un_; exact oo_; done) | fail) | refine j0 ?_ | refine zr ?_ (c:=by intro hk hk2; first | exact c1 | exact wi _ | exact f_ref05Is _ | exact zbc _ gb_ | exact f_ref05Cost _ gb_ | fail) | refine qj ?_ (hy:=by intro hk hk2; first | (apply wh rfl un_; exact oo_; done) | fail) | refine sw_ ?_
   exact hh.h
   done)
 |fail) : p:=k ⟨h⟩
theorem z5y {p q : Prop} (h : q) (k : Bx q → p:=by
 first
 |(intro hh
   first | refine jd ?_ (hy:=by first | (apply zpb rfl; exact oo_; exact on_; apply zgu un_ el_; exact hat) | fail) | refine sa_ ?_ | refine qd ?_ (c:=by first | exact c1 | exact c2 | exact c3 | exact c4 | exact c5 | exact c6 | exact c7 | fail) | refine j0 ?_ | refine zr ?_ (c:=by intro hk hk2; first | exact c1 | exact c2 | exact c3 | exact c4 | exact c5 | exact c6 | exact c7 | fail) | refine sw_ ?_
   exact hh.h
   done)
 |fail) : p:=k ⟨h⟩
theorem z31 {p q : Prop} (h : q) (k : Bx q → p:=by
 first
 |(intro hh
   first | refine jd ?_ (hy:=by first | (apply zpb rfl; exact oo_; exact on_; apply zgu un_ el_; exact hat) | fail) | refine zqa (fun _ _ _ h=>h) ?_ | refine zqb ?_ | refine sa_ ?_ | refine qd ?_ (c:=by first | exact c1 | fail) | refine j0 ?_ | refine zr ?_ (c:=by intro hk hk2; first | exact c1 | fail) | refine sw_ ?_
   exact hh.h
   done)
 |fail) : p:=k ⟨h⟩
theorem z5x {p q : Prop} (h : q) (k : Bx q → p:=by
 first
 |(intro hh
   first | refine jd ?_ (hy:=by first | (apply zpb rfl; exact oo_; exact on_; apply zgu un_ el_; exact hat) | fail) | refine jd ?_ (hy:=by first | (apply zpb rfl; exact oo_; exact on_; apply zgu un_ el_; exact hat2) | fail) | refine sa_ ?_ | refine jd ?_ (hy:=by first | (apply ze2 rfl; exact oo_; exact oo_; exact zh2) | fail) | refine j0 ?_ | refine qj ?_ (hy:=by intro hk hk2; first | (apply ze2 rfl; exact oo_; exact oo_; exact zh2) | fail) | refine sw_ ?_
   exact hh.h
   done)
 |fail) : p:=k ⟨h⟩
theorem zsl {p q : Prop} (h : q) (k : Bx q → p:=by
 first
 |(intro hh
   first | refine qad ?_ | refine zes ?_ | refine ws ?_ | refine zi2 ?_ | refine z5p ?_ | refine z5q ?_ | refine z5o ?_ | refine z5v ?_ | refine z5w rfl ?_ | refine zq8 rfl ?_ | refine z5u ?_ | refine zbn ?_ | refine zd7 ?_ | refine zi1 ?_ | refine zd6 ?_
   exact hh.h
   done)
 |fail) : p:=k ⟨h⟩
theorem zxk {p q : Prop} (h : q) (k : Bx q → p:=by
 first
 |(intro hh
   first | refine sa_ ?_ | refine qd ?_ (c:=by first | exact c1 | exact c2 | exact c3 | fail) | refine jd ?_ (hy:=by first | (apply ze rfl; exact oo_; done) | (apply zn rfl; exact oo_; exact oo_) | fail) | refine j0 ?_ | refine zr ?_ (c:=by intro hk hk2; first | exact c1 | exact c2 | exact c3 | fail) | refine qj ?_ (hy:=by intro hk hk2; first | (apply ze rfl; exact oo_; done) | (apply zn rfl; exact oo_; exact oo_) | fail) | refine sw_ ?_
   exact hh.h
   done)
 |fail) : p:=k ⟨h⟩
theorem zfk {p q : Prop} (h : q) (k : Bx q → p:=by
 first
 |(intro hh
   first | (with_reducible refine zoc ?_)
   exact hh.h
   done)
 |fail) : p:=k ⟨h⟩
theorem z_2 {p q : Prop} (h : q) (k : Bx q → p:=by
 first
 |(intro hh
   first | refine sa_ ?_ | refine qd ?_ (c:=by first | exact c1 | exact c2 | exact c3 | exact c4 | fail) | refine jd ?_ (hy:=by first | (apply ze rfl; exact oo_; done) | (apply vf rfl un_ el_; exact oo_; exact lo_; exact on_; exact on_; exact le_; exact le_; done) | (apply wn rfl un_ el_; exact oo_; exact oo_; exact gb_; (simp only [maxLen]; exact gb_); done) | (apply z8q rfl un_; exact oo_; done) | fail) | refine j0 ?_ | refine zr ?_ (c:=by intro hk hk2; first | exact c1 | exact c2 | exact c3 | exact c4 | fail) | refine qj ?_ (hy:=by intro hk hk2; first | (apply ze rfl; exact oo_; done) | (apply vf rfl un_ el_; exact oo_; exact lo_; exact on_; exact on_; exact le_; exact le_; done) | (apply wn rfl un_ el_; exact oo_; exact oo_; exact gb_; (simp only [maxLen]; exact gb_); done) | (apply z8q rfl un_; exact oo_; done) | fail) | refine sw_ ?_
   exact hh.h
   done)
 |fail) : p:=k ⟨h⟩
theorem z_1 {p q : Prop} (h : q) (k : Bx q → p:=by
 first
 |(intro hh
   first | refine zam ?_ | refine zes ?_ | refine ws ?_ | refine zi2 ?_ | refine z5p ?_ | refine z5q ?_ | refine z5o ?_ | refine z5v ?_ | refine z5w rfl ?_ | refine zq8 rfl ?_ | refine z5u ?_ | refine zbn ?_ | refine zd7 ?_ | refine zi1 ?_ | refine zd6 ?_
   exact hh.h
   done)
 |fail) : p:=k ⟨h⟩
theorem z_0 {p q : Prop} (h : q) (k : Bx q → p:=by
 first
 |(intro hh
   first | refine sa_ ?_ | refine qd ?_ (c:=by first | exact c1 | exact c2 | fail) | refine jd ?_ (hy:=by first | (apply ze2 rfl; exact oo_; exact oo_; exact z7_) | fail) | refine j0 ?_ | refine zr ?_ (c:=by intro hk hk2; first | exact c1 | exact c2 | fail) | refine qj ?_ (hy:=by intro hk hk2; first | (apply ze2 rfl; exact oo_; exact oo_; exact z7_) | fail) | refine sw_ ?_
   exact hh.h
   done)
 |fail) : p:=k ⟨h⟩
theorem zrb {p q : Prop} (h : q) (k : Bx q → p:=by
 first
 |(intro hh
   first | refine sa_ ?_ | refine qd ?_ (c:=by first | exact c1 | exact c2 | exact c3 | fail) | refine jd ?_ (hy:=by first | (apply zwx rfl un_ el_; exact on_; exact on_; exact gb_; (simp only [maxLen]; exact gb_); done) | fail) | refine j0 ?_ | refine zr ?_ (c:=by intro hk hk2; first | exact c1 | exact c2 | exact c3 | fail) | refine qj ?_ (hy:=by intro hk hk2; first | (apply zwx rfl un_ el_; exact on_; exact on_; exact gb_; (simp only [maxLen]; exact gb_); done) | fail) | refine sw_ ?_
   exact hh.h
   done)
 |fail) : p:=k ⟨h⟩
theorem z11 {p q : Prop} (h : q) (k : Bx q → p:=by
 first
 |(intro hh
   first | refine sa_ ?_ | refine qd ?_ (c:=by first | exact zbe | exact c1 | exact c2 | exact c3 | exact c4 | exact c5 | exact c6 | exact c7 | exact c8 | exact c9 | exact is2 | exact wk _ (by omega) | fail) | refine j0 ?_ | refine zr ?_ (c:=by intro hk hk2; first | exact zbe | exact c1 | exact c2 | exact c3 | exact c4 | exact c5 | exact c6 | exact c7 | exact c8 | exact c9 | exact is2 | exact wk _ (by omega) | fail) | refine sw_ ?_ | refine zru ?_
   exact hh.h
   done)
 |fail) : p:=k ⟨h⟩
theorem z9d {p q : Prop} (h : q) (k : Bx q → p:=by
 first
 |(intro hh
   first | refine sa_ ?_ | refine qd ?_ (c:=by first | exact zbe | exact c1 | exact c2 | exact c3 | exact c4 | exact c5 | exact c6 | exact c7 | exact c8 | exact c9 | exact is2 | exact wk _ (by omega) | fail) | refine jd ?_ (hy:=by first | (apply zn rfl; exact oo_; exact oo_) | (apply zn rfl; exact ql; exact ql) | fail) | refine j0 ?_ | refine zr ?_ (c:=by intro hk hk2; first | exact zbe | exact c1 | exact c2 | exact c3 | exact c4 | exact c5 | exact c6 | exact c7 | exact c8 | exact c9 | exact is2 | exact wk _ (by omega) | fail) | refine qj ?_ (hy:=by intro hk hk2; first | (apply zn rfl; exact oo_; exact oo_) | (apply zn rfl; exact ql; exact ql) | fail) | refine sw_ ?_
   exact hh.h
   done)
 |fail) : p:=k ⟨h⟩
theorem zra {p q : Prop} (h : q) (k : Bx q → p:=by
 first
 |(intro hh
   first | refine sa_ ?_ | refine qd ?_ (c:=by first | exact zbe | exact c1 | exact c2 | exact c3 | exact d1 | exact d2 | exact d3 | exact d4 | exact d5 | fail) | refine jd ?_ (hy:=by first | (apply zpb rfl; exact oo_; exact on_; apply zgu un_ el_; exact hat) | (apply zx rfl; exact oo_; exact oo_) | (apply zkn rfl; exact oo_; exact oo_; exact hfit) | (apply zlo rfl; exact oo_; exact zqx un_) | (apply zlo rfl; exact ql; exact zqx un_) | fail) | refine j0 ?_ | refine zr ?_ (c:=by intro hk hk2; first | exact zbe | exact c1 | exact c2 | exact c3 | exact d1 | exact d2 | exact d3 | exact d4 | exact d5 | fail) | refine qj ?_ (hy:=by intro hk hk2; first | (apply zpb rfl; exact oo_; exact on_; apply zgu un_ el_; exact hat) | (apply zx rfl; exact oo_; exact oo_) | (apply zkn rfl; exact oo_; exact oo_; exact hfit) | (apply zlo rfl; exact oo_; exact zqx un_) | (apply zlo rfl; exact ql; exact zqx un_) | fail) | refine sw_ ?_ | refine zru ?_
   exact hh.h
   done)
 |fail) : p:=k ⟨h⟩
theorem zq_ {p q : Prop} (h : q) (k : Bx q → p:=by
 first
 |(intro hh
   first | refine zam ?_ | refine zrt ?_
   exact hh.h
   done)
 |fail) : p:=k ⟨h⟩
theorem qa9 {p q : Prop} (h : q) (k : Bx q → p:=by
 first
 |(intro hh
   first | (with_reducible refine zoc ?_) | refine sa_ ?_ | refine jd ?_ (hy:=by first | (apply zkn rfl; exact oo_; exact oo_; exact hfit) | (apply zpb rfl; exact oo_; exact on_; exact z68 un_ sz_ hat) | (apply kh rfl; exact oo_; exact z66 zku sz_) | (apply zlo rfl; exact oo_; exact zqx un_) | fail) | refine j0 ?_ | refine qj ?_ (hy:=by intro hk hk2; first | (apply zkn rfl; exact oo_; exact oo_; exact hfit) | (apply zpb rfl; exact oo_; exact on_; exact z68 un_ sz_ hat) | (apply kh rfl; exact oo_; exact z66 zku sz_) | (apply zlo rfl; exact oo_; exact zqx un_) | fail) | refine sw_ ?_
   exact hh.h
   done)
 |fail) : p:=k ⟨h⟩
theorem e1_ {p : Prop} (h : p:=by first | (exfalso; omega) | fail) : p:=h
theorem e2_ {p : Prop} (h : p:=by first | (exfalso; simp at hb; done) | fail) : p:=h
theorem e3_ {p : Prop} (h : p:=by first | exact ⟨_,[],rl_,List.nil_sublist _,Sub.eq (congrArg B (hb0 (by rw [hr]; simp_all)).symm),rfl⟩ | exact ⟨k + 1,⟨by omega,nxt (by rw [hr]; simp_all)⟩,by omega,wx_,sl_⟩ | fail) : p:=h
theorem e4_ {p : Prop} (h : p:=by first | (exfalso; omega) | (exfalso; simp at hb; done) | fail) : p:=h
theorem e5_ {p : Prop} (h : p:=by first | (exfalso; omega) | (exfalso; simp at hb; done) | (exfalso; simp at hb; omega) | fail) : p:=h
theorem e6_ {p : Prop} (h : p:=by first | (exfalso; simp at hb; done) | exact ⟨_,_,rl_,sl_,u,rfl,rfl⟩ | exact ⟨_,[gsO u _],rl_,sl_,u,rfl,rfl⟩ | fail) : p:=h
theorem e7_ {p : Prop} (h : p:=by first | (exfalso; simp at hb; done) | exact ⟨_,[],rl_,List.nil_sublist _,Sub.refl _,rfl⟩ | exact ⟨_,[],rl_,List.nil_sublist _,z23,rfl⟩ | (exfalso; simp_all; done) | fail) : p:=h
theorem e8_ {p : Prop} (h : p:=by first | (exfalso; simp at hb; done) | (exfalso; simp at hb; omega) | (exfalso; omega) | exact ⟨_,[gsO u _],rl_,sl_,u,rfl,rfl⟩ | fail) : p:=h
theorem e9_ {p : Prop} (h : p:=by first | (exfalso; simp at hb; done) | exact ⟨_,[],rl_,List.nil_sublist _,Sub.refl _,rfl⟩ | (exfalso; omega) | (exfalso; simp at hb; omega) | exact ⟨_,[],rl_,List.nil_sublist _,Sub.eq (z9y (by omega) (by omega)),rfl⟩ | fail) : p:=h
theorem z8d {p : Prop} (h : p:=by first | (exfalso; omega) | exact ⟨_,[],rl_,List.nil_sublist _,Sub.refl _,rfl⟩ | fail) : p:=h
theorem z56 {p : Prop} (h : p:=by first | (exfalso; omega) | (exfalso; exact q8 ⟨hb.1,by omega⟩) | (exfalso; exact q7 ⟨hb.1,by omega⟩) | exact ⟨_,[],rl_,List.nil_sublist _,Sub.refl _,rfl⟩ | (exfalso; simp_all; done) | fail) : p:=h
theorem z9h {p : Prop} (h : p:=by first | (exfalso; simp at hb; done) | exact ⟨_,[],rl_,List.nil_sublist _,sn_,rfl⟩ | fail) : p:=h
theorem qai {p : Prop} (h : p:=by first | (exfalso; simp at hb; done) | exact ⟨_,[],rl_,List.nil_sublist _,Sub.refl _,rfl⟩ | fail) : p:=h
theorem z0p {p : Prop} (h : p:=by first | (exfalso; simp at hb; done) | (exfalso; omega) | exact ⟨_,[],rl_,List.nil_sublist _,Sub.refl _,rfl⟩ | exact ⟨_,[],rl_,List.nil_sublist _,sn_,rfl⟩ | fail) : p:=h
theorem z8c {p : Prop} (h : p:=by first | (exfalso; simp at hb; done) | (exfalso; omega) | exact ⟨_,[],rl_,List.nil_sublist _,Sub.refl _,rfl⟩ | exact ⟨_,[],rl_,List.nil_sublist _,Sub.eq (congrArg B (by simp)),rfl⟩ | fail) : p:=h
end
end
section
open Go Go.RowKit
def zfh (s : Nat) : List Nat → Bool
 |[]=>false
 |x :: l=>Nat.beq s x || zfh s l
def vt : Fr → List Nat
 |[]=>[]
 |(s,_) :: r=>s :: vt r
def zde (d fr0 : List Nat) : List Nat → Bool
 |[]=>true
 |s :: l=>(zfh s d || !zfh s fr0) && zde d fr0 l
theorem zlq : ∀ (fr : Fr) (s : Nat),zfh s (vt fr) = false → fr.get s = none
 |[],_,_=>rfl
 |(x,A) :: r,s,h=>by
  simp only [vt,zfh,Bool.or_eq_false_iff] at h
  simp only [Fr.get,h.1,cond_false]; exact zlq r s h.2
theorem zgv : ∀ (d fr : Fr) (s : Nat),zfh s (vt d) = true → Fr.get (d ++ fr) s = d.get s
 |[],_,_,h=>by simp [vt,zfh] at h
 |(x,A) :: r,fr,s,h=>by
  simp only [vt,zfh,Bool.or_eq_true] at h
  simp only [List.cons_append,Fr.get]
  cases hb : Nat.beq s x with
  |true=>rfl
  |false=>rw [hb] at h; simp only [cond_false]; exact zgv r fr s (by simpa using h)
theorem zcw : ∀ (d fr : Fr) (s : Nat),zfh s (vt d) = false → Fr.get (d ++ fr) s = fr.get s
 |[],_,_,_=>rfl
 |(x,A) :: r,fr,s,h=>by
  simp only [vt,zfh,Bool.or_eq_false_iff] at h
  simp only [List.cons_append,Fr.get,h.1,cond_false]; exact zcw r fr s h.2
theorem zkq : ∀ (d fr0 l : List Nat) (s : Nat),zde d fr0 l = true → zfh s l = true → zfh s d = false → zfh s fr0 = false
 |_,_,[],_,_,h,_=>by simp [zfh] at h
 |d,fr0,x :: l,s,h,hm,hd=>by
  simp only [zde,Bool.and_eq_true] at h
  simp only [zfh,Bool.or_eq_true] at hm
  rcases hm with hm | hm
  ·have : s = x:=Nat.eq_of_beq_eq_true hm
   subst this
   have:=h.1
   rw [hd] at this; simpa using this
  ·exact zkq d fr0 l s h.2 hm hd
inductive ExtF (base : Fr) : Fr → List Nat → Prop
 |nil : ExtF base base []
 |cons {s : Nat} {A : AV} {fr : Fr} {l : List Nat} (h : ExtF base fr l) : ExtF base ((s,A) :: fr) (s :: l)
theorem ExtF.get {base fr : Fr} {l : List Nat} (h : ExtF base fr l) {s : Nat} (hs : zfh s l = false) : fr.get s = base.get s:=by
 induction h with
 |nil=>rfl
 |cons h ih =>
  simp only [zfh,Bool.or_eq_false_iff] at hs
  simp only [Fr.get,hs.1,cond_false]; exact ih hs.2
theorem zel {base fr : Fr} {l : List Nat} (h : ExtF base fr l:=by
 first
 |(repeat (first | exact ExtF.nil | apply ExtF.cons)
   done)
 |fail) : ExtF base fr l:=h
theorem zoh {fr0 d d' fr' : Fr} {l : List Nat} (h : ExtF (d ++ fr0) fr' l) (hk : Weak fr' d') (hc : (zde (vt d') (vt fr0) l && zde (vt d') (vt fr0) (vt d)) = true) : Weak fr' (d' ++ fr0):=fun G t hr x B _ e=>by
 simp only [Bool.and_eq_true] at hc
 cases hm : zfh x (vt d') with
 |true=>rw [zgv d' fr0 x hm] at e; exact hk G t hr x B trivial e
 |false =>
  rw [zcw d' fr0 x hm] at e
  have h0 : ¬ zfh x (vt fr0) = false:=fun k=>by rw [zlq fr0 x k] at e; cases e
  have h1 : zfh x l = false:=by
   cases k : zfh x l with
   |false=>rfl
   |true=>exact absurd (zkq _ _ _ x hc.1 k hm) h0
  have h2 : zfh x (vt d) = false:=by
   cases k : zfh x (vt d) with
   |false=>rfl
   |true=>exact absurd (zkq _ _ _ x hc.2 k hm) h0
  exact hr x B trivial (by rw [h.get h1,zcw d fr0 x h2]; exact e)
theorem wx_ {fr0 d d' fr' : Fr} {l : List Nat} (h : ExtF (d ++ fr0) fr' l:=by first | exact zel | fail) (hk : Weak fr' d':=by first | exact wk_ | fail) (hc : (zde (vt d') (vt fr0) l && zde (vt d') (vt fr0) (vt d)) = true:=by rfl) : Weak fr' (d' ++ fr0):=zoh h hk hc
theorem zi5 {fr d : Fr} (h : Weak fr d) : Weak fr (d ++ fr):=fun G t hr x B _ e=>by
 cases hm : zfh x (vt d) with
 |true=>rw [zgv d fr x hm] at e; exact h G t hr x B trivial e
 |false=>rw [zcw d fr x hm] at e; exact hr x B trivial e
theorem zjh {M : List Own} {i : Nat} {m : Own} (h1 : M[i]? = some m) : M.set i m = M:=by
 refine List.ext_getElem? fun j => ?_
 rw [List.getElem?_set]
 split
 ·rename_i hij; subst hij
  split
  ·exact h1.symm
  ·rename_i hnl; exact absurd (List.getElem?_eq_some_iff.1 h1).1 hnl
 ·rfl
section
variable {P : Program} {T0 : Gh} {N : Fz} {Q : ko} {fr : Fr} {M : List Own} {c : Code} {σ : Type}
theorem zdc (d : σ → Fr) (inv : σ → Prop) (μ : σ → Nat) (s0 : σ) (h0 : inv s0)
  (round : ∀ s,inv s → AW P T0 N c (zz (fun fr' M' => ∃ s',inv s' ∧ μ s' < μ s ∧ Weak fr' (d s' ++ fr) ∧ List.Sublist M M') Q) (d s ++ fr) M) (hf0 : Weak fr (d s0):=by first | exact wk_ | fail) : AW P T0 N (.loop c) Q fr M :=
 ze6 (fun s=>d s ++ fr) (fun _=>M) inv μ s0 h0 (zi5 hf0) (List.Sublist.refl _) round
theorem zsa {α : Type} {T : Ty α} {e : TypeId} {u : Value} {l0 : List α} {f : Own → List Own} (d : σ → Fr) (g : σ → List α) (inv : σ → Prop) (μ : σ → Nat) (s0 : σ) (h0 : inv s0) (hl : l0 = g s0)
  (round : ∀ s,inv s → AW P T0 N c (zz (fun fr' M' => ∃ s',inv s' ∧ μ s' < μ s ∧ Weak fr' (d s' ++ fr) ∧ List.Sublist (f (z_ T e u (g s'))) M') Q) (d s ++ fr) (f (z_ T e u (g s)))) (hU : UpdF (z_ T e u l0) M f:=by first | exact yd | fail) (hf0 : Weak fr (d s0):=by first | exact wk_ | fail) : AW P T0 N (.loop c) Q fr M:=by
 obtain ⟨i,h1,h2⟩:=hU.spec
 subst hl
 refine ze6 (fun s=>d s ++ fr) (fun s=>f (z_ T e u (g s))) inv μ s0 h0 (zi5 hf0) ?_ round
 rw [h2,zjh h1]; exact List.Sublist.refl _
theorem qat {α : Type} {T : Ty α} {e : TypeId} {u0 : Value} {l0 : List α} {f : Own → List Own} (x : Nat) (d : σ → Fr) (g : σ → List α) (inv : σ → Prop) (μ : σ → Nat) (s0 : σ) (h0 : inv s0) (hl : l0 = g s0)
  (round : ∀ s u,inv s → u.cells = #[u] → u.oneCell' = true → AW P T0 N c (zz (fun fr' M' => ∃ s' u',inv s' ∧ μ s' < μ s ∧ Weak fr' (((x,vA u') :: d s') ++ fr) ∧ List.Sublist (f (z_ T e u' (g s'))) M') Q) (((x,vA u) :: d s) ++ fr) (f (z_ T e u (g s)))) (hU : UpdF (z_ T e u0 l0) M f:=by first | exact yd | fail) (hf0 : Weak fr ((x,vA u0) :: d s0):=by first | exact wk_ | fail) : AW P T0 N (.loop c) Q fr M:=by
 obtain ⟨i,h1,h2⟩:=hU.spec
 subst hl
 have hlt:=(List.getElem?_eq_some_iff.1 h1).1
 refine z2n (fun s u=>((x,vA u) :: d s) ++ fr) (fun s u=>f (z_ T e u (g s))) (fun s _=>inv s) (fun s _=>μ s) s0 u0 h0 (zi5 hf0) ?_ ?_
 ·rw [h2,zjh h1]; exact List.Sublist.refl _
 ·intro s u hi
  refine z5b (T:=T) (e:=e) (u:=u) (l:=g s) ?_ fun a b=>round s u hi a b
  rw [h2]
  exact List.mem_of_getElem? (i:=i) (by rw [List.getElem?_set]; simp [hlt])
end
end
section
open Go Go.RowKit
abbrev SA (l : List UInt8) : AV:=vA (.string ⟨l.toArray⟩)
abbrev UB (b : UInt8) : AV:=vA (.int .u8 (b.toNat : Int))
def u8T : Ty UInt8:={ enc:=fun b=>[.int .u8 (b.toNat : Int)],k:=1,len:=fun _=>rfl }
theorem zs1 (l : List UInt8) : (⟨l.toArray⟩ : ByteArray).size = l.length:=by simp [ByteArray.size]
theorem z76 (l : List UInt8) (a b : Nat) : (⟨l.toArray⟩ : ByteArray).extract a b = ⟨((l.drop a).take (b - a)).toArray⟩:=by
 apply WideShapes.bytes_inj
 simp [ByteArray.data_extract,List.extract_eq_take_drop]
theorem z8y (l m : List UInt8) : (⟨l.toArray⟩ : ByteArray) ++ ⟨m.toArray⟩ = ⟨(l ++ m).toArray⟩:=by
 apply WideShapes.bytes_inj
 simp
section
variable {P : Program} {T0 : Gh} {N : Fz} {Q : ko} {fr : Fr} {M M' : List Own} {ops : Array Oper} {o : Oper} {rest : List Oper} {x0 : Nat}
theorem z6y {t : TypeId} {l : List UInt8} (hu : P.underlying t = some .string) : LnK P T0 M t (SA l) (I l.length):=fun fr ops o x ts ho ht hx=>by
 have h:=zr6 (o:=o) (M:=M) (ops:=ops) ho ht hu hx
 rw [zs1] at h; exact h
theorem ziy {t : TypeId} {x y : Operand} {l : List UInt8} {k : IntKind} {n : Nat} {b : UInt8} (ho : o.op = .index t x y) (hu : P.underlying t = some .string) (hx : Opd T0 fr x (SA l)) (hy : xh T0 fr y k n) (hn : l[n]? = some b) : AY P T0 ops o fr M (UB b):=xd fun w0 G F a w hs hf=>by
 have h1:=(hx.use (o:=o) (ops:=ops) (by simp [ho,Op.operands]) hs.tab hf).eq
 have h2:=((show Opd T0 fr y (vA (.int k (n : Int))) from hy).use (o:=o) (ops:=ops) (by simp [ho,Op.operands]) hs.tab hf).eq
 obtain ⟨h3,h4⟩:=List.getElem?_eq_some_iff.1 hn
 refine ⟨.int .u8 (b.toNat : Int), ?_,Rep.va _ _⟩
 simp only [execOp,ho,h1,h2,Sem.run_bind,run_index_string w t _ k _ hu]
 rw [dif_pos (by rw [zs1]; omega)]
 subst h4
 rfl
theorem zbm {t : TypeId} {x : Operand} {lo hi : Option Operand} {l : List UInt8} {a b : Nat} (ho : o.op = .slice t x lo hi none) (hu : P.underlying t = some .string) (hx : Opd T0 fr x (SA l)) (hlo : zsk lo a T0 fr) (hhi : zus hi b l.length T0 fr) (h1 : a ≤ b) (h2 : b ≤ l.length) :
  AY P T0 ops o fr M (SA ((l.drop a).take (b - a))):=xd fun w0 G F ac w hs hf=>by
 have e1:=(hx.use (o:=o) (ops:=ops) (by simp [ho,Op.operands]) hs.tab hf).eq
 have hL : (lo.map ac.eval = none ∧ a = 0) ∨ ∃ k,lo.map ac.eval = some (.int k (a : Int)):=by
  cases lo with
  |none=>exact .inl ⟨rfl,hlo⟩
  |some y=>obtain ⟨k,hk⟩:=hlo; exact .inr ⟨k,congrArg some (hk.use (o:=o) (ops:=ops) (by simp [ho,Op.operands]) hs.tab hf).eq⟩
 have hH : (hi.map ac.eval = none ∧ b = l.length) ∨ ∃ k,hi.map ac.eval = some (.int k (b : Int)):=by
  cases hi with
  |none=>exact .inl ⟨rfl,hhi⟩
  |some y=>obtain ⟨k,hk⟩:=hhi; exact .inr ⟨k,congrArg some (hk.use (o:=o) (ops:=ops) (by simp [ho,Op.operands]) hs.tab hf).eq⟩
 have hb:=jp (P:=P) (isS:=false) (cap:=l.length) (len:=l.length) (w:=w) (lo:=a) (hi:=b) (vlo:=lo.map ac.eval) (vhi:=hi.map ac.eval) h1 h2 hL hH
 refine ⟨.string ⟨((l.drop a).take (b - a)).toArray⟩, ?_,Rep.va _ _⟩
 simp only [execOp,ho,e1,Option.map_none,Sem.run_bind,run_sliceAt_string w t _ _ _ _ hu]
 simp [Instr.slice,run_underlying hu,zs1,hb,z76]
theorem z2k {t t' : TypeId} {x y : Operand} {l m : List UInt8} (ho : o.op = .binOp .add t x y t') (hx : Opd T0 fr x (SA l)) (hy : Opd T0 fr y (SA m)) (hf : l.length + m.length ≤ 9223372036854775807) : AY P T0 ops o fr M (SA (l ++ m)):=zwp ho hx hy fun w=>by
 have h : ¬ ((((⟨l.toArray⟩ : ByteArray).size + (⟨m.toArray⟩ : ByteArray).size : Nat) : Int) > IntKind.i64.max):=by
  rw [zs1,zs1]; simp only [IntKind.max,IntKind.bits,IntKind.signed]; simp; omega
 simp only [Op.stringOp]
 rw [if_neg h,z8y]; rfl
theorem z79 {t : TypeId} {l m : List UInt8} : EqK P t (SA l) (SA m) (decide (l = m)):=fun _ _ _ _ _ _ _ _ hx hy=>⟨fun ho=>zwp ho hx hy fun w=>by
 simp only [Op.stringOp,ByteArray.toList_mk]
 have : (l == m) = decide (l = m):=by rw [Bool.eq_iff_iff]; simp
 rw [← this]; rfl,fun ho=>zwp ho hx hy fun w=>by
 simp only [Op.stringOp,ByteArray.toList_mk]
 have : (l == m) = decide (l = m):=by rw [Bool.eq_iff_iff]; simp
 rw [← this]; rfl⟩
def z1_ (r : Int) : List UInt8:=(Utf8.encode r).data.toList
theorem zer {s d : TypeId} {x : Operand} {k : IntKind} {a : Int} {ts : TypeDesc} (ho : o.op = .convert s d x) (hs' : P.underlying s = some ts) (hd : P.underlying d = some .string) (hx : Opd T0 fr x (vA (.int k a))) : AY P T0 ops o fr M (SA (z1_ a)):=xd fun w0 G F a' w hs hf' =>
 ⟨.string (Utf8.encode a),by
  have h1:=(hx.use (o:=o) (ops:=ops) (by simp [ho,Op.operands]) hs.tab hf').eq
  simp only [execOp,ho,h1,Sem.run_bind,run_convert_int_string w s d k a (by rw [hs']; rfl) hd,Result.andThen_ok,Sem.run_pure],.of (by simp [vA,z1_])⟩
theorem zqp (w : World) (src dst e : TypeId) (a : Option Addr) (c : Nat) (l : List UInt8) (hs : P.underlying src = some (.slice e)) (he : P.underlying e = some (.int .u8)) (hd : P.underlying dst = some .string)
  (hc : l ≠ [] → ∃ b off,a = some ⟨b,off,none⟩ ∧ ∀ j v,(l.flatMap u8T.enc)[j]? = some v → w.cell? ⟨b,off + j,none⟩ = some v) : (convert src dst (.slice a l.length c)).run P w = .ok (.string ⟨l.toArray⟩) w:=by
 rw [run_convert_bytes_string w src dst e a l.length c hs he hd]
 have h0 : ∀ ad : Addr,l = [] → (Conv.bytesToString (.slice (some ad) l.length c)).run P w = .ok (.string ⟨l.toArray⟩) w:=fun ad hl=>by
  subst hl
  exact (run_bytesToString w ad 0 c [] (by simp [loadCells,loadCellsFrom])).trans rfl
 by_cases hl : l = []
 ·cases a with
  |none=>subst hl; simp [Conv.bytesToString]; rfl
  |some ad=>exact h0 ad hl
 ·obtain ⟨b,off,rfl,hcell⟩:=hc hl
  have hld:=run_loadCells_list (P:=P) (w:=w) ⟨b,off,none⟩ (l.flatMap u8T.enc) (fun j v hv=>by rw [Addr.add_lit]; exact hcell j v hv)
  rw [zei,show u8T.k = 1 from rfl,Nat.mul_one] at hld
  have he2 : ∀ l : List UInt8,l.flatMap u8T.enc = (l.map fun b=>(b.toNat : Int)).map (Value.int .u8):=fun l=>by
   induction l with
   |nil=>rfl
   |cons x l ih=>rw [List.flatMap_cons,ih]; rfl
  rw [he2] at hld
  refine (run_bytesToString w _ _ c _ hld).trans ?_
  congr 2
  have h3 : ∀ (l : List UInt8) (s : List UInt8),(l.map fun b=>(b.toNat : Int)).foldl (fun (r : ByteArray) n=>r.push (UInt8.ofNat n.toNat)) ⟨s.toArray⟩ = ⟨(s ++ l).toArray⟩:=fun l=>by
   induction l with
   |nil=>intro s; simp
   |cons x l ih =>
    intro s
    rw [List.map_cons,List.foldl_cons]
    have : (⟨s.toArray⟩ : ByteArray).push (UInt8.ofNat ((x.toNat : Int)).toNat) = ⟨(s ++ [x]).toArray⟩:=by
     simp [ByteArray.push]
    rw [this,ih]; simp
  exact h3 l []
theorem zdb {s d e : TypeId} {x : Operand} {l : List UInt8} (ho : o.op = .convert s d x) (hs' : P.underlying s = some (.slice e)) (he : P.underlying e = some (.int .u8)) (hd : P.underlying d = some .string) (hx : Opd T0 fr x (slA u8T l)) : AY P T0 ops o fr M (SA l):=xd fun w0 G F a' w hs hf'=>by
 obtain ⟨ad,n,cap,h1,h2,_,_,_,h3⟩:=(hx.use (o:=o) (ops:=ops) (by simp [ho,Op.operands]) hs.tab hf').sl
 subst h2
 refine ⟨.string ⟨l.toArray⟩, ?_,Rep.va _ _⟩
 have h4:=zqp (P:=P) w s d e ad cap l hs' he hd fun hl=>let ⟨b,off,h5,h6⟩:=h3 hl; ⟨b,off,h5,fun j v hv=>hs.imm _ _ _ (h6 j v hv)⟩
 simp only [execOp,ho,h1,Sem.run_bind,h4,Result.andThen_ok,Sem.run_pure]
end
end
section
open Go Go.RowKit
section
variable {P : Program} {T0 : Gh} {N : Fz} {Q : ko} {fr : Fr} {M : List Own} {ops : Array Oper} {listed : Array Bool} {fuel : Nat}
theorem zoy {o : Oper} {a : Act} {w : World} {K K' : Act → World → Prop} {Qc Qc' : Exit → Act → World → Prop} (hk : ∀ a w,K a w → K' a w) (hq : ∀ e a w,e ≠ .normal → Qc e a w → Qc' e a w) (h : o.wp P a w K Qc) : o.wp P a w K' Qc':=by
 unfold Oper.wp at h ⊢
 generalize (execOp a.eval o).run P w = r at *
 cases r with
 |ok n w' =>
  cases n <;> simp only [Oper.upon] at h ⊢ <;>
   first
    |exact hk _ _ h
    |exact Calls.mono h (fun e w'' he=>by
      cases e
      ·exact hk _ _ he
      ·exact hq _ _ _ (by simp) he
      ·obtain ⟨x,y,z⟩:=he; exact ⟨x,y,hq _ _ _ (by simp) z⟩)
    |exact Rows.mono h (fun _ _ he=>hk _ _ he)
 |halt x w'=>cases x <;> simp only [Oper.upon] at h ⊢ <;> first | exact hq _ _ _ (by simp) h | exact h
theorem yz {md : Region.Mode} {Qc Qc' : Exit → Act → World → Prop} (hq : ∀ e a w,Qc e a w → Qc' e a w) : ∀ (fuel : Nat) (listed : Array Bool) (a : Act) (w : World),wpAny P md ops Qc fuel listed a w → wpAny P md ops Qc' fuel listed a w
 |0,_,_,_,h=>⟨h.1,hq _ _ _ h.2⟩
 |fuel + 1,listed,a,w,h=>by
  refine ⟨fun h0=>hq _ _ _ (h.1 h0),fun i hi => ?_⟩
  have h1:=h.2 i hi
  unfold wpOp at h1 ⊢
  cases ho : ops[i]? with
  |none=>rw [ho] at h1; exact yz hq fuel _ _ _ h1
  |some o =>
   rw [ho] at h1
   simp only at h1 ⊢
   split
   ·rename_i hw; rw [if_pos hw] at h1
    exact h1.imp (fun h=>zoy (fun a w h=>yz hq fuel _ _ _ h) (fun e a w _ h=>hq e a w h) h) (fun h=>⟨h.1,let ⟨x,y,z⟩:=h.2; ⟨x,y,hq _ _ _ z⟩⟩)
   ·rename_i hw; rw [if_neg hw] at h1; exact yz hq fuel _ _ _ h1
def zh1 (fr1 : Fr) (M1 : List Own) : ko:=fun e fr M=>e = .normal ∧ Weak fr fr1 ∧ List.Sublist M1 M
def AN (P : Program) (T0 : Gh) (N : Fz) (ops : Array Oper) (Q : ko) (fuel : Nat) (listed : Array Bool) (fr : Fr) (M : List Own) : Prop := ∀ w0 G F a w,Con T0 N w0 G F fr M a w → wpAny P .any ops (cQ T0 N w0 G F Q) fuel listed a w
def AllI : List Nat → (Nat → Prop) → Prop
 |[],_=>True
 |i :: l,p=>p i ∧ AllI l p
theorem AllI.mem {p : Nat → Prop} : ∀ {l : List Nat},AllI l p → ∀ i ∈ l,p i
 |[],_,i,hi=>by cases hi
 |x :: l,h,i,hi=>by
  rcases List.mem_cons.1 hi with rfl | hi
  ·exact h.1
  ·exact AllI.mem h.2 i hi
theorem jy {p : Nat → Prop} : AllI [] p:=trivial
theorem xr {p : Nat → Prop} {i : Nat} {l : List Nat} (h : p i) (k : AllI l p) : AllI (i :: l) p:=⟨h,k⟩
def zhg (s : List Bool) : List Edge → Bool
 |[]=>true
 |e :: es=>(!Region.binds .any e || s.getD e.on false) && zhg s es
def zaa (s : List Bool) : Nat → List Oper → List Bool → List Nat
 |k,o :: l,b :: r=>bif !b && zhg s o.after.toList then k :: zaa s (k + 1) l r else zaa s (k + 1) l r
 |_,_,_=>[]
theorem zhf (s : List Bool) : ∀ es : List Edge,zhg s es = true ↔ ∀ e ∈ es,Region.binds .any e = true → s.getD e.on false = true
 |[]=>by simp [zhg]
 |e :: es=>by
  simp only [zhg,Bool.and_eq_true,zhf s es,List.mem_cons,forall_eq_or_imp]
  cases Region.binds .any e <;> simp
theorem zie (s : List Bool) : ∀ (k : Nat) (l : List Oper) (r : List Bool) (i : Nat),i ∈ zaa s k l r ↔ ∃ j o,i = k + j ∧ l[j]? = some o ∧ r[j]? = some false ∧ zhg s o.after.toList = true
 |k,[],r,i=>by simp [zaa]
 |k,o :: l,[],i=>by simp [zaa]
 |k,o :: l,b :: r,i=>by
  have ih:=zie s (k + 1) l r i
  have hsplit : (∃ j o',i = k + j ∧ (o :: l)[j]? = some o' ∧ (b :: r)[j]? = some false ∧ zhg s o'.after.toList = true) ↔ (i = k ∧ b = false ∧ zhg s o.after.toList = true) ∨ ∃ j o',i = k + 1 + j ∧ l[j]? = some o' ∧ r[j]? = some false ∧ zhg s o'.after.toList = true:=by
   constructor
   ·rintro ⟨j,o',h1,h2,h3,h4⟩
    cases j with
    |zero=>simp at h2 h3; subst h2; exact .inl ⟨by omega,h3,h4⟩
    |succ j=>exact .inr ⟨j,o',by omega,by simpa using h2,by simpa using h3,h4⟩
   ·rintro (⟨h1,h2,h3⟩ | ⟨j,o',h1,h2,h3,h4⟩)
    ·exact ⟨0,o,by omega,rfl,by simp [h2],h3⟩
    ·exact ⟨j + 1,o',by omega,by simpa using h2,by simpa using h3,h4⟩
  rw [hsplit,← ih]
  have hu : zaa s k (o :: l) (b :: r) = (bif !b && zhg s o.after.toList then k :: zaa s (k + 1) l r else zaa s (k + 1) l r):=rfl
  rw [hu]
  cases hb : (!b && zhg s o.after.toList) with
  |true =>
   simp only [Bool.and_eq_true,Bool.not_eq_true'] at hb
   simp only [cond_true,List.mem_cons]
   constructor
   ·rintro (h | h)
    ·exact .inl ⟨h,hb.1,hb.2⟩
    ·exact .inr h
   ·rintro (h | h)
    ·exact .inl h.1
    ·exact .inr h
  |false =>
   simp only [cond_false]
   constructor
   ·exact fun h=>.inr h
   ·rintro (h | h)
    ·simp [h.2.1,h.2.2] at hb
    ·exact h
theorem zm9 (l : List Oper) (s : List Bool) (i : Nat) : i ∈ Region.ready .any l.toArray s.toArray ↔ i ∈ zaa s 0 l s:=by
 rw [mem_ready,zie]
 constructor
 ·rintro ⟨h1,o,h2,h3⟩
  refine ⟨i,o,by omega,by simpa using h2, ?_,(zhf s _).2 fun e he hb => ?_⟩
  ·rcases Nat.lt_or_ge i s.length with h | h
   ·simp [h] at h1; simp [h,h1]
   ·simp [List.getElem?_eq_none h] at h1
  ·have:=h3 e (by simpa using he) hb
   simpa using this
 ·rintro ⟨j,o,h1,h2,h3,h4⟩
  obtain rfl : i = j:=by omega
  refine ⟨by simp [h3],o,by simpa using h2,fun e he hb => ?_⟩
  have:=(zhf s _).1 h4 e (by simpa using he) hb
  simpa using this
def AtI (P : Program) (T0 : Gh) (N : Fz) (l : List Oper) (Q : ko) (fuel : Nat) (s : List Bool) (fr : Fr) (M : List Own) (i : Nat) : Prop := ∃ o,l[i]? = some o ∧ AL P T0 N false l.toArray (zz (AN P T0 N l.toArray Q fuel (s.set i true).toArray) Q) [o] fr M
theorem jx {l : List Oper} {s : List Bool} {L : List Nat} (hL : zaa s 0 l s = L) (hne : L.isEmpty = false) (h : AllI L (AtI P T0 N l Q fuel s fr M)) : AN P T0 N l.toArray Q (fuel + 1) s.toArray fr M:=fun w0 G F a w hc=>by
 subst hL
 refine ⟨fun h0 => ?_,fun i hi => ?_⟩
 ·cases hL : zaa s 0 l s with
  |nil=>rw [hL] at hne; cases hne
  |cons i r =>
   have:=(zm9 l s i).2 (by rw [hL]; exact List.mem_cons_self)
   rw [h0] at this; cases this
 obtain ⟨o,ho,hal⟩:=h.mem i ((zm9 l s i).1 hi)
 simp only [AL,Bool.false_eq_true,if_false] at hal
 have h1:=hal w0 G F a w hc
 rw [List.setIfInBounds_toArray]
 have hnext : ∀ a' w',cQ T0 N w0 G F (zz (AN P T0 N l.toArray Q fuel (s.set i true).toArray) Q) .normal a' w' → wpAny P .any l.toArray (cQ T0 N w0 G F Q) fuel (s.set i true).toArray a' w':=fun a' w' ⟨fr',M',G',q1,q2,q3⟩ =>
  yz (fun _ _ _ q=>q.mono (fun _ _ _ h=>h) q2) _ _ _ _ ((show AN P T0 N l.toArray Q fuel (s.set i true).toArray fr' M' from q1) w0 G' F a' w' q3)
 have hexit : ∀ e a' w',cQ T0 N w0 G F (zz (AN P T0 N l.toArray Q fuel (s.set i true).toArray) Q) e a' w' → e ≠ .normal → cQ T0 N w0 G F Q e a' w':=fun e a' w' ⟨fr',M',G',q1,q2,q3⟩ hne'=>by
  refine ⟨fr',M',G', ?_,q2,q3⟩
  cases e with
  |normal=>exact absurd rfl hne'
  |_=>exact q1
 have ho' : l.toArray[i]? = some o:=by simpa using ho
 unfold wpOp; rw [ho']
 unfold wpList at h1
 simp only
 split at h1
 ·rename_i hw; rw [if_pos hw]
  exact h1.imp (fun h=>zoy (fun a w h=>hnext a w h) (fun e a w hne h=>hexit e a w h hne) h) (fun h=>⟨h.1,let ⟨x,y,z⟩:=h.2; ⟨x,y,hexit _ _ _ z (by simp)⟩⟩)
 ·rename_i hw; rw [if_neg hw]; exact hnext _ _ h1
theorem z80 {l : List Oper} {s : List Bool} (h : Q .normal fr M) (hL : (zaa s 0 l s).isEmpty = true) : AN P T0 N l.toArray Q fuel s.toArray fr M:=fun w0 G F a w hc=>by
 have hL' : Region.ready .any l.toArray s.toArray = []:=by
  rw [List.eq_nil_iff_forall_not_mem]
  intro i hi
  rw [zm9,List.isEmpty_iff.1 hL] at hi; cases hi
 cases fuel with
 |zero=>exact ⟨hL',fr,M,G,h,Gh.le.refl _,hc⟩
 |succ n=>exact ⟨fun _=>⟨fr,M,G,h,Gh.le.refl _,hc⟩,fun i hi=>by rw [hL'] at hi; cases hi⟩
theorem qe {id : Nat} {l : List Oper} {d1 : Fr} {M1 : List Own} (hn : zt0 l = true) (hm : P.follows .mixedOrders = true) (h : AN P T0 N l.toArray (zh1 (d1 ++ fr) M1) l.length (List.replicate l.length false).toArray fr M) (k : Q .normal (d1 ++ fr) M1) : AW P T0 N (.region id l.toArray true) Q fr M:=fun w0 G F a w hc =>
 wp_region_any hm (by
  have h1:=h w0 G F a _ ⟨hc.st.drew,hc.fr,hc.size,hc.defers⟩
  simp only [List.size_toArray]
  have e : Array.replicate l.length false = (List.replicate l.length false).toArray:=by simp
  rw [e]
  refine yz (fun e a' w' q => ?_) _ _ _ _ h1
  obtain ⟨fr',M',G',⟨rfl,hw,hs⟩,hl,hc'⟩:=q
  exact ⟨d1 ++ fr,M1,G',k,hl,hc'.st.sub (hs.append (List.Sublist.refl F)),hw G' a'.tmps hc'.fr,hc'.size,hc'.defers⟩)
theorem ze7 {l : List Oper} {s : List Bool} {i : Nat} {o : Oper} (ho : l[i]? = some o) (h : AL P T0 N false l.toArray (zz (AN P T0 N l.toArray Q fuel (s.set i true).toArray) Q) [o] fr M) : AtI P T0 N l Q fuel s fr M i:=⟨o,ho,h⟩
inductive Ext1 (base : Fr) : Fr → Fr → Prop
 |nil : Ext1 base base []
 |cons {s : Nat} {A : AV} {fr d : Fr} (h : Ext1 base fr d) : Ext1 base ((s,A) :: fr) ((s,A) :: d)
theorem wg {base fr d : Fr} (h : Ext1 base fr d:=by
 first
 |(repeat (first | exact Ext1.nil | apply Ext1.cons)
   done)
 |fail) : Ext1 base fr d:=h
theorem Ext1.eq {base fr d : Fr} (h : Ext1 base fr d) : fr = d ++ base:=by
 induction h with
 |nil=>rfl
 |cons h ih=>rw [ih]; rfl
theorem xp {fr0 fr' d : Fr} (h : Ext1 fr0 fr' d) : zh1 (d ++ fr0) M .normal fr' M:=⟨rfl,by rw [h.eq]; exact Weak.refl _,List.Sublist.refl _⟩
theorem jv {fr0 fr' d : Fr} {l : List Nat} (h : ExtF fr0 fr' l) (hk : Weak fr' d) (hc : zde (vt d) (vt fr0) l = true) : zh1 (d ++ fr0) M .normal fr' M :=
 ⟨rfl,zoh (d:=[]) h hk (by rw [hc]; simp [vt,zde]),List.Sublist.refl _⟩
end
end
section
open Go Go.RowKit
section
variable {P : Program} {T0 : Gh} {N : Fz} {Q : ko} {fr : Fr} {M : List Own} {c : Code} {σ : Type} {ops : Array Oper} {o : Oper}
theorem zr_ {b : Nat} {e : TypeId} {cells0 : List AV} {f : Own → List Own} (d : σ → Fr) (g : σ → List AV) (inv : σ → Prop) (μ : σ → Nat) (s0 : σ) (h0 : inv s0) (hl : cells0 = g s0)
  (round : ∀ s,inv s → AW P T0 N c (zz (fun fr' M' => ∃ s',inv s' ∧ μ s' < μ s ∧ Weak fr' (d s' ++ fr) ∧ List.Sublist (f (qh b e (g s'))) M') Q) (d s ++ fr) (f (qh b e (g s)))) (hU : UpdF (qh b e cells0) M f:=by first | exact yd | fail) (hf0 : Weak fr (d s0):=by first | exact wk_ | fail) : AW P T0 N (.loop c) Q fr M:=by
 obtain ⟨i,h1,h2⟩:=hU.spec
 subst hl
 refine ze6 (fun s=>d s ++ fr) (fun s=>f (qh b e (g s))) inv μ s0 h0 (zi5 hf0) ?_ round
 rw [h2,zjh h1]; exact List.Sublist.refl _
theorem zn {ts : Array TypeId} {x y : Operand} {k : IntKind} {a b : Int} (ho : o.op = .call { callee:=.builtin .max,args := #[x,y],argTypes:=ts }) (hx : Opd T0 fr x (vA (.int k a))) (hy : Opd T0 fr y (vA (.int k b))) : AY P T0 ops o fr M (vA (.int k (max a b))):=xd fun w0 G F ac w hs hf=>by
 have e1:=(hx.use (o:=o) (ops:=ops) (by simp [ho,Op.operands,Call.operands]) hs.tab hf).eq
 have e2:=(hy.use (o:=o) (ops:=ops) (by simp [ho,Op.operands,Call.operands]) hs.tab hf).eq
 refine ⟨.int k (max a b), ?_,Rep.va _ _⟩
 simp only [execOp,ho,resolve]
 simp [invoke,builtin,e1,e2,Go.Lib.run_max_ints]
theorem zx {ts : Array TypeId} {x y : Operand} {k : IntKind} {a b : Int} (ho : o.op = .call { callee:=.builtin .min,args := #[x,y],argTypes:=ts }) (hx : Opd T0 fr x (vA (.int k a))) (hy : Opd T0 fr y (vA (.int k b))) : AY P T0 ops o fr M (vA (.int k (min a b))):=xd fun w0 G F ac w hs hf=>by
 have e1:=(hx.use (o:=o) (ops:=ops) (by simp [ho,Op.operands,Call.operands]) hs.tab hf).eq
 have e2:=(hy.use (o:=o) (ops:=ops) (by simp [ho,Op.operands,Call.operands]) hs.tab hf).eq
 refine ⟨.int k (min a b), ?_,Rep.va _ _⟩
 simp only [execOp,ho,resolve]
 simp [invoke,builtin,e1,e2,Go.Lib.run_min_ints]
theorem vf {α : Type} {T : Ty α} {t e : TypeId} {x y z : Operand} {lo : Option Operand} {l : List α} {d : α} {by' a b : Nat} {k k' : IntKind} {av : α → AV} (ho : o.op = .slice t x lo (some y) (some z)) (hu : P.underlying t = some (.slice e)) (he : El P T e d by' av) (hx : Opd T0 fr x (slA T l)) (hlo : zsk lo a T0 fr) (hy : xh T0 fr y k b) (hz : xh T0 fr z k' b) (h1 : a ≤ b) (h2 : b ≤ l.length) :
  AY P T0 ops o fr M (jl T ((l.drop a).take (b - a))):=xd fun w0 G F ac w hs hf=>by
 obtain ⟨ad,n,cap,e1,e2,e3,e4,e5,e6⟩:=(hx.use (o:=o) (ops:=ops) (by simp [ho,Op.operands]) hs.tab hf).sl
 have hl : ((lo.map ac.eval) = none ∧ a = 0) ∨ ∃ k,(lo.map ac.eval) = some (.int k (a : Int)):=by
  cases lo with
  |none=>exact .inl ⟨rfl,hlo⟩
  |some y=>obtain ⟨k,hk⟩:=hlo; exact .inr ⟨k,by rw [Option.map_some,(hk.use (o:=o) (ops:=ops) (by simp [ho,Op.operands]) hs.tab hf).eq]⟩
 have e7:=((show Opd T0 fr y (vA (.int k (b : Int))) from hy).use (o:=o) (ops:=ops) (by simp [ho,Op.operands]) hs.tab hf).eq
 have e8:=((show Opd T0 fr z (vA (.int k' (b : Int))) from hz).use (o:=o) (ops:=ops) (by simp [ho,Op.operands]) hs.tab hf).eq
 have hb : (Instr.sliceBounds true n cap (lo.map ac.eval) (some (.int k (b : Int))) (some (.int k' (b : Int)))).run P w = .ok (a,b,b) w:=by
  rcases hl with ⟨h,rfl⟩ | ⟨k,h⟩ <;> rw [h] <;> simp [Instr.sliceBounds,run_sliceBound,h1,show b ≤ cap by omega]
 refine ⟨.slice (if b = a then ad else ad.map (·.add (a * T.k))) (b - a) (b - a), ?_,.of ⟨_,_,rfl,by simp; omega,by omega,z2b e6 e2 h1 (by omega) (by omega)⟩⟩
 simp only [execOp,ho,e1]
 simp [run_sliceAt_slice _ _ _ _ _ _ (zd4 hu),Instr.slice,run_underlying hu,hb,he.size,e7,e8]
theorem zqa {c : Code} (hg : ∀ l fr M,¬ Q (.goto l) fr M) (h : AW P T0 N c Q fr M) : AW P T0 N (.scope c) Q fr M:=fun w0 G F a w hc =>
 wp_scope_straight (wp_mono (h w0 G F a w hc) fun e a' w' q=>by
  cases e with
  |goto l=>obtain ⟨fr',M',G',q1,_⟩:=q; exact absurd q1 (hg l fr' M')
  |_=>exact q)
theorem zqb {l : Nat} (h : Q .normal fr M) : AW P T0 N (.label l) Q fr M:=fun _ _ _ _ _ hc=>wp_label ⟨fr,M,_,h,Gh.le.refl _,hc⟩
inductive ResL (P : Program) (M : List Own) (fr : Fr) : List ResultVar → List AV → Prop
 |nil : ResL P M fr [] []
 |tmp {t : Nat} {A : AV} {r : List ResultVar} {l : List AV} (h : fr.get t = some A) (k : ResL P M fr r l) : ResL P M fr (.tmp t :: r) (A :: l)
 |agg {s t e b n : Nat} {cells : List AV} {r : List ResultVar} {l : List AV} (ha : ∀ w,(isAgg t).run P w = .ok true w) (hs : fr.get s = some (vA (.pointer (some ⟨b,0,none⟩)))) (hM : qh b e cells ∈ M) (hz : ∀ w,(sizeOf t).run P w = .ok n w) (hl : cells.length = n) (k : ResL P M fr r l) : ResL P M fr (.cell s t :: r) (qb cells :: l)
 |one {s t e b : Nat} {A : AV} {r : List ResultVar} {l : List AV} (ha : ∀ w,(isAgg t).run P w = .ok false w) (hs : fr.get s = some (vA (.pointer (some ⟨b,0,none⟩)))) (hM : qh b e [A] ∈ M) (k : ResL P M fr r l) : ResL P M fr (.cell s t :: r) (A :: l)
def z29 (tmps : Array Value) : ResultVar → Sem Value
 |.tmp t=>pure (tmps.getD t undef)
 |.cell a t=>do loadVar t (← asAddr (tmps.getD a undef))
theorem zid (fn : Func) (tmps : Array Value) : results fn tmps = (do let vs ← fn.results.mapM (z29 tmps); pure (if h : vs.size = 1 then vs[0] else .tuple vs)):=by
 have h : (fun (r : ResultVar)=>match r with | .tmp t=>(pure (tmps.getD t undef) : Sem Value) | .cell a t=>(do loadVar t (← asAddr (tmps.getD a undef)))) = z29 tmps:=by
  funext r; cases r <;> rfl
 rw [← h]; rfl
theorem zed {t e : TypeId} {b : Nat} {u : Value} {w : World} (ha : ∀ w,(isAgg t).run P w = .ok false w) (h : w.heap[b]? = some (.cells #[u] e (0,0))) : (loadVar t ⟨b,0,none⟩).run P w = .ok u w:=by
 have hc : w.cell? ⟨b,0,none⟩ = some u:=(cell_of_row _ _ _ _ _ _ h).trans rfl
 simp only [loadVar]
 simp [ha,load,Sem.run,hc]
theorem ResL.run {T0 : Gh} {w0 : World} {G : Gh} {F : List Own} {tmps : Array Value} {w : World} (st : St T0 w0 G (M ++ F) w) (hr : frRel G fr tmps) : ∀ {rs : List ResultVar} {l : List AV},ResL P M fr rs l →
  ∃ us,(rs.mapM (z29 tmps)).run P w = .ok us w ∧ AllRep G l us:=by
 intro rs l h
 induction h with
 |nil=>exact ⟨[],by simp,trivial⟩
 |tmp h k ih =>
  obtain ⟨us,h1,h2⟩:=ih
  exact ⟨_ :: us,by simp only [List.mapM_cons,z29,Sem.run_bind,Sem.run_pure,Result.andThen_ok,h1],ki hr h,h2⟩
 |agg ha hs hM hz hl k ih =>
  obtain ⟨us,h1,h2⟩:=ih
  obtain ⟨u,h3,h4⟩:=zan ha (by rw [hl]; exact hz) (st.own _ (List.mem_append_left F hM))
  have h5:=(ki hr hs).eq
  refine ⟨u :: us, ?_,h4,h2⟩
  simp only [List.mapM_cons,z29,Sem.run_bind,h5,asAddr,Sem.run_pure,Result.andThen_ok,h3,h1]
 |one ha hs hM k ih =>
  obtain ⟨us,h1,h2⟩:=ih
  obtain ⟨cs,h3,h4⟩:=st.own _ (List.mem_append_left F hM)
  obtain ⟨u,rfl⟩ : ∃ u,cs = [u]:=List.length_eq_one_iff.1 h4.len
  have h5:=(ki hr hs).eq
  refine ⟨u :: us, ?_,h4.1,h2⟩
  have h6:=zed ha h3
  simp only [List.mapM_cons,z29,Sem.run_bind,h5,asAddr,Sem.run_pure,Result.andThen_ok,h6,h1]
theorem qcv {T0 : Gh} {fn : Func} {rs : List ResultVar} {l : List AV} (h : fn.results.toList = rs) (k : ResL P M fr rs l) (hl : Nat.beq l.length 1 = false) : zi3 P T0 fn fr M (zy l):=fun w0 G F tmps w st hr=>by
 obtain ⟨us,h1,h2⟩:=k.run st hr
 have hn : us.toArray.size ≠ 1:=fun e=>by
  have e2 : l.length = 1:=by rw [← h2.len]; simpa using e
  rw [e2] at hl; simp at hl
 refine ⟨.tuple us.toArray, ?_,.of ⟨us,rfl,h2⟩⟩
 have h' : fn.results = rs.toArray:=by rw [← h]
 rw [zid,h',List.mapM_toArray]
 simp only [Sem.run_bind,map_eq_pure_bind,bind_assoc,Sem.run_pure,h1,Result.andThen_ok,dif_neg hn,pure_bind]
end
theorem rl_ {T0 : Gh} {fr : Fr} {M : List Own} {fn : Func} {A : AV} (h : zi3 Tryz.prog T0 fn fr M A:=by
 first
 |exact rs_
 |(apply qcv rfl
   (case k=>(repeat' (first
    |exact ResL.nil
    |(apply ResL.tmp; rfl)
    |(apply ResL.agg; exact zku; rfl; exact kx; exact sz_; rfl)
    |(apply ResL.one; exact zku; rfl; exact kx))))
   (case hl=>rfl)
   done)
 |fail) : zi3 Tryz.prog T0 fn fr M A:=h
end
section
open Go Go.RowKit Go.MapKept
theorem z7f {α : Type} [Inhabited α] {l : List α} {i : Nat} (h : i < l.length) : l[i]? = some (l[i]!):=by simp [h]
section
variable {P : Program} {T0 : Gh} {N : Fz} {Q : ko} {fr : Fr} {M M' : List Own} {ops : Array Oper} {o : Oper} {rest : List Oper} {x0 : Nat}
theorem ze {x : Operand} {a : Addr} (ho : o.op = .nilCheck x) (hx : Opd T0 fr x (vA (.pointer (some a)))) : AY P T0 ops o fr M (vA (.pointer (some a))):=xd fun w0 G F ac w hs hf=>⟨.pointer (some a),by
 have h1:=(hx.use (o:=o) (ops:=ops) (by simp [ho,Op.operands]) hs.tab hf).eq
 simp [execOp,ho,h1],Rep.va _ _⟩
theorem zft {x : Operand} {t : TypeId} {k : IntKind} {v : Value} (ho : o.op = .makeInterface t x) (hd : P.underlying t = some (.int k)) (hx : Opd T0 fr x (vA v)) : AY P T0 ops o fr M (vA (.iface t v)):=xd fun w0 G F ac w hs hf=>⟨.iface t v,by
 have h1:=(hx.use (o:=o) (ops:=ops) (by simp [ho,Op.operands]) hs.tab hf).eq
 simp [execOp,ho,h1,Instr.makeInterface,run_underlying hd],Rep.va _ _⟩
theorem qi {x : Operand} {t : TypeId} {v : Value} (hg : o.guard = none) (hd : o.dst = none) (ho : o.op = .panic x) (hx : Opd T0 fr x (vA (.iface t v))) (h : Q (.panic [{ v:=.iface t v,recovered:=false }]) fr M) : AL P T0 N false ops Q (o :: rest) fr M:=by
 refine zse (K:=fun _ _=>False) (KP:=fun c M'=>c = [{ v:=.iface t v,recovered:=false }] ∧ M' = M) hg (fun w0 G F a w next Qc hs hf hk hp => ?_) hd ?_ (fun _ _ h=>h.elim)
 ·have h1:=(hx.use (o:=o) (ops:=ops) (by simp [ho,Op.operands]) hs.tab hf).eq
  have hrun : (execOp a.eval o).run P w = .halt (.panic (.iface t v)) w:=by simp [execOp,ho,h1,run_panic_iface]
  unfold Oper.wp; rw [hrun]
  exact hp _ M G w ⟨rfl,rfl⟩ (Gh.le.refl _) hs
 ·rintro c M' ⟨rfl,rfl⟩; exact h
theorem zo {f : FuncId} {args : Array Operand} {ts : Array TypeId} {As : List AV} {m : Own} {K : AV → List Own → Prop} {KP : List PanicEntry → List Own → Prop} (hg : o.guard = none) (hd : o.dst = some x0) (hN : Nat.blt x0 N.n = true) (ho : o.op = .call { callee:=.value (.func f),args:=args,argTypes:=ts }) (ha : OpdAll T0 fr args.toList As) (c : AF P T0 f As [m] K KP) (hM : Pick m M M')
  (hp : ∀ ch M1,KP ch M1 → Q (.panic ch) fr (M1 ++ M')) (h : ∀ A M1,K A M1 → AL P T0 N false ops Q rest ((x0,A) :: fr) (M1 ++ M')) : AL P T0 N false ops Q (o :: rest) fr M:=by
 refine zqi (zc4 hM.perm) ?_
 refine zdh hg (zhr ho ha c rfl) hd hN (fun ch M2 h=>by obtain ⟨M1,rfl,k⟩:=h; exact hp ch M1 k) ?_
 rintro A _ ⟨M1,rfl,k⟩
 exact h A M1 k
theorem zcg {fn : Func} {K : AV → List Own → Prop} {KP : List PanicEntry → List Own → Prop} {c : List PanicEntry} (h : KP c M) : qay P T0 fn K KP (.panic c) fr M:=h
def zzg (b : Nat) (es : List MapEntry) (clock : Nat) : Own where
 foot:=some b
 holds:=fun _ w=>w.heap[b]? = some (.map es.toArray clock)
 mono:=fun _ h=>h
 loc:=fun h k=>(h _ rfl).trans k
theorem j6 {t : TypeId} (hg : o.guard = none) (hd : o.dst = some x0) (hN : Nat.blt x0 N.n = true) (ho : o.op = .makeMap t none) (h : ∀ b,AL P T0 N false ops Q rest ((x0,vA (.map (some b))) :: fr) (zzg b [] 0 :: M)) : AL P T0 N false ops Q (o :: rest) fr M:=by
 refine zdh (K:=fun A M' => ∃ b,A = vA (.map (some b)) ∧ M' = zzg b [] 0 :: M) (KP:=fun _ _=>False) hg (fun w0 G F a w next Qc hs hf hk hp => ?_) hd hN (fun _ _ h=>h.elim) ?_
 ·have hrun : (execOp a.eval o).run P w = .ok (.value (.map (some w.heap.size))) (w.alloc (.map #[] 0)):=by
   simp only [execOp,ho,Option.map_none,Sem.run_bind,show (Instr.makeMap t none).run P w = .ok (.map (some w.heap.size)) (w.alloc (.map #[] 0)) from rfl,Result.andThen_ok,Sem.run_pure]
  unfold Oper.wp; rw [hrun]
  exact hk _ (zzg w.heap.size [] 0 :: M) G _ _ ⟨_,rfl,rfl⟩ (Gh.le.refl _) (hs.alloc _ (zzg w.heap.size [] 0) rfl (heap_alloc_new w _)) (Rep.va _ _)
 ·rintro _ _ ⟨b,rfl,rfl⟩; exact h b
theorem kr {t kt et : TypeId} {d : TypeDesc} {x y z : Operand} {b clock : Nat} {es : List MapEntry} {kv vv : Value} {f : Own → List Own} (hg : o.guard = none) (hd : o.dst = none) (ho : o.op = .insert t x y z) (hu : P.underlying t = some (.map kt et)) (hk0 : P.underlying kt = some d) (hk : IsKey d kv) (hx : Opd T0 fr x (vA (.map (some b)))) (hy : Opd T0 fr y (vA kv)) (hz : Opd T0 fr z (vA vv))
  (hn : Instr.findNow d kv es 0 = some none) (hU : UpdF (zzg b es clock) M f) (h : AL P T0 N false ops Q rest fr (f (zzg b (es ++ [(⟨kv,vv,clock⟩ : MapEntry)]) (clock + 1)))) : AL P T0 N false ops Q (o :: rest) fr M:=by
 obtain ⟨i,k1,k2⟩:=hU.spec
 refine zse (K:=fun _ M'=>M' = M.set i (zzg b (es ++ [(⟨kv,vv,clock⟩ : MapEntry)]) (clock + 1))) (KP:=fun _ _=>False) hg (fun w0 G F a w next Qc hs hf hkk hp => ?_) hd (fun _ _ h=>h.elim) ?_
 ·have e1:=(hx.use (o:=o) (ops:=ops) (by simp [ho,Op.operands]) hs.tab hf).eq
  have e2:=(hy.use (o:=o) (ops:=ops) (by simp [ho,Op.operands]) hs.tab hf).eq
  have e3:=(hz.use (o:=o) (ops:=ops) (by simp [ho,Op.operands]) hs.tab hf).eq
  obtain ⟨hM1,hM2⟩:=xi (F:=F) (m':=zzg b (es ++ [(⟨kv,vv,clock⟩ : MapEntry)]) (clock + 1)) k1
  have hh : w.heap[b]? = some (.map es.toArray clock):=hs.own _ (List.mem_of_getElem? hM1)
  have hrun : (execOp a.eval o).run P w = .ok .skip { w with heap:=w.heap.setIfInBounds b (.map (es ++ [(⟨kv,vv,clock⟩ : MapEntry)]).toArray (clock + 1)) }:=by
   simp only [execOp,ho,e1,e2,e3,Instr.mapUpdate,Sem.run_bind,run_underlying hu,Result.andThen_ok,MapKept.run_getObj_map hh,MapKept.run_checkKey hk0 hk,MapKept.run_findKey (l:=es.toArray.toList) hk0 (by simpa using hn),MapKept.run_setObj_map _ hh,Sem.run_pure]
   simp
  unfold Oper.wp; rw [hrun]
  refine hkk z0_ _ G undef _ rfl (Gh.le.refl _) ?_ (Rep.any _ _)
  rw [← hM2]
  have hset:=heap_set (o':=.map (es ++ [(⟨kv,vv,clock⟩ : MapEntry)]).toArray (clock + 1)) hh
  refine hs.grown hM1 ⟨rfl,rfl,rfl,by simp,fun k _ hk=>hset.2 k (fun e=>hk (by rw [e]; rfl))⟩ hset.1 (fun b' hb'=>⟨.inl hb', ?_⟩)
  have : b = b':=Option.some.inj hb'
  subst this
  simpa using (Array.getElem?_eq_some_iff.1 hh).1
 ·rintro _ _ rfl
  rw [k2] at h; exact h
theorem zl_ {t kt et : TypeId} {d : TypeDesc} {x y : Operand} {b clock i : Nat} {es : List MapEntry} {kv vv : Value} (ho : o.op = .lookup t x y false) (hu : P.underlying t = some (.map kt et)) (hk0 : P.underlying kt = some d) (hk : IsKey d kv) (hx : Opd T0 fr x (vA (.map (some b)))) (hy : Opd T0 fr y (vA kv)) (hM : zzg b es clock ∈ M) (hn : Instr.findNow d kv es 0 = some (some (i,vv))) : AY P T0 ops o fr M (vA vv):=xd fun w0 G F a w hs hf=>by
 have e1:=(hx.use (o:=o) (ops:=ops) (by simp [ho,Op.operands]) hs.tab hf).eq
 have e2:=(hy.use (o:=o) (ops:=ops) (by simp [ho,Op.operands]) hs.tab hf).eq
 have hh : w.heap[b]? = some (.map es.toArray clock):=hs.own _ (List.mem_append_left F hM)
 refine ⟨vv, ?_,Rep.va _ _⟩
 simp only [execOp,ho,e1,e2,Instr.lookup,Sem.run_bind,run_underlying hu,Result.andThen_ok,MapKept.run_getObj_map hh,Sem.run_pure,MapKept.run_checkKey hk0 hk,MapKept.run_findKey (l:=es.toArray.toList) hk0 (by simpa using hn)]
 simp
end
end
section
open Go Go.RowKit
section
variable {P : Program} {T0 : Gh} {N : Fz} {Q : ko} {fr : Fr} {M : List Own} {ops : Array Oper}
def zlm (d L : Nat) (md : Region.Mode) (ops : Array Oper) : Bool:=(List.range ops.size).all fun i=>Nat.beq i d || Nat.beq i L || (List.range ops.size).any fun k=>decide (i < k) && !Nat.beq k d && (ops[k]?).any fun o=>o.after.any fun e=>Region.binds md e && e.on == i
theorem zq5 {d L : Nat} {md : Region.Mode} (h : zlm d L md ops = true) {i : Nat} (hi : i < ops.size) (hiL : i ≠ L) (hid : i ≠ d) : ∃ k o,i < k ∧ k ≠ d ∧ ops[k]? = some o ∧ ∃ e ∈ o.after,Region.binds md e = true ∧ e.on = i:=by
 have:=List.all_eq_true.1 h i (List.mem_range.2 hi)
 rw [zat hid,zat hiL,Bool.false_or,Bool.false_or] at this
 obtain ⟨k,_,h2⟩:=List.any_eq_true.1 this
 simp only [Bool.and_eq_true,decide_eq_true_eq,Bool.not_eq_true'] at h2
 obtain ⟨⟨h3,h3'⟩,h4⟩:=h2
 cases ho : ops[k]? with
 |none=>rw [ho] at h4; cases h4
 |some o =>
  rw [ho] at h4
  simp only [Option.any_some,Array.any_eq_true,Bool.and_eq_true,beq_iff_eq] at h4
  obtain ⟨n,hn,h5,h6⟩:=h4
  exact ⟨k,o,h3,fun e=>by (subst e; simp at h3'),ho,_,Array.getElem_mem hn,h5,h6⟩
theorem zuo {d L : Nat} {md : Region.Mode} {listed : Array Bool} (hS : Shut md ops listed) (hlast : zlm d L md ops = true) (hL : L ∈ Region.ready md ops listed) : ∀ n i,ops.size - i = n → i < ops.size → i ≠ L → i ≠ d → listed.getD i false = true:=by
 intro n
 induction n using Nat.strongRecOn with
 |_ n ih =>
  intro i hn hi hiL hid
  obtain ⟨k,o,h1,hkd,h2,e,h3,h4,h5⟩:=zq5 hlast hi hiL hid
  have hk : k < ops.size:=(Array.getElem?_eq_some_iff.1 h2).1
  by_cases hkL : k = L
  ·obtain ⟨_,o',ho',hall⟩:=mem_ready.1 hL
   rw [← hkL,h2] at ho'; obtain rfl:=Option.some.inj ho'
   rw [← h5]; exact hall e h3 h4
  ·have:=ih (ops.size - k) (by omega) k rfl (by omega) hkL hkd
   rw [← h5]; exact hS k o h2 this e h3 h4
def zea (P : Program) (T0 : Gh) (N : Fz) (md : Region.Mode) (ops : Array Oper) (L d : Nat) (QB QC : Fr → Prop) (M : List Own) : Nat → Array Bool → Fr → Prop
 |0,_,_=>False
 |fuel + 1,listed,fr=>Region.ready md ops listed ≠ [] ∧ ∀ i ∈ Region.ready md ops listed,∀ o,ops[i]? = some o →
   (i = L ∧ fuel = 0 ∧ Region.ready md ops (listed.setIfInBounds i true) = [] ∧ QB fr) ∨
   (i = L ∧ fuel = 1 ∧ d ∈ Region.ready md ops (listed.setIfInBounds i true) ∧ (∀ k ∈ Region.ready md ops (listed.setIfInBounds i true),k = d) ∧ Region.ready md ops ((listed.setIfInBounds i true).setIfInBounds d true) = [] ∧ QC fr) ∨
   (i ≠ L ∧ (∀ x,o.dst = some x → x < N.n) ∧ ∃ A,QY P T0 ops o fr M A ∧ zea P T0 N md ops L d QB QC M fuel (listed.setIfInBounds i true) (fr.put o.dst A))
theorem za4 {md : Region.Mode} {L d : Nat} {oL od : Oper} {QB QC : Fr → Prop} {w0 : World} {F : List Own} {G0 : Gh} {Qc : Exit → Act → World → Prop} (hoL : ops[L]? = some oL) (hod : ops[d]? = some od)
  (hQ : ∀ fr' G a w,Gh.le G0 G → QB fr' → Con T0 N w0 G F fr' M a w → wpList P ops Qc [oL] a w)
  (hC : ∀ fr' G a w,Gh.le G0 G → QC fr' → Con T0 N w0 G F fr' M a w → wpList P ops Qc [oL,od] a w) : ∀ (fuel : Nat) (listed : Array Bool) (fr : Fr) (G : Gh) (a : Act) (w : World),Gh.le G0 G → Con T0 N w0 G F fr M a w →
  zea P T0 N md ops L d QB QC M fuel listed fr → wpAny P md ops Qc fuel listed a w
 |0,_,_,_,_,_,_,_,h=>h.elim
 |fuel + 1,listed,fr,G,a,w,hl,hc,h=>by
  refine ⟨fun h0=>absurd h0 h.1,fun i hi => ?_⟩
  unfold wpOp
  cases ho : ops[i]? with
  |none=>have:=(mem_ready.1 hi).2; rw [ho] at this; obtain ⟨_,e,_⟩:=this; cases e
  |some o =>
   rcases h.2 i hi o ho with ⟨rfl,rfl,hnone,hq⟩ | ⟨rfl,rfl,hdr,hall,hnone,hq⟩ | ⟨_,hd,A,hy,hr⟩
   ·rw [ho] at hoL; obtain rfl:=Option.some.inj hoL
    have h3:=hQ fr G a w hl hq hc
    simp only
    unfold wpList at h3
    split at h3
    ·rename_i hw
     rw [if_pos hw]
     exact h3.imp (fun h=>zaq (fun a w h=>⟨hnone,h⟩) h) (fun h=>h)
    ·rename_i hw
     rw [if_neg hw]
     exact ⟨hnone,h3⟩
   ·rw [ho] at hoL; obtain rfl:=Option.some.inj hoL
    have h3:=hC fr G a w hl hq hc
    have hcont : ∀ a w,wpList P ops Qc [od] a w → wpAny P md ops Qc 1 (listed.setIfInBounds i true) a w:=fun a w h4=>by
     refine ⟨fun h0=>(by rw [h0] at hdr; cases hdr),fun k hk => ?_⟩
     obtain rfl:=hall k hk
     unfold wpOp
     rw [hod]
     unfold wpList at h4
     simp only
     split at h4
     ·rename_i hw
      rw [if_pos hw]
      exact h4.imp (fun h=>zaq (fun a w h=>⟨hnone,h⟩) h) (fun h=>h)
     ·rename_i hw
      rw [if_neg hw]
      exact ⟨hnone,h4⟩
    unfold wpList at h3
    simp only
    split at h3
    ·rename_i hw
     rw [if_pos hw]
     exact h3.imp (fun h=>zaq (fun a w h=>hcont a w h) h) (fun h=>h)
    ·rename_i hw
     rw [if_neg hw]
     exact hcont _ _ h3
   ·obtain ⟨h1,h2⟩:=hy w0 G F a w hc.st (fun s A _ e=>hc.fr s A trivial e)
    simp only
    by_cases hw : Region.wanted o (yielded ops a.tmps) = true
    ·rw [if_pos hw]
     refine .inl (h1 hw _ _ fun G' u w' hl' hs hu => ?_)
     exact za4 hoL hod hQ hC fuel _ _ G' _ w' (hl.trans hl') (hc.put hl' hs hd hu) hr
    ·rw [if_neg hw]
     exact za4 hoL hod hQ hC fuel _ _ G _ w hl (hc.put (Gh.le.refl _) hc.st hd (h2 (by simpa using hw))) hr
theorem zf0 {md : Region.Mode} {L d : Nat} {QB QC : Fr → Prop} (hQ : ∀ fr fr' : Fr,(∀ s,fr'.get s = fr.get s) → QB fr → QB fr') (hQC : ∀ fr fr' : Fr,(∀ s,fr'.get s = fr.get s) → QC fr → QC fr') : ∀ (fuel : Nat) (listed : Array Bool) (fr fr' : Fr),(∀ s,fr'.get s = fr.get s) → zea P T0 N md ops L d QB QC M fuel listed fr → zea P T0 N md ops L d QB QC M fuel listed fr'
 |0,_,_,_,_,h=>h
 |fuel + 1,listed,fr,fr',he,h=>by
  refine ⟨h.1,fun i hi o ho => ?_⟩
  rcases h.2 i hi o ho with ⟨h1,h2,h3,h4⟩ | ⟨h1,h2,h3,h4,h5,h6⟩ | ⟨h1,hd,A,hy,hr⟩
  ·exact .inl ⟨h1,h2,h3,hQ fr fr' he h4⟩
  ·exact .inr (.inl ⟨h1,h2,h3,h4,h5,hQC fr fr' he h6⟩)
  ·refine .inr (.inr ⟨h1,hd,A,hy.other (fun s _=>he s),zf0 hQ hQC fuel _ _ _ (fun s => ?_) hr⟩)
   cases hdst : o.dst with
   |none=>exact he s
   |some d =>
    by_cases e : s = d
    ·subst e; simp only [Fr.put,qm]
    ·simp only [Fr.put,qf e]; exact he s
theorem zcr {md : Region.Mode} {listed : Array Bool} {i : Nat} (h : i ∈ Region.ready md ops (listed.setIfInBounds i true)) : False:=by
 have h1:=(mem_ready.1 h).1
 rcases Nat.lt_or_ge i listed.size with h' | h'
 ·simp [h'] at h1
 ·simp [h'] at h1
theorem js {md : Region.Mode} {listed : Array Bool} {i : Nat} (h : i ∈ Region.ready md ops listed) (h1 : listed.getD i false = true) : False:=by
 have h0:=(mem_ready.1 h).1
 rcases Nat.lt_or_ge i listed.size with h' | h'
 ·simp [h'] at h0 h1; rw [h0] at h1; cases h1
 ·simp [Array.getElem?_eq_none h'] at h1
theorem zd_ {md : Region.Mode} {d L : Nat} {QB QC : Fr → Prop} (hQ : ∀ fr fr' : Fr,(∀ s,fr'.get s = fr.get s) → QB fr → QB fr') (hQC : ∀ fr fr' : Fr,(∀ s,fr'.get s = fr.get s) → QC fr → QC fr') (hlast : zlm d L md ops = true) {i : Nat} {oi : Oper} {A : AV} (hi : ops[i]? = some oi) (hiL : i ≠ L) (hdi : ∀ x,oi.dst = some x → x < N.n)
  (hBC : i = d → ∀ fr,QB (fr.put oi.dst A) → QC fr) :
  ∀ (fuel : Nat) (listed : Array Bool) (fr : Fr),
    (∀ j oj,ops[j]? = some oj → j ≠ i → listed.getD j true = false → (∀ e ∈ oj.after,Region.binds md e = true → e.on ≠ i) → oi.apart ops oj = true) →
    Shut md ops listed → i ∈ Region.ready md ops listed → QY P T0 ops oi fr M A →
    zea P T0 N md ops L d QB QC M fuel (listed.setIfInBounds i true) (fr.put oi.dst A) → zea P T0 N md ops L d QB QC M (fuel + 1) listed fr:=by
 intro fuel
 induction fuel with
 |zero=>intro listed fr _ _ hr hy H; exact H.elim
 |succ fuel ih =>
  intro listed fr hfree hS hr hy H
  refine ⟨fun h=>(by rw [h] at hr; cases hr),fun j hj o ho => ?_⟩
  by_cases hji : j = i
  ·subst hji; rw [hi] at ho; obtain rfl:=Option.some.inj ho; exact .inr (.inr ⟨hiL,hdi,A,hy,H⟩)
  ·obtain ⟨hjun,oj,hoj,hall⟩:=mem_ready.1 hj
   rw [ho] at hoj; obtain rfl:=Option.some.inj hoj
   have hnot : ∀ e ∈ o.after,Region.binds md e = true → e.on ≠ i:=fun e he hb heq=>by
    have h1:=hall e he hb
    rw [heq] at h1
    exact js hr h1
   by_cases hjL : j = L
   ·subst hjL
    by_cases hid : i = d
    ·rcases H.2 _ (ready_mono hj hji) o ho with ⟨_,h2,h3,h4⟩ | ⟨_,h2,h3,h4,h5,h6⟩ | ⟨h1,_⟩
     ·subst hid
      refine .inr (.inl ⟨rfl,by omega,ready_mono hr (Ne.symm hji),fun k hk => ?_, ?_,hBC rfl fr h4⟩)
      ·by_cases hki : k = i
       ·exact hki
       ·have:=ready_mono hk hki
        rw [Array.setIfInBounds_comm _ _ hji,h3] at this; cases this
      ·rw [Array.setIfInBounds_comm _ _ hji]; exact h3
     ·subst hid
      have:=zcr (md:=md) (ops:=ops) (listed:=listed.setIfInBounds j true) (i:=i) (by rw [Array.setIfInBounds_comm _ _ hji]; exact h3)
      exact this.elim
     ·exact absurd rfl h1
    ·exact (js hr (zuo hS hlast hj _ i rfl (Array.getElem?_eq_some_iff.1 hi).1 hiL hid)).elim
   ·rcases H.2 j (ready_mono hj hji) o ho with ⟨h1,_⟩ | ⟨h1,_⟩ | ⟨_,hd,A',hy',hr'⟩
    ·exact absurd h1 hjL
    ·exact absurd h1 hjL
    obtain ⟨p1,p2,p3⟩:=Oper.apart_spec (hfree j o ho hji hjun hnot)
    have hfree' : ∀ k ok,ops[k]? = some ok → k ≠ i → (listed.setIfInBounds j true).getD k true = false →
      (∀ e ∈ ok.after,Region.binds md e = true → e.on ≠ i) → oi.apart ops ok = true:=fun k ok hk hki hun hno=>by
     refine hfree k ok hk hki ?_ hno
     by_cases hjk : j = k
     ·subst hjk; exact hjun
     ·rw [getD_set_ne true hjk] at hun; exact hun
    refine .inr (.inr ⟨hjL,hd,A',hy'.other (fun s hs=>(xy fun x hx e=>p1 x hx (e ▸ hs)).symm), ?_⟩)
    refine ih (listed.setIfInBounds j true) _ hfree' (hS.put hj) (ready_mono hr (Ne.symm hji)) (hy.other fun s hs=>xy fun x hx e=>p3 x hx (e ▸ hs)) ?_
    rw [Array.setIfInBounds_comm _ _ hji]
    exact zf0 hQ hQC fuel _ _ _ (fun s=>vm (fun x hx e=>p2 x (by rw [← e]) hx |>.elim) s) hr'
def zdy (md : Region.Mode) (ops : Array Oper) (L : Nat) : Nat → Nat → Array Bool → Bool
 |0,_,listed=>(Region.ready md ops listed).contains L && (Region.ready md ops (listed.setIfInBounds L true)).isEmpty
 |fuel + 1,k,listed=>bif Nat.beq k L then zdy md ops L fuel (k + 1) listed else (Region.ready md ops listed).contains k && Region.free md ops listed k && zdy md ops L fuel (k + 1) (listed.setIfInBounds k true)
def zql : Nat → List Oper → List Oper
 |_,[]=>[]
 |0,_ :: l=>l
 |n + 1,o :: l=>o :: zql n l
def zdt (L k : Nat) (l : List Oper) : List Oper:=if k ≤ L then zql (L - k) l else l
theorem zdm {md : Region.Mode} {d L : Nat} {QB QC : Fr → Prop} (hQ : ∀ fr fr' : Fr,(∀ s,fr'.get s = fr.get s) → QB fr → QB fr') (hQC : ∀ fr fr' : Fr,(∀ s,fr'.get s = fr.get s) → QC fr → QC fr') (hlast : zlm d L md ops = true) (hBC : ∀ od,ops[d]? = some od → ∀ fr A,QB (fr.put od.dst A) → QC fr) : ∀ (l : List Oper) (k : Nat) (listed : Array Bool) (fr : Fr),(∀ j,l[j]? = ops[k + j]?) →
  zdy md ops L l.length k listed = true → Shut md ops listed → AQ P T0 N ops QB M (zdt L k l) fr → zea P T0 N md ops L d QB QC M ((zdt L k l).length + 1) listed fr
 |[],k,listed,fr,_,hB,hS,h=>by
  simp only [List.length_nil,zdy,Bool.and_eq_true] at hB
  obtain ⟨hr,he⟩:=hB
  have hr' : L ∈ Region.ready md ops listed:=by simpa using hr
  have he' : Region.ready md ops (listed.setIfInBounds L true) = []:=by simpa using he
  have e : zdt L k [] = []:=by unfold zdt; split <;> (try rfl); cases L - k <;> rfl
  rw [e] at h ⊢
  refine ⟨fun e=>(by rw [e] at hr'; cases hr'),fun i hi oi hoi => ?_⟩
  by_cases hik : i = L
  ·subst hik
   exact .inl ⟨rfl,rfl,he',h⟩
  ·have:=ready_mono hi hik
   rw [he'] at this; cases this
 |o :: l,k,listed,fr,hl,hB,hS,h=>by
  have h0 : ops[k]? = some o:=by simpa using (hl 0).symm
  have hl' : ∀ j,l[j]? = ops[k + 1 + j]?:=fun j=>by have:=hl (j + 1); simpa [Nat.add_assoc,Nat.add_comm 1 j] using this
  simp only [List.length_cons,zdy] at hB
  by_cases hkL : k = L
  ·subst hkL
   have e : zdt k k (o :: l) = l:=by unfold zdt; rw [if_pos (Nat.le_refl _),Nat.sub_self]; rfl
   have e2 : zdt k (k + 1) l = l:=by unfold zdt; rw [if_neg (by omega)]
   rw [e] at h ⊢
   simp only [Nat.beq_refl,cond_true] at hB
   have:=zdm hQ hQC hlast hBC l (k + 1) listed fr hl' hB hS (by rw [e2]; exact h)
   rw [e2] at this; exact this
  ·have e : zdt L k (o :: l) = o :: zdt L (k + 1) l:=by
    unfold zdt
    by_cases hle : k ≤ L
    ·rw [if_pos hle,if_pos (by omega)]
     obtain ⟨m,hm⟩ : ∃ m,L - k = m + 1:=⟨L - k - 1,by omega⟩
     rw [hm,show L - (k + 1) = m by omega]; rfl
    ·rw [if_neg hle,if_neg (by omega)]
   rw [e] at h ⊢
   rw [zat hkL] at hB
   simp only [cond_false,Bool.and_eq_true] at hB
   obtain ⟨⟨hr,hf⟩,hB'⟩:=hB
   have hr' : k ∈ Region.ready md ops listed:=by simpa using hr
   obtain ⟨hd,A,hy,hr2⟩:=h
   refine zd_ hQ hQC hlast h0 hkL hd (fun e fr hq=>by subst e; exact hBC o h0 fr A hq) _ listed fr (Region.free_spec h0 hf) hS hr' hy ?_
   exact zdm hQ hQC hlast hBC l (k + 1) _ _ hl' hB' (hS.put hr') hr2
inductive DelF (sd : Nat) (base : Fr) : Fr → Fr → Prop
 |base : DelF sd base base base
 |drop {A : AV} {fr frD : Fr} (h : DelF sd base fr frD) : DelF sd base ((sd,A) :: fr) frD
 |keep {s : Nat} {A : AV} {fr frD : Fr} (e : Nat.beq s sd = false) (h : DelF sd base fr frD) : DelF sd base ((s,A) :: fr) ((s,A) :: frD)
theorem DelF.spec {sd : Nat} {base fr frD : Fr} (h : DelF sd base fr frD) (hb : base.get sd = none) : ∀ s A,frD.get s = some A → s ≠ sd ∧ fr.get s = some A:=by
 induction h with
 |base=>intro s A e; exact ⟨fun h=>by (subst h; rw [hb] at e; cases e),e⟩
 |drop h ih =>
  intro s A e
  obtain ⟨h1,h2⟩:=ih s A e
  exact ⟨h1,by rw [qf h1]; exact h2⟩
 |keep e0 h ih =>
  rename_i s0 A0 fr0 frD0
  intro s A e
  by_cases hs : s = s0
  ·subst hs
   rw [qm] at e ⊢
   exact ⟨fun h=>by (subst h; simp at e0),e⟩
  ·rw [qf hs] at e ⊢; exact ih s A e
theorem zl5 {sd : Nat} {base fr frD : Fr} (h : DelF sd base fr frD:=by
 first
 |(repeat (first | exact DelF.base | apply DelF.drop | apply DelF.keep rfl)
   done)
 |fail) : DelF sd base fr frD:=h
def z55 (P : Program) (T0 : Gh) (N : Fz) (ops : Array Oper) (oL od : Oper) (sd : Nat) (base : Fr) (J : ko) : ko:=fun e fr' M'=>e = .normal ∧ AL P T0 N false ops J [oL] fr' M' ∧ ∃ frD,DelF sd base fr' frD ∧ AL P T0 N false ops J [oL,od] frD M'
theorem zv4 {oL od : Oper} {sd : Nat} {base fr' frD : Fr} {J : ko} {M' : List Own} (h1 : AL P T0 N false ops J [oL] fr' M') (h3 : AL P T0 N false ops J [oL,od] frD M') (h2 : DelF sd base fr' frD:=by first | exact zl5 | fail) : z55 P T0 N ops oL od sd base J .normal fr' M':=⟨rfl,h1,frD,h2,h3⟩
theorem uk {id : Nat} {l : List Oper} (d L : Nat) {oL od : Oper} {sd : Nat} {d1 : Fr} {M1 : List Own} (hN : zb2 .any l.toArray = false) (hD : zlm d L .any l.toArray = true) (hB : zdy .any l.toArray L l.length 0 (List.replicate l.length false).toArray = true) (hm : P.follows .mixedOrders = true)
  (hod : l[d]? = some od) (hl : l[L]? = some oL) (hn : (zql L l).length + 1 = l.length) (hsd : od.dst = some sd) (hb : fr.get sd = none)
  (h : AL P T0 N true l.toArray (z55 P T0 N l.toArray oL od sd fr (zh1 (d1 ++ fr) M1)) (zql L l) fr M)
  (k : Q .normal (d1 ++ fr) M1) : AW P T0 N (.region id l.toArray true) Q fr M:=fun w0 G F a w hc=>by
 have h' : AQ2 P T0 N l.toArray (fun fr'=>z55 P T0 N l.toArray oL od sd fr (zh1 (d1 ++ fr) M1) .normal fr' M) (fun o fr'=>zb2 .any l.toArray = true ∧ AE P T0 N l.toArray (z55 P T0 N l.toArray oL od sd fr (zh1 (d1 ++ fr) M1)) [o] fr' M) M (zql L l) fr:=by simpa [AL] using h
 rcases v6 _ _ h' with h1 | h1
 case inr=>obtain ⟨_,_,_,hlast,_⟩:=yp _ _ h1; rw [hN] at hlast; cases hlast
 have hoL : l.toArray[L]? = some oL:=by simpa using hl
 have e0 : zdt L 0 l = zql L l:=by unfold zdt; rw [if_pos (Nat.zero_le _),Nat.sub_zero]
 have h2:=u9 _ _ h1
 have hod' : l.toArray[d]? = some od:=by simpa using hod
 have h3:=zdm (md:=.any) (d:=d) (L:=L) (QB:=fun fr' => ∃ fr1,(∀ s,Fr.get fr' s = Fr.get fr1 s) ∧ z55 P T0 N l.toArray oL od sd fr (zh1 (d1 ++ fr) M1) .normal fr1 M) (QC:=fun fr' => ∃ fr1,(∀ s,s ≠ sd → Fr.get fr' s = Fr.get fr1 s) ∧ z55 P T0 N l.toArray oL od sd fr (zh1 (d1 ++ fr) M1) .normal fr1 M)
  (fun fr fr' he h=>by obtain ⟨fr1,h1,h2⟩:=h; exact ⟨fr1,fun s=>(he s).trans (h1 s),h2⟩) (fun fr fr' he h=>by obtain ⟨fr1,h1,h2⟩:=h; exact ⟨fr1,fun s hs=>(he s).trans (h1 s hs),h2⟩) hD
  (fun o ho fr2 A hq=>by
   rw [hod'] at ho; obtain rfl:=Option.some.inj ho
   obtain ⟨fr1,h1,h2⟩:=hq
   exact ⟨fr1,fun s hs=>by rw [← h1 s,hsd]; exact (qf hs).symm,h2⟩) l 0 (List.replicate l.length false).toArray fr (by simp) hB (by simpa using y5 (md:=.any) (ops:=l.toArray) l.length) (by rw [e0]; exact h2)
 rw [e0,hn] at h3
 have hfin : ∀ a w G',Gh.le G G' → cQ T0 N w0 G' F (zh1 (d1 ++ fr) M1) .normal a w → cQ T0 N w0 G F Q .normal a w:=fun a w G' hl q=>by
  obtain ⟨fr',M',G2,⟨_,hw,hs⟩,hl2,hc'⟩:=q
  exact ⟨d1 ++ fr,M1,G2,k,hl.trans hl2,hc'.st.sub (hs.append (List.Sublist.refl F)),hw G2 a.tmps hc'.fr,hc'.size,hc'.defers⟩
 have hmono : ∀ G',Gh.le G G' → ∀ e a w,cQ T0 N w0 G' F (zh1 (d1 ++ fr) M1) e a w → cQ T0 N w0 G F Q e a w:=fun G' hl e a w q=>by
  obtain ⟨fr',M',G2,⟨he,hw,hs⟩,hl2,hc'⟩:=q
  subst he
  exact hfin a w G' hl ⟨fr',M',G2,⟨rfl,hw,hs⟩,hl2,hc'⟩
 refine wp_region_any hm ?_
 have es : Array.replicate l.toArray.size false = (List.replicate l.length false).toArray:=by simp
 rw [es]
 refine za4 (G0:=G) (F:=F) (w0:=w0) hoL hod' ?_ ?_ _ _ fr G _ _ (Gh.le.refl _) ⟨hc.st.drew,hc.fr,hc.size,hc.defers⟩ (by simpa using h3)
 ·rintro fr' G' a' w' hl' ⟨fr1,he,_,hq,_⟩ hc'
  simp only [AL,Bool.false_eq_true,if_false] at hq
  exact q_ (hmono G' hl') _ _ _ (hq w0 G' F a' w' ⟨hc'.st,fun s A hs e=>hc'.fr s A hs (by rw [he s]; exact e),hc'.size,hc'.defers⟩)
 ·rintro fr' G' a' w' hl' ⟨fr1,he,_,_,frD,hdel,hq⟩ hc'
  simp only [AL,Bool.false_eq_true,if_false] at hq
  refine q_ (hmono G' hl') _ _ _ (hq w0 G' F a' w' ⟨hc'.st,fun s A hs e => ?_,hc'.size,hc'.defers⟩)
  obtain ⟨e1,e2⟩:=hdel.spec hb s A e
  exact hc'.fr s A hs (by rw [he s e1]; exact e2)
def nop : Oper:={ dst:=none,op:=.move (.const (.bool false)),type:=0,pos := "",after := #[],guard:=none }
def vb : Array Oper := #[nop,nop]
theorem uu : zb2 .any vb = false:=by decide +kernel
theorem QY.plain {ops' : Array Oper} {o : Oper} {A : AV} (hg : o.guard = none) (h : QY P T0 ops' o fr M A) : QY P T0 ops o fr M A:=fun w0 G F a w hs hf=>by
 have hr : ∀ s,reads ops' o s → reads ops o s:=fun s hs=>by
  simp only [reads,Oper.looksAt,hg] at hs ⊢; exact hs
 obtain ⟨h1,h2⟩:=h w0 G F a w hs (fun s A hs' e=>hf s A (hr s hs') e)
 have hw : ∀ y,Region.wanted o y = true:=fun y=>by simp [Region.wanted,hg]
 exact ⟨fun _=>h1 (hw _),fun e=>by rw [hw] at e; cases e⟩
theorem zdd {ops' : Array Oper} {QA : Fr → Prop} : ∀ (l : List Oper) (fr : Fr),(l.all fun o=>o.guard.isNone) = true → AQ P T0 N ops' QA M l fr → AQ P T0 N ops QA M l fr
 |[],_,_,h=>h
 |o :: l,fr,hg,h=>by
  simp only [List.all_cons,Bool.and_eq_true] at hg
  obtain ⟨hd,A,hy,hr⟩:=h
  exact ⟨hd,A,hy.plain (by simpa using hg.1),zdd l _ hg.2 hr⟩
def zik (md : Region.Mode) (ops : Array Oper) (L d : Nat) : Nat → Nat → Array Bool → Bool
 |0,_,listed=>(Region.ready md ops listed).contains L && ((Region.ready md ops listed).all fun k=>Nat.beq k L) && (Region.ready md ops (listed.setIfInBounds L true)).contains d && ((Region.ready md ops (listed.setIfInBounds L true)).all fun k=>Nat.beq k d) && (Region.ready md ops ((listed.setIfInBounds L true).setIfInBounds d true)).isEmpty
 |fuel + 1,k,listed=>(Region.ready md ops listed).contains k && Region.free md ops listed k && zik md ops L d fuel (k + 1) (listed.setIfInBounds k true)
theorem zh_ {md : Region.Mode} {d L : Nat} {QB QC : Fr → Prop} (hQ : ∀ fr fr' : Fr,(∀ s,fr'.get s = fr.get s) → QB fr → QB fr') (hQC : ∀ fr fr' : Fr,(∀ s,fr'.get s = fr.get s) → QC fr → QC fr') (hlast : zlm d L md ops = true) : ∀ (l : List Oper) (k : Nat) (listed : Array Bool) (fr : Fr),k + l.length ≤ L → k + l.length ≤ d → (∀ j,j < l.length → l[j]? = ops[k + j]?) →
  zik md ops L d l.length k listed = true → Shut md ops listed → AQ P T0 N ops QC M l fr → zea P T0 N md ops L d QB QC M (l.length + 2) listed fr
 |[],k,listed,fr,_,_,_,hB,hS,h=>by
  simp only [List.length_nil,zik,Bool.and_eq_true] at hB
  obtain ⟨⟨⟨⟨b1,b2⟩,b3⟩,b4⟩,b5⟩:=hB
  have r1 : L ∈ Region.ready md ops listed:=by simpa using b1
  have r3 : d ∈ Region.ready md ops (listed.setIfInBounds L true):=by simpa using b3
  have r2 : ∀ k ∈ Region.ready md ops listed,k = L:=fun k hk=>Nat.eq_of_beq_eq_true (List.all_eq_true.1 b2 k hk)
  have r4 : ∀ k ∈ Region.ready md ops (listed.setIfInBounds L true),k = d:=fun k hk=>Nat.eq_of_beq_eq_true (List.all_eq_true.1 b4 k hk)
  have r5 : Region.ready md ops ((listed.setIfInBounds L true).setIfInBounds d true) = []:=by simpa using b5
  refine ⟨fun e=>(by rw [e] at r1; cases r1),fun i hi oi hoi => ?_⟩
  obtain rfl:=r2 i hi
  exact .inr (.inl ⟨rfl,rfl,r3,r4,r5,h⟩)
 |o :: l,k,listed,fr,hL,hd',hl,hB,hS,h=>by
  simp only [List.length_cons] at hL hd'
  have h0 : ops[k]? = some o:=by simpa using (hl 0 (by simp)).symm
  have hl' : ∀ j,j < l.length → l[j]? = ops[k + 1 + j]?:=fun j hj=>by have:=hl (j + 1) (by simp; omega); simpa [Nat.add_assoc,Nat.add_comm 1 j] using this
  simp only [List.length_cons,zik,Bool.and_eq_true] at hB
  obtain ⟨⟨hr,hf⟩,hB'⟩:=hB
  have hr' : k ∈ Region.ready md ops listed:=by simpa using hr
  obtain ⟨hd,A,hy,hr2⟩:=h
  refine zd_ hQ hQC hlast h0 (by omega) hd (fun e=>absurd e (by omega)) _ listed fr (Region.free_spec h0 hf) hS hr' hy ?_
  exact zh_ hQ hQC hlast l (k + 1) _ _ (by omega) (by omega) hl' hB' (hS.put hr') hr2
def z4q (P : Program) (T0 : Gh) (N : Fz) (ops : Array Oper) (oL od : Oper) (Q : ko) : ko:=fun e fr' M'=>e = .normal ∧ AL P T0 N false ops Q [oL,od] fr' M'
theorem zrt {oL od : Oper} {fr' : Fr} {M' : List Own} (h : AL P T0 N false ops Q [oL,od] fr' M') : z4q P T0 N ops oL od Q .normal fr' M':=⟨rfl,h⟩
theorem zn_ {id : Nat} {l lq : List Oper} {oL od : Oper} (hl : l = lq ++ [oL,od]) (hD : zlm (l.length - 1) (l.length - 2) .any l.toArray = true) (hB : zik .any l.toArray (l.length - 2) (l.length - 1) lq.length 0 (List.replicate l.length false).toArray = true) (hg : (lq.all fun o=>o.guard.isNone) = true) (hm : P.follows .mixedOrders = true)
  (h : AL P T0 N true vb (z4q P T0 N l.toArray oL od Q) lq fr M) : AW P T0 N (.region id l.toArray true) Q fr M:=fun w0 G F a w hc=>by
 have h' : AQ2 P T0 N vb (fun fr'=>z4q P T0 N l.toArray oL od Q .normal fr' M) (fun o fr'=>zb2 .any vb = true ∧ AE P T0 N vb (z4q P T0 N l.toArray oL od Q) [o] fr' M) M lq fr:=by simpa [AL] using h
 rcases v6 _ _ h' with h1 | h1
 case inr=>obtain ⟨_,_,_,hlast,_⟩:=yp _ _ h1; rw [uu] at hlast; cases hlast
 have hlen : l.length = lq.length + 2:=by rw [hl]; simp
 have e1 : l.length - 2 = lq.length:=by omega
 have e2 : l.length - 1 = lq.length + 1:=by omega
 rw [e1,e2] at hD hB
 have hoL : l.toArray[lq.length]? = some oL:=by rw [hl]; simp
 have hod : l.toArray[lq.length + 1]? = some od:=by rw [hl]; simp
 have h2:=zdd (ops:=l.toArray) _ _ hg (u9 _ _ h1)
 have h3:=zh_ (md:=.any) (d:=lq.length + 1) (L:=lq.length) (QB:=fun _=>False) (QC:=fun fr' => ∃ fr1,(∀ s,Fr.get fr' s = Fr.get fr1 s) ∧ z4q P T0 N l.toArray oL od Q .normal fr1 M)
  (fun fr fr' he h=>h) (fun fr fr' he h=>by obtain ⟨fr1,h1,h2⟩:=h; exact ⟨fr1,fun s=>(he s).trans (h1 s),h2⟩) hD lq 0 (List.replicate l.length false).toArray fr (by omega) (by omega)
  (fun j hj=>by rw [hl]; simp [List.getElem?_append_left hj]) hB (by simpa using y5 (md:=.any) (ops:=l.toArray) l.length) h2
 refine wp_region_any hm ?_
 have es : Array.replicate l.toArray.size false = (List.replicate l.length false).toArray:=by simp
 rw [es]
 refine za4 (QB:=fun _=>False) (QC:=fun fr' => ∃ fr1,(∀ s,Fr.get fr' s = Fr.get fr1 s) ∧ z4q P T0 N l.toArray oL od Q .normal fr1 M) (G0:=G) (F:=F) (w0:=w0) hoL hod (fun _ _ _ _ _ hq=>hq.elim) ?_ _ _ fr G _ _ (Gh.le.refl _) ⟨hc.st.drew,hc.fr,hc.size,hc.defers⟩ (by rw [← hlen] at h3; simpa using h3)
 rintro fr' G' a' w' hl' ⟨fr1,he,_,hq⟩ hc'
 simp only [AL,Bool.false_eq_true,if_false] at hq
 exact q_ (fun _ _ _ q=>q.mono (fun _ _ _ h=>h) hl') _ _ _ (hq w0 G' F a' w' ⟨hc'.st,fun s A hs e=>hc'.fr s A hs (by rw [he s]; exact e),hc'.size,hc'.defers⟩)
theorem qt {id : Nat} {l : List Oper} {oL od : Oper} (h2 : Nat.ble 2 l.length = true) (hoL : l[l.length - 2]? = some oL) (hod : l[l.length - 1]? = some od) (hD : zlm (l.length - 1) (l.length - 2) .any l.toArray = true) (hB : zik .any l.toArray (l.length - 2) (l.length - 1) (l.length - 2) 0 (List.replicate l.length false).toArray = true) (hg : ((l.take (l.length - 2)).all fun o=>o.guard.isNone) = true) (hm : P.follows .mixedOrders = true)
  (h : AL P T0 N true vb (z4q P T0 N l.toArray oL od Q) (l.take (l.length - 2)) fr M) : AW P T0 N (.region id l.toArray true) Q fr M:=by
 have hlen : 2 ≤ l.length:=Nat.le_of_ble_eq_true h2
 obtain ⟨n,hn⟩ : ∃ n,l.length = n + 2:=⟨l.length - 2,by omega⟩
 rw [show l.length - 2 = n by omega] at *
 rw [show l.length - 1 = n + 1 by omega] at *
 have e : l = l.take n ++ [oL,od]:=by
  refine List.ext_getElem? fun j => ?_
  rw [List.getElem?_append,List.length_take,Nat.min_eq_left (by omega)]
  by_cases h1 : j < n
  ·rw [if_pos h1,List.getElem?_take,if_pos h1]
  ·rw [if_neg h1]
   by_cases h3 : j = n
   ·subst h3; simpa using hoL
   ·by_cases h4 : j = n + 1
    ·subst h4; simpa using hod
    ·rw [List.getElem?_eq_none (by omega),List.getElem?_eq_none (by simp; omega)]
 refine zn_ e (by rw [show l.length - 1 = n + 1 by omega,show l.length - 2 = n by omega]; exact hD) ?_ hg hm h
 rw [show l.length - 1 = n + 1 by omega,show l.length - 2 = n by omega,List.length_take,Nat.min_eq_left (by omega)]
 exact hB
end
end
section
open Go Go.RowKit
section
variable {P : Program} {T0 : Gh} {N : Fz} {Q : ko} {fr : Fr} {M : List Own} {ops : Array Oper}
def zkx (md : Region.Mode) (ops : Array Oper) : List Nat → Array Bool → Bool
 |[],listed=>(Region.ready md ops listed).isEmpty
 |d :: ds,listed=>(Region.ready md ops listed).contains d && ((Region.ready md ops listed).all fun k=>Nat.beq k d) && zkx md ops ds (listed.setIfInBounds d true)
theorem vq {md : Region.Mode} {Qc : Exit → Act → World → Prop} : ∀ (ds : List Nat) (os : List Oper) (listed : Array Bool) (a : Act) (w : World),ds.map (fun d=>ops[d]?) = os.map some → zkx md ops ds listed = true → wpList P ops Qc os a w → wpAny P md ops Qc ds.length listed a w
 |[],[],listed,a,w,_,hB,h=>⟨by simpa [zkx] using hB,h⟩
 |[],_ :: _,_,_,_,he,_,_=>by simp at he
 |_ :: _,[],_,_,_,he,_,_=>by simp at he
 |d :: ds,o :: os,listed,a,w,he,hB,h=>by
  simp only [List.map_cons,List.cons.injEq] at he
  simp only [zkx,Bool.and_eq_true] at hB
  obtain ⟨⟨b1,b2⟩,b3⟩:=hB
  have r1 : d ∈ Region.ready md ops listed:=by simpa using b1
  refine ⟨fun h0=>(by rw [h0] at r1; cases r1),fun i hi => ?_⟩
  obtain rfl:=Nat.eq_of_beq_eq_true (List.all_eq_true.1 b2 i hi)
  unfold wpOp
  rw [he.1]
  unfold wpList at h
  simp only
  split at h
  ·rename_i hw
   rw [if_pos hw]
   exact h.imp (fun h=>zaq (fun a w h=>vq ds os _ a w he.2 b3 h) h) (fun h=>h)
  ·rename_i hw
   rw [if_neg hw]
   exact vq ds os _ _ _ he.2 b3 h
def zfz (P : Program) (T0 : Gh) (N : Fz) (md : Region.Mode) (ops : Array Oper) (L : Nat) (ds : List Nat) (QC : Fr → Prop) (M : List Own) : Nat → Array Bool → Fr → Prop
 |0,_,_=>False
 |fuel + 1,listed,fr=>Region.ready md ops listed ≠ [] ∧ ∀ i ∈ Region.ready md ops listed,∀ o,ops[i]? = some o →
   (i = L ∧ fuel = ds.length ∧ zkx md ops ds (listed.setIfInBounds i true) = true ∧ QC fr) ∨
   (i ≠ L ∧ (∀ x,o.dst = some x → x < N.n) ∧ ∃ A,QY P T0 ops o fr M A ∧ zfz P T0 N md ops L ds QC M fuel (listed.setIfInBounds i true) (fr.put o.dst A))
theorem zdk {md : Region.Mode} {L : Nat} {ds : List Nat} {oL : Oper} {os : List Oper} {QC : Fr → Prop} {w0 : World} {F : List Own} {G0 : Gh} {Qc : Exit → Act → World → Prop} (hoL : ops[L]? = some oL) (hos : ds.map (fun d=>ops[d]?) = os.map some)
  (hC : ∀ fr' G a w,Gh.le G0 G → QC fr' → Con T0 N w0 G F fr' M a w → wpList P ops Qc (oL :: os) a w) : ∀ (fuel : Nat) (listed : Array Bool) (fr : Fr) (G : Gh) (a : Act) (w : World),Gh.le G0 G → Con T0 N w0 G F fr M a w →
  zfz P T0 N md ops L ds QC M fuel listed fr → wpAny P md ops Qc fuel listed a w
 |0,_,_,_,_,_,_,_,h=>h.elim
 |fuel + 1,listed,fr,G,a,w,hl,hc,h=>by
  refine ⟨fun h0=>absurd h0 h.1,fun i hi => ?_⟩
  unfold wpOp
  cases ho : ops[i]? with
  |none=>have:=(mem_ready.1 hi).2; rw [ho] at this; obtain ⟨_,e,_⟩:=this; cases e
  |some o =>
   rcases h.2 i hi o ho with ⟨rfl,rfl,hB,hq⟩ | ⟨_,hd,A,hy,hr⟩
   ·rw [ho] at hoL; obtain rfl:=Option.some.inj hoL
    have h3:=hC fr G a w hl hq hc
    unfold wpList at h3
    simp only
    split at h3
    ·rename_i hw
     rw [if_pos hw]
     exact h3.imp (fun h=>zaq (fun a w h=>vq ds os _ a w hos hB h) h) (fun h=>h)
    ·rename_i hw
     rw [if_neg hw]
     exact vq ds os _ _ _ hos hB h3
   ·obtain ⟨h1,h2⟩:=hy w0 G F a w hc.st (fun s A _ e=>hc.fr s A trivial e)
    simp only
    by_cases hw : Region.wanted o (yielded ops a.tmps) = true
    ·rw [if_pos hw]
     refine .inl (h1 hw _ _ fun G' u w' hl' hs hu => ?_)
     exact zdk hoL hos hC fuel _ _ G' _ w' (hl.trans hl') (hc.put hl' hs hd hu) hr
    ·rw [if_neg hw]
     exact zdk hoL hos hC fuel _ _ G _ w hl (hc.put (Gh.le.refl _) hc.st hd (h2 (by simpa using hw))) hr
theorem zfy {md : Region.Mode} {L : Nat} {ds : List Nat} {QC : Fr → Prop} (hQC : ∀ fr fr' : Fr,(∀ s,fr'.get s = fr.get s) → QC fr → QC fr') : ∀ (fuel : Nat) (listed : Array Bool) (fr fr' : Fr),(∀ s,fr'.get s = fr.get s) → zfz P T0 N md ops L ds QC M fuel listed fr → zfz P T0 N md ops L ds QC M fuel listed fr'
 |0,_,_,_,_,h=>h
 |fuel + 1,listed,fr,fr',he,h=>by
  refine ⟨h.1,fun i hi o ho => ?_⟩
  rcases h.2 i hi o ho with ⟨h1,h2,h3,h4⟩ | ⟨h1,hd,A,hy,hr⟩
  ·exact .inl ⟨h1,h2,h3,hQC fr fr' he h4⟩
  ·refine .inr ⟨h1,hd,A,hy.other (fun s _=>he s),zfy hQC fuel _ _ _ (fun s => ?_) hr⟩
   cases hdst : o.dst with
   |none=>exact he s
   |some d =>
    by_cases e : s = d
    ·subst e; simp only [Fr.put,qm]
    ·simp only [Fr.put,qf e]; exact he s
def zun (L : Nat) (md : Region.Mode) (ops : Array Oper) : Bool:=(List.range L).all fun i=>(List.range (L + 1)).any fun k=>decide (i < k) && (ops[k]?).any fun o=>o.after.any fun e=>Region.binds md e && e.on == i
theorem zq4 {L : Nat} {md : Region.Mode} (h : zun L md ops = true) {i : Nat} (hi : i < L) : ∃ k o,i < k ∧ k ≤ L ∧ ops[k]? = some o ∧ ∃ e ∈ o.after,Region.binds md e = true ∧ e.on = i:=by
 have:=List.all_eq_true.1 h i (List.mem_range.2 hi)
 obtain ⟨k,hk,h2⟩:=List.any_eq_true.1 this
 simp only [Bool.and_eq_true,decide_eq_true_eq] at h2
 obtain ⟨h3,h4⟩:=h2
 cases ho : ops[k]? with
 |none=>rw [ho] at h4; cases h4
 |some o =>
  rw [ho] at h4
  simp only [Option.any_some,Array.any_eq_true,Bool.and_eq_true,beq_iff_eq] at h4
  obtain ⟨n,hn,h5,h6⟩:=h4
  exact ⟨k,o,h3,by have:=List.mem_range.1 hk; omega,ho,_,Array.getElem_mem hn,h5,h6⟩
theorem zum {L : Nat} {md : Region.Mode} {listed : Array Bool} (hS : Shut md ops listed) (hlast : zun L md ops = true) (hL : L ∈ Region.ready md ops listed) : ∀ n i,L - i = n → i < L → listed.getD i false = true:=by
 intro n
 induction n using Nat.strongRecOn with
 |_ n ih =>
  intro i hn hi
  obtain ⟨k,o,h1,h2',h2,e,h3,h4,h5⟩:=zq4 hlast hi
  by_cases hkL : k = L
  ·obtain ⟨_,o',ho',hall⟩:=mem_ready.1 hL
   rw [← hkL,h2] at ho'; obtain rfl:=Option.some.inj ho'
   rw [← h5]; exact hall e h3 h4
  ·have:=ih (L - k) (by omega) k rfl (by omega)
   rw [← h5]; exact hS k o h2 this e h3 h4
theorem zk2 {md : Region.Mode} {L : Nat} {ds : List Nat} {QC : Fr → Prop} (hQC : ∀ fr fr' : Fr,(∀ s,fr'.get s = fr.get s) → QC fr → QC fr') (hlast : zun L md ops = true) {i : Nat} {oi : Oper} {A : AV} (hi : ops[i]? = some oi) (hiL : i < L) (hdi : ∀ x,oi.dst = some x → x < N.n) :
  ∀ (fuel : Nat) (listed : Array Bool) (fr : Fr),
    (∀ j oj,ops[j]? = some oj → j ≠ i → listed.getD j true = false → (∀ e ∈ oj.after,Region.binds md e = true → e.on ≠ i) → oi.apart ops oj = true) →
    Shut md ops listed → i ∈ Region.ready md ops listed → QY P T0 ops oi fr M A →
    zfz P T0 N md ops L ds QC M fuel (listed.setIfInBounds i true) (fr.put oi.dst A) → zfz P T0 N md ops L ds QC M (fuel + 1) listed fr:=by
 intro fuel
 induction fuel with
 |zero=>intro listed fr _ _ hr hy H; exact H.elim
 |succ fuel ih =>
  intro listed fr hfree hS hr hy H
  refine ⟨fun h=>(by rw [h] at hr; cases hr),fun j hj o ho => ?_⟩
  by_cases hji : j = i
  ·subst hji; rw [hi] at ho; obtain rfl:=Option.some.inj ho; exact .inr ⟨by omega,hdi,A,hy,H⟩
  ·obtain ⟨hjun,oj,hoj,hall⟩:=mem_ready.1 hj
   rw [ho] at hoj; obtain rfl:=Option.some.inj hoj
   have hnot : ∀ e ∈ o.after,Region.binds md e = true → e.on ≠ i:=fun e he hb heq=>by
    have h1:=hall e he hb
    rw [heq] at h1
    exact js hr h1
   have hjL : j ≠ L:=fun e=>by
    subst e
    exact js hr (zum hS hlast hj _ i rfl hiL)
   rcases H.2 j (ready_mono hj hji) o ho with ⟨h1,_⟩ | ⟨_,hd,A',hy',hr'⟩
   ·exact absurd h1 hjL
   obtain ⟨p1,p2,p3⟩:=Oper.apart_spec (hfree j o ho hji hjun hnot)
   have hfree' : ∀ k ok,ops[k]? = some ok → k ≠ i → (listed.setIfInBounds j true).getD k true = false →
     (∀ e ∈ ok.after,Region.binds md e = true → e.on ≠ i) → oi.apart ops ok = true:=fun k ok hk hki hun hno=>by
    refine hfree k ok hk hki ?_ hno
    by_cases hjk : j = k
    ·subst hjk; exact hjun
    ·rw [getD_set_ne true hjk] at hun; exact hun
   refine .inr ⟨hjL,hd,A',hy'.other (fun s hs=>(xy fun x hx e=>p1 x hx (e ▸ hs)).symm), ?_⟩
   refine ih (listed.setIfInBounds j true) _ hfree' (hS.put hj) (ready_mono hr (Ne.symm hji)) (hy.other fun s hs=>xy fun x hx e=>p3 x hx (e ▸ hs)) ?_
   rw [Array.setIfInBounds_comm _ _ hji]
   exact zfy hQC fuel _ _ _ (fun s=>vm (fun x hx e=>p2 x (by rw [← e]) hx |>.elim) s) hr'
def zzj (md : Region.Mode) (ops : Array Oper) (L : Nat) (ds : List Nat) : Nat → Nat → Array Bool → Bool
 |0,_,listed=>zkx md ops (L :: ds) listed
 |fuel + 1,k,listed=>(Region.ready md ops listed).contains k && Region.free md ops listed k && zzj md ops L ds fuel (k + 1) (listed.setIfInBounds k true)
theorem zh8 {md : Region.Mode} {L : Nat} {ds : List Nat} {QC : Fr → Prop} (hQC : ∀ fr fr' : Fr,(∀ s,fr'.get s = fr.get s) → QC fr → QC fr') (hlast : zun L md ops = true) : ∀ (l : List Oper) (k : Nat) (listed : Array Bool) (fr : Fr),k + l.length ≤ L → (∀ j,j < l.length → l[j]? = ops[k + j]?) →
  zzj md ops L ds l.length k listed = true → Shut md ops listed → AQ P T0 N ops QC M l fr → zfz P T0 N md ops L ds QC M (l.length + (ds.length + 1)) listed fr
 |[],k,listed,fr,_,_,hB,hS,h=>by
  simp only [List.length_nil,zzj,zkx,Bool.and_eq_true] at hB
  obtain ⟨⟨b1,b2⟩,b3⟩:=hB
  have r1 : L ∈ Region.ready md ops listed:=by simpa using b1
  rw [List.length_nil,Nat.zero_add]
  refine ⟨fun e=>(by rw [e] at r1; cases r1),fun i hi oi hoi => ?_⟩
  obtain rfl:=Nat.eq_of_beq_eq_true (List.all_eq_true.1 b2 i hi)
  exact .inl ⟨rfl,rfl,b3,h⟩
 |o :: l,k,listed,fr,hL,hl,hB,hS,h=>by
  simp only [List.length_cons] at hL
  have h0 : ops[k]? = some o:=by simpa using (hl 0 (by simp)).symm
  have hl' : ∀ j,j < l.length → l[j]? = ops[k + 1 + j]?:=fun j hj=>by have:=hl (j + 1) (by simp; omega); simpa [Nat.add_assoc,Nat.add_comm 1 j] using this
  simp only [List.length_cons,zzj,Bool.and_eq_true] at hB
  obtain ⟨⟨hr,hf⟩,hB'⟩:=hB
  have hr' : k ∈ Region.ready md ops listed:=by simpa using hr
  obtain ⟨hd,A,hy,hr2⟩:=h
  rw [List.length_cons,show l.length + 1 + (ds.length + 1) = (l.length + (ds.length + 1)) + 1 by omega]
  refine zk2 hQC hlast h0 (by omega) hd _ listed fr (Region.free_spec h0 hf) hS hr' hy ?_
  exact zh8 hQC hlast l (k + 1) _ _ (by omega) hl' hB' (hS.put hr') hr2
def z53 (P : Program) (T0 : Gh) (N : Fz) (ops : Array Oper) (os : List Oper) (Q : ko) : ko:=fun e fr' M'=>e = .normal ∧ AL P T0 N false ops Q os fr' M'
theorem qad {os : List Oper} {fr' : Fr} {M' : List Own} (h : AL P T0 N false ops Q os fr' M') : z53 P T0 N ops os Q .normal fr' M':=⟨rfl,h⟩
def zb4 : Nat → Nat → List Nat
 |0,_=>[]
 |n + 1,k=>k :: zb4 n (k + 1)
theorem zcz (l : List Oper) : ∀ (os : List Oper) (k : Nat),(∀ j,j < os.length → l[k + j]? = os[j]?) → (zb4 os.length k).map (fun d=>l.toArray[d]?) = os.map some
 |[],_,_=>rfl
 |o :: os,k,h=>by
  have h0:=h 0 (by simp)
  simp only [List.length_cons,zb4,List.map_cons,List.cons.injEq]
  refine ⟨by simpa using h0,zcz l os (k + 1) fun j hj => ?_⟩
  have:=h (j + 1) (by simp; omega)
  rw [show k + 1 + j = k + (j + 1) by omega,this]; simp
theorem zcy : ∀ n k,(zb4 n k).length = n
 |0,_=>rfl
 |n + 1,k=>by simp [zb4,zcy n (k + 1)]
theorem jg {id : Nat} {l : List Oper} (n : Nat) {oL : Oper} {os : List Oper} (hs : l.drop n = oL :: os) (hD : zun n .any l.toArray = true) (hB : zzj .any l.toArray n (zb4 (l.length - (n + 1)) (n + 1)) n 0 (List.replicate l.length false).toArray = true) (hg : ((l.take n).all fun o=>o.guard.isNone) = true) (hm : P.follows .mixedOrders = true)
  (h : AL P T0 N true vb (z53 P T0 N l.toArray (oL :: os) Q) (l.take n) fr M) : AW P T0 N (.region id l.toArray true) Q fr M:=fun w0 G F a w hc=>by
 have h' : AQ2 P T0 N vb (fun fr'=>z53 P T0 N l.toArray (oL :: os) Q .normal fr' M) (fun o fr'=>zb2 .any vb = true ∧ AE P T0 N vb (z53 P T0 N l.toArray (oL :: os) Q) [o] fr' M) M (l.take n) fr:=by simpa [AL] using h
 rcases v6 _ _ h' with h1 | h1
 case inr=>obtain ⟨_,_,_,hlast,_⟩:=yp _ _ h1; rw [uu] at hlast; cases hlast
 have hlen : l.length = n + (os.length + 1):=by
  have:=congrArg List.length hs
  simp only [List.length_drop,List.length_cons] at this; omega
 have hgd : ∀ j,l[n + j]? = (oL :: os)[j]?:=fun j=>by rw [← hs,List.getElem?_drop]
 have hoL : l.toArray[n]? = some oL:=by simpa using hgd 0
 have hos : (zb4 os.length (n + 1)).map (fun d=>l.toArray[d]?) = os.map some:=zcz l os (n + 1) fun j _=>by
  have:=hgd (j + 1)
  rw [show n + 1 + j = n + (j + 1) by omega,this]; simp
 rw [show l.length - (n + 1) = os.length by omega] at hB
 have htl : (l.take n).length = n:=by rw [List.length_take]; omega
 have h2:=zdd (ops:=l.toArray) _ _ hg (u9 _ _ h1)
 have h3:=zh8 (md:=.any) (L:=n) (ds:=zb4 os.length (n + 1)) (QC:=fun fr' => ∃ fr1,(∀ s,Fr.get fr' s = Fr.get fr1 s) ∧ z53 P T0 N l.toArray (oL :: os) Q .normal fr1 M)
  (fun fr fr' he h=>by obtain ⟨fr1,h1,h2⟩:=h; exact ⟨fr1,fun s=>(he s).trans (h1 s),h2⟩) hD (l.take n) 0 (List.replicate l.length false).toArray fr (by omega)
  (fun j hj=>by rw [htl] at hj; simp [List.getElem?_take,hj]) (by rw [htl]; exact hB) (by simpa using y5 (md:=.any) (ops:=l.toArray) l.length) h2
 rw [htl,zcy,← hlen] at h3
 refine wp_region_any hm ?_
 have es : Array.replicate l.toArray.size false = (List.replicate l.length false).toArray:=by simp
 rw [es]
 refine zdk (QC:=fun fr' => ∃ fr1,(∀ s,Fr.get fr' s = Fr.get fr1 s) ∧ z53 P T0 N l.toArray (oL :: os) Q .normal fr1 M) (G0:=G) (F:=F) (w0:=w0) hoL hos ?_ _ _ fr G _ _ (Gh.le.refl _) ⟨hc.st.drew,hc.fr,hc.size,hc.defers⟩ (by simpa using h3)
 rintro fr' G' a' w' hl' ⟨fr1,he,_,hq⟩ hc'
 simp only [AL,Bool.false_eq_true,if_false] at hq
 exact q_ (fun _ _ _ q=>q.mono (fun _ _ _ h=>h) hl') _ _ _ (hq w0 G' F a' w' ⟨hc'.st,fun s A hs e=>hc'.fr s A hs (by rw [he s]; exact e),hc'.size,hc'.defers⟩)
end
end
section
open Go Go.RowKit
section
variable {P : Program} {T0 : Gh} {N : Fz} {Q : ko} {fr : Fr} {M : List Own} {ops : Array Oper}
theorem AO.other {o : Oper} {fr' : Fr} {K : AV → List Own → Prop} {KP : List PanicEntry → List Own → Prop} (h : AO P T0 ops o fr M K KP) (he : ∀ s,reads ops o s → fr'.get s = fr.get s) : AO P T0 ops o fr' M K KP:=fun w0 G F a w next Qc hs hf hk hp =>
 h w0 G F a w next Qc hs (fun s A hr e=>hf s A hr (by rw [he s hr]; exact e)) hk hp
def zaj (P : Program) (T0 : Gh) (N : Fz) (md : Region.Mode) (ops : Array Oper) (M : List Own) (QE : Fr → List Own → Prop) : Nat → Array Bool → Fr → List Own → Prop
 |0,listed,fr,X=>Region.ready md ops listed = [] ∧ QE fr X
 |fuel + 1,listed,fr,X=>(Region.ready md ops listed = [] → QE fr X) ∧ ∀ i ∈ Region.ready md ops listed,∀ o,ops[i]? = some o → (∀ x,o.dst = some x → x < N.n) ∧
   ((∃ A,QY P T0 ops o fr M A ∧ zaj P T0 N md ops M QE fuel (listed.setIfInBounds i true) (fr.put o.dst A) X) ∨
    (o.guard = none ∧ ∃ K : AV → List Own → Prop,AO P T0 ops o fr X K (fun _ _=>False) ∧ ∀ A X',K A X' → zaj P T0 N md ops M QE fuel (listed.setIfInBounds i true) (fr.put o.dst A) X'))
theorem za3 {md : Region.Mode} {QE : Fr → List Own → Prop} {w0 : World} {F : List Own} {G0 : Gh} {Qc : Exit → Act → World → Prop}
  (hQ : ∀ fr' X G a w,Gh.le G0 G → QE fr' X → Con T0 N w0 G F fr' (X ++ M) a w → Qc .normal a w) : ∀ (fuel : Nat) (listed : Array Bool) (fr : Fr) (X : List Own) (G : Gh) (a : Act) (w : World),Gh.le G0 G → Con T0 N w0 G F fr (X ++ M) a w →
  zaj P T0 N md ops M QE fuel listed fr X → wpAny P md ops Qc fuel listed a w
 |0,_,_,_,_,_,_,hl,hc,h=>⟨h.1,hQ _ _ _ _ _ hl h.2 hc⟩
 |fuel + 1,listed,fr,X,G,a,w,hl,hc,h=>by
  refine ⟨fun h0=>hQ _ _ _ _ _ hl (h.1 h0) hc,fun i hi => ?_⟩
  unfold wpOp
  cases ho : ops[i]? with
  |none=>have:=(mem_ready.1 hi).2; rw [ho] at this; obtain ⟨_,e,_⟩:=this; cases e
  |some o =>
   have hp : List.Perm (X ++ M ++ F) (M ++ (X ++ F)):=by
    rw [← List.append_assoc]; exact List.Perm.append_right F List.perm_append_comm
   obtain ⟨hd,⟨A,hy,hr⟩ | ⟨hg,K,hao,hr⟩⟩:=h.2 i hi o ho
   ·obtain ⟨h1,h2⟩:=hy w0 G (X ++ F) a w (hc.st.perm hp.symm) (fun s A _ e=>hc.fr s A trivial e)
    simp only
    by_cases hw : Region.wanted o (yielded ops a.tmps) = true
    ·rw [if_pos hw]
     refine .inl (h1 hw _ _ fun G' u w' hl' hs hu => ?_)
     exact za3 hQ fuel _ _ _ G' _ w' (hl.trans hl') (hc.put hl' (hs.perm hp) hd hu) hr
    ·rw [if_neg hw]
     exact za3 hQ fuel _ _ _ G _ w hl (hc.put (Gh.le.refl _) hc.st hd (h2 (by simpa using hw))) hr
   ·have hw : Region.wanted o (yielded ops a.tmps) = true:=by simp [Region.wanted,hg]
    simp only
    rw [if_pos hw]
    refine .inl (hao w0 G (M ++ F) a w _ _ (by rw [← List.append_assoc]; exact hc.st) (fun s A _ e=>hc.fr s A trivial e) (fun A X' G' u w' k hl' hs hu => ?_) (fun _ _ _ _ h=>h.elim))
    exact za3 hQ fuel _ _ _ G' _ w' (hl.trans hl') (hc.put hl' (by rw [List.append_assoc]; exact hs) hd hu) (hr A X' k)
theorem zeh {fr fr' : Fr} (he : ∀ s,fr'.get s = fr.get s) (d : Option Tmp) (A : AV) (s : Nat) : (fr'.put d A).get s = (fr.put d A).get s:=by
 cases d with
 |none=>exact he s
 |some d =>
  by_cases e : s = d
  ·subst e; simp only [Fr.put,qm]
  ·simp only [Fr.put,qf e]; exact he s
theorem zbx {md : Region.Mode} {QE : Fr → List Own → Prop} (hQ : ∀ (fr fr' : Fr) X,(∀ s,fr'.get s = fr.get s) → QE fr X → QE fr' X) : ∀ (fuel : Nat) (listed : Array Bool) (fr fr' : Fr) (X : List Own),(∀ s,fr'.get s = fr.get s) → zaj P T0 N md ops M QE fuel listed fr X → zaj P T0 N md ops M QE fuel listed fr' X
 |0,_,fr,fr',X,he,h=>⟨h.1,hQ fr fr' X he h.2⟩
 |fuel + 1,listed,fr,fr',X,he,h=>by
  refine ⟨fun h0=>hQ fr fr' X he (h.1 h0),fun i hi o ho => ?_⟩
  obtain ⟨hd,⟨A,hy,hr⟩ | ⟨hg,K,hao,hr⟩⟩:=h.2 i hi o ho
  ·exact ⟨hd,.inl ⟨A,hy.other (fun s _=>he s),zbx hQ fuel _ _ _ _ (zeh he _ _) hr⟩⟩
  ·exact ⟨hd,.inr ⟨hg,K,hao.other (fun s _=>he s),fun A X' k=>zbx hQ fuel _ _ _ _ (zeh he _ _) (hr A X' k)⟩⟩
theorem zk3 {md : Region.Mode} {QE : Fr → List Own → Prop} (hQ : ∀ (fr fr' : Fr) X,(∀ s,fr'.get s = fr.get s) → QE fr X → QE fr' X) {i : Nat} {oi : Oper} {A : AV} (hi : ops[i]? = some oi) (hdi : ∀ x,oi.dst = some x → x < N.n) :
  ∀ (fuel : Nat) (listed : Array Bool) (fr : Fr) (X : List Own),
    (∀ j oj,ops[j]? = some oj → j ≠ i → listed.getD j true = false → (∀ e ∈ oj.after,Region.binds md e = true → e.on ≠ i) → oi.apart ops oj = true) →
    i ∈ Region.ready md ops listed → QY P T0 ops oi fr M A →
    zaj P T0 N md ops M QE fuel (listed.setIfInBounds i true) (fr.put oi.dst A) X → zaj P T0 N md ops M QE (fuel + 1) listed fr X:=by
 intro fuel
 induction fuel with
 |zero =>
  intro listed fr X _ hr hy H
  refine ⟨fun h=>(by rw [h] at hr; cases hr),fun j hj o ho => ?_⟩
  by_cases hji : j = i
  ·subst hji; rw [hi] at ho; obtain rfl:=Option.some.inj ho; exact ⟨hdi,.inl ⟨A,hy,H⟩⟩
  ·have:=ready_mono hj hji
   rw [H.1] at this; cases this
 |succ fuel ih =>
  intro listed fr X hfree hr hy H
  refine ⟨fun h=>(by rw [h] at hr; cases hr),fun j hj o ho => ?_⟩
  by_cases hji : j = i
  ·subst hji; rw [hi] at ho; obtain rfl:=Option.some.inj ho; exact ⟨hdi,.inl ⟨A,hy,H⟩⟩
  ·obtain ⟨hjun,oj,hoj,hall⟩:=mem_ready.1 hj
   rw [ho] at hoj; obtain rfl:=Option.some.inj hoj
   have hnot : ∀ e ∈ o.after,Region.binds md e = true → e.on ≠ i:=fun e he hb heq=>by
    have h1:=hall e he hb
    rw [heq] at h1
    exact js hr h1
   obtain ⟨p1,p2,p3⟩:=Oper.apart_spec (hfree j o ho hji hjun hnot)
   have hfree' : ∀ k ok,ops[k]? = some ok → k ≠ i → (listed.setIfInBounds j true).getD k true = false →
     (∀ e ∈ ok.after,Region.binds md e = true → e.on ≠ i) → oi.apart ops ok = true:=fun k ok hk hki hun hno=>by
    refine hfree k ok hk hki ?_ hno
    by_cases hjk : j = k
    ·subst hjk; exact hjun
    ·rw [getD_set_ne true hjk] at hun; exact hun
   have hstep : ∀ A' X',zaj P T0 N md ops M QE fuel ((listed.setIfInBounds i true).setIfInBounds j true) ((fr.put oi.dst A).put o.dst A') X' → zaj P T0 N md ops M QE (fuel + 1) (listed.setIfInBounds j true) (fr.put o.dst A') X':=fun A' X' hr'=>by
    refine ih (listed.setIfInBounds j true) _ X' hfree' (ready_mono hr (Ne.symm hji)) (hy.other fun s hs=>xy fun x hx e=>p3 x hx (e ▸ hs)) ?_
    rw [Array.setIfInBounds_comm _ _ hji]
    exact zbx hQ fuel _ _ _ _ (fun s=>vm (fun x hx e=>p2 x (by rw [← e]) hx |>.elim) s) hr'
   obtain ⟨hd,⟨A',hy',hr'⟩ | ⟨hg,K,hao,hr'⟩⟩:=H.2 j (ready_mono hj hji) o ho
   ·exact ⟨hd,.inl ⟨A',hy'.other (fun s hs=>(xy fun x hx e=>p1 x hx (e ▸ hs)).symm),hstep A' X hr'⟩⟩
   ·exact ⟨hd,.inr ⟨hg,K,hao.other (fun s hs=>(xy fun x hx e=>p1 x hx (e ▸ hs)).symm),fun A' X' k=>hstep A' X' (hr' A' X' k)⟩⟩
def zmu (P : Program) (T0 : Gh) (N : Fz) (ops : Array Oper) (M : List Own) (QE : Fr → List Own → Prop) : List Oper → Fr → List Own → Prop
 |[],fr,X=>QE fr X
 |o :: os,fr,X=>(∀ x,o.dst = some x → x < N.n) ∧
    ((∃ A,QY P T0 ops o fr M A ∧ zmu P T0 N ops M QE os (fr.put o.dst A) X) ∨
     (o.guard = none ∧ ∃ K : AV → List Own → Prop,AO P T0 ops o fr X K (fun _ _=>False) ∧ ∀ A X',K A X' → zmu P T0 N ops M QE os (fr.put o.dst A) X'))
theorem zdl {md : Region.Mode} {QE : Fr → List Own → Prop} : ∀ (ds : List Nat) (os : List Oper) (listed : Array Bool) (fr : Fr) (X : List Own),ds.map (fun d=>ops[d]?) = os.map some → zkx md ops ds listed = true → zmu P T0 N ops M QE os fr X → zaj P T0 N md ops M QE ds.length listed fr X
 |[],[],listed,fr,X,_,hB,h=>⟨by simpa [zkx] using hB,h⟩
 |[],_ :: _,_,_,_,he,_,_=>by simp at he
 |_ :: _,[],_,_,_,he,_,_=>by simp at he
 |d :: ds,o :: os,listed,fr,X,he,hB,h=>by
  simp only [List.map_cons,List.cons.injEq] at he
  simp only [zkx,Bool.and_eq_true] at hB
  obtain ⟨⟨b1,b2⟩,b3⟩:=hB
  have r1 : d ∈ Region.ready md ops listed:=by simpa using b1
  refine ⟨fun h0=>(by rw [h0] at r1; cases r1),fun i hi o' ho' => ?_⟩
  obtain rfl:=Nat.eq_of_beq_eq_true (List.all_eq_true.1 b2 i hi)
  rw [he.1] at ho'; obtain rfl:=Option.some.inj ho'
  obtain ⟨hd,⟨A,hy,hr⟩ | ⟨hg,K,hao,hr⟩⟩:=h
  ·exact ⟨hd,.inl ⟨A,hy,zdl ds os _ _ _ he.2 b3 hr⟩⟩
  ·exact ⟨hd,.inr ⟨hg,K,hao,fun A X' k=>zdl ds os _ _ _ he.2 b3 (hr A X' k)⟩⟩
def z67 (md : Region.Mode) (ops : Array Oper) (ds : List Nat) : Nat → Nat → Array Bool → Bool
 |0,_,listed=>zkx md ops ds listed
 |fuel + 1,k,listed=>(Region.ready md ops listed).contains k && Region.free md ops listed k && z67 md ops ds fuel (k + 1) (listed.setIfInBounds k true)
theorem zh9 {md : Region.Mode} {ds : List Nat} {os : List Oper} {QE : Fr → List Own → Prop} (hQ : ∀ (fr fr' : Fr) X,(∀ s,fr'.get s = fr.get s) → QE fr X → QE fr' X) (hos : ds.map (fun d=>ops[d]?) = os.map some) : ∀ (l : List Oper) (k : Nat) (listed : Array Bool) (fr : Fr),(∀ j,j < l.length → l[j]? = ops[k + j]?) →
  z67 md ops ds l.length k listed = true → AQ P T0 N ops (fun fr'=>zmu P T0 N ops M QE os fr' []) M l fr → zaj P T0 N md ops M QE (l.length + ds.length) listed fr []
 |[],k,listed,fr,_,hB,h=>by
  rw [List.length_nil,Nat.zero_add]
  exact zdl ds os listed fr [] hos hB h
 |o :: l,k,listed,fr,hl,hB,h=>by
  have h0 : ops[k]? = some o:=by simpa using (hl 0 (by simp)).symm
  have hl' : ∀ j,j < l.length → l[j]? = ops[k + 1 + j]?:=fun j hj=>by have:=hl (j + 1) (by simp; omega); simpa [Nat.add_assoc,Nat.add_comm 1 j] using this
  simp only [List.length_cons,z67,Bool.and_eq_true] at hB
  obtain ⟨⟨hr,hf⟩,hB'⟩:=hB
  have hr' : k ∈ Region.ready md ops listed:=by simpa using hr
  obtain ⟨hd,A,hy,hr2⟩:=h
  rw [List.length_cons,show l.length + 1 + ds.length = (l.length + ds.length) + 1 by omega]
  exact zk3 hQ h0 hd _ listed fr [] (Region.free_spec h0 hf) hr' hy (zh9 hQ hos l (k + 1) _ _ hl' hB' hr2)
def z54 (P : Program) (T0 : Gh) (N : Fz) (ops : Array Oper) (M : List Own) (QE : Fr → List Own → Prop) (os : List Oper) : ko:=fun e fr' _=>e = .normal ∧ zmu P T0 N ops M QE os fr' []
theorem zru {QE : Fr → List Own → Prop} {os : List Oper} {fr' : Fr} {M' : List Own} (h : zmu P T0 N ops M QE os fr' []) : z54 P T0 N ops M QE os .normal fr' M':=⟨rfl,h⟩
theorem xf {id : Nat} {l os : List Oper} (n : Nat) (hs : l.drop n = os) (hB : z67 .any l.toArray (zb4 (l.length - n) n) n 0 (List.replicate l.length false).toArray = true) (hn : Nat.ble n l.length = true) (hg : ((l.take n).all fun o=>o.guard.isNone) = true) (hm : P.follows .mixedOrders = true)
  (h : AL P T0 N true vb (z54 P T0 N l.toArray M (fun fr' X=>Q .normal fr' (X ++ M)) os) (l.take n) fr M) : AW P T0 N (.region id l.toArray true) Q fr M:=fun w0 G F a w hc=>by
 have h' : AQ2 P T0 N vb (fun fr'=>z54 P T0 N l.toArray M (fun fr' X=>Q .normal fr' (X ++ M)) os .normal fr' M) (fun o fr'=>zb2 .any vb = true ∧ AE P T0 N vb (z54 P T0 N l.toArray M (fun fr' X=>Q .normal fr' (X ++ M)) os) [o] fr' M) M (l.take n) fr:=by simpa [AL] using h
 rcases v6 _ _ h' with h1 | h1
 case inr=>obtain ⟨_,_,_,hlast,_⟩:=yp _ _ h1; rw [uu] at hlast; cases hlast
 have hnl : n ≤ l.length:=Nat.le_of_ble_eq_true hn
 have hlen : l.length = n + os.length:=by
  have:=congrArg List.length hs
  simp only [List.length_drop] at this; omega
 have hgd : ∀ j,l[n + j]? = os[j]?:=fun j=>by rw [← hs,List.getElem?_drop]
 have hos : (zb4 os.length n).map (fun d=>l.toArray[d]?) = os.map some:=zcz l os n fun j _=>hgd j
 rw [show l.length - n = os.length by omega] at hB
 have htl : (l.take n).length = n:=by rw [List.length_take]; omega
 have hQE : ∀ (fr fr' : Fr) (X : List Own),(∀ s,fr'.get s = fr.get s) → (∃ fr1,(∀ s,Fr.get fr s = Fr.get fr1 s) ∧ Q .normal fr1 (X ++ M)) → (∃ fr1,(∀ s,Fr.get fr' s = Fr.get fr1 s) ∧ Q .normal fr1 (X ++ M)):=fun fr fr' X he ⟨fr1,h1,h2⟩=>⟨fr1,fun s=>(he s).trans (h1 s),h2⟩
 have hup : ∀ (os : List Oper) (fr : Fr) (X : List Own),zmu P T0 N l.toArray M (fun fr' X=>Q .normal fr' (X ++ M)) os fr X → zmu P T0 N l.toArray M (fun fr' X => ∃ fr1,(∀ s,Fr.get fr' s = Fr.get fr1 s) ∧ Q .normal fr1 (X ++ M)) os fr X:=by
  intro os
  induction os with
  |nil=>intro fr X h; exact ⟨fr,fun _=>rfl,h⟩
  |cons o os ih =>
   rintro fr X ⟨hd,⟨A,hy,hr⟩ | ⟨hg,K,hao,hr⟩⟩
   ·exact ⟨hd,.inl ⟨A,hy,ih _ _ hr⟩⟩
   ·exact ⟨hd,.inr ⟨hg,K,hao,fun A X' k=>ih _ _ (hr A X' k)⟩⟩
 have hmono : ∀ (l' : List Oper) (fr : Fr),AQ P T0 N l.toArray (fun fr'=>z54 P T0 N l.toArray M (fun fr' X=>Q .normal fr' (X ++ M)) os .normal fr' M) M l' fr → AQ P T0 N l.toArray (fun fr'=>zmu P T0 N l.toArray M (fun fr' X => ∃ fr1,(∀ s,Fr.get fr' s = Fr.get fr1 s) ∧ Q .normal fr1 (X ++ M)) os fr' []) M l' fr:=by
  intro l'
  induction l' with
  |nil=>intro fr h; exact hup os fr [] h.2
  |cons o l' ih=>rintro fr ⟨hd,A,hy,hr⟩; exact ⟨hd,A,hy,ih _ hr⟩
 have h2:=hmono _ _ (zdd (ops:=l.toArray) _ _ hg h1)
 have h3:=zh9 (md:=.any) hQE hos (l.take n) 0 (List.replicate l.length false).toArray fr (fun j hj=>by rw [htl] at hj; simp [List.getElem?_take,hj]) (by rw [htl]; exact hB) h2
 rw [htl,zcy,← hlen] at h3
 refine wp_region_any hm ?_
 have es : Array.replicate l.toArray.size false = (List.replicate l.length false).toArray:=by simp
 rw [es]
 refine za3 (G0:=G) (F:=F) (w0:=w0) ?_ _ _ fr [] G _ _ (Gh.le.refl _) ⟨hc.st.drew,hc.fr,hc.size,hc.defers⟩ (by simpa using h3)
 rintro fr' X G' a' w' hl' ⟨fr1,he,hq⟩ hc'
 exact ⟨fr1,X ++ M,G',hq,hl',hc'.st,fun s A hs e=>hc'.fr s A hs (by rw [he s]; exact e),hc'.size,hc'.defers⟩
variable {QE : Fr → List Own → Prop} {X : List Own} {o : Oper} {os : List Oper} {x0 : Nat}
theorem zam (h : QE fr X) : zmu P T0 N ops M QE [] fr X:=h
theorem qw {e : TypeId} {zs : List Value} {z : Value} {Z : List AV} (hg : o.guard = none) (hd : o.dst = some x0) (hN : Nat.blt x0 N.n = true) (ho : o.op = .alloc e) (hz : (P.info? e).map (·.zero) = some (some z) ∧ z.cells.toList = zs ∧ Z = zs.map vA) (h : ∀ b,zmu P T0 N ops M QE os ((x0,vA (.pointer (some ⟨b,0,none⟩))) :: fr) (qh b e Z :: X)) : zmu P T0 N ops M QE (o :: os) fr X:=by
 obtain ⟨h1,h2,rfl⟩:=hz
 refine ⟨fun x hx => ?_,.inr ⟨hg,_,zqd ho h1 h2, ?_⟩⟩
 ·rw [hd] at hx; obtain rfl:=Option.some.inj hx; exact Nat.lt_of_succ_le (Nat.le_of_ble_eq_true hN)
 ·rintro _ _ ⟨b,rfl,rfl⟩
  rw [hd]; exact h b
theorem qv {t e : TypeId} {x y : Operand} {b off n : Nat} {cells cells' l : List AV} {A : AV} {f : Own → List Own} (hg : o.guard = none) (hd : o.dst = none) (ho : o.op = .store t x y) (hz : ∀ w,(sizeOf t).run P w = .ok n w) (hx : Opd T0 fr x (vA (.pointer (some ⟨b,off,none⟩)))) (hy : Opd T0 fr y A) (hc : kg A l) (hl : l.length = n) (h1 : OnesA l) (hU : UpdF (qh b e cells) X f) (hs : SetC cells off l cells')
  (h : zmu P T0 N ops M QE os fr (f (qh b e cells'))) : zmu P T0 N ops M QE (o :: os) fr X:=by
 obtain ⟨i,k1,k2⟩:=hU.spec
 obtain ⟨k3,k4⟩:=hs.spec
 subst hl; subst k4
 refine ⟨fun x hx=>(by rw [hd] at hx; cases hx),.inr ⟨hg,_,zeu i ho hz k1 hx hy hc h1 k3, ?_⟩⟩
 rintro _ _ rfl
 rw [hd,← k2]; exact h
theorem zew {A : AV} (hg : o.guard = none) (hd : o.dst = some x0) (hN : Nat.blt x0 N.n = true) (hy : AY P T0 ops o fr M A) (h : zmu P T0 N ops M QE os ((x0,A) :: fr) X) : zmu P T0 N ops M QE (o :: os) fr X:=by
 refine ⟨fun x hx => ?_,.inl ⟨A,zov hg hy,by rw [hd]; exact h⟩⟩
 rw [hd] at hx; obtain rfl:=Option.some.inj hx; exact Nat.lt_of_succ_le (Nat.le_of_ble_eq_true hN)
end
end
end Go.Proofs.YtgfmjmfphmjdkaaGreatDoor
