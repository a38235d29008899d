/- The logic's rules, told so that each operation has one rule, and what it rests on is found by its shape. No condition. -/
import Derived.Test.YtplabpjkkcillaaDoorA7
namespace Go.Proofs.YtplabpjkkcillaaDoor
set_option linter.unusedSimpArgs false
set_option linter.unusedVariables false
set_option linter.unusedSectionVars false
set_option maxHeartbeats 4000000
open Go Go.RowKit

section
variable {P : Program} {T0 : Gh} {N : Fz} {Q : Post} {fr : Fr} {M : List Own} {ops : Array Oper} {o : Oper}

/-- an operand that is a natural -/
def OpdN (T0 : Gh) (fr : Fr) (x : Operand) (k : IntKind) (n : Nat) : Prop := Opd T0 fr x (vA (.int k (n : Int)))
theorem ogn {x : Operand} {c : Bool} {k : IntKind} {n : Nat} (h : fr.opd x = some (gvA c (vA (.int k (n : Int))))) (hc : c = true) : OpdN T0 fr x k n := og h hc
theorem odln {x : Operand} {k : IntKind} {n : Nat} {A : AV} (h : fr.opd x = some A) (e : A = vA (.int k (OfNat.ofNat n))) : OpdN T0 fr x k (OfNat.ofNat n) := odl h e
theorem odn {x : Operand} {k : IntKind} {n : Nat} (h : fr.opd x = some (vA (.int k (n : Int)))) : OpdN T0 fr x k n := od h
theorem opd_n {x : Operand} {k : IntKind} {n : Nat} (h : OpdN T0 fr x k n) : Opd T0 fr x (vA (.int k (n : Int))) := h

/-! ### naturals -/
theorem kn_add {t t' : TypeId} {x y : Operand} {k : IntKind} {a b : Nat} (ho : o.op = .binOp .add t x y t') (hx : OpdN T0 fr x k a) (hy : OpdN T0 fr y k b) (hf : Fit k ((a + b : Nat) : Int)) : AY P T0 ops o fr M (vA (.int k ((a + b : Nat) : Int))) := ay_addn ho hx hy hf
theorem kn_mul {t t' : TypeId} {x y : Operand} {k : IntKind} {a b : Nat} (ho : o.op = .binOp .mul t x y t') (hx : OpdN T0 fr x k a) (hy : OpdN T0 fr y k b) (hf : Fit k ((a * b : Nat) : Int)) : AY P T0 ops o fr M (vA (.int k ((a * b : Nat) : Int))) := ay_muln ho hx hy hf
theorem kn_sub {t t' : TypeId} {x y : Operand} {k : IntKind} {a b : Nat} (ho : o.op = .binOp .sub t x y t') (hx : OpdN T0 fr x k a) (hy : OpdN T0 fr y k b) (hb : b ≤ a) (hf : Fit k ((a - b : Nat) : Int)) : AY P T0 ops o fr M (vA (.int k ((a - b : Nat) : Int))) := ay_subn ho hx hy hb hf
theorem kn_quo {t t' : TypeId} {x y : Operand} {k : IntKind} {a b : Nat} (ho : o.op = .binOp .quo t x y t') (hx : OpdN T0 fr x k a) (hy : OpdN T0 fr y k b) (hb : 0 < b) (hf : Fit k ((a / b : Nat) : Int)) : AY P T0 ops o fr M (vA (.int k ((a / b : Nat) : Int))) := ay_quon ho hx hy hb hf
theorem kn_rem {t t' : TypeId} {x y : Operand} {k : IntKind} {a b : Nat} (ho : o.op = .binOp .rem t x y t') (hx : OpdN T0 fr x k a) (hy : OpdN T0 fr y k b) (hb : 0 < b) : AY P T0 ops o fr M (vA (.int k ((a % b : Nat) : Int))) := ay_remn ho hx hy hb

/-! ### are two values the same? -/
def EqK (P : Program) (t : TypeId) (A A' : AV) (b : Bool) : Prop := ∀ (T0 : Gh) (fr : Fr) (M : List Own) (ops : Array Oper) (o : Oper) (x y : Operand) (t' : TypeId), Opd T0 fr x A → Opd T0 fr y A' →
  (o.op = .binOp .eql t x y t' → AY P T0 ops o fr M (B b)) ∧ (o.op = .binOp .neq t x y t' → AY P T0 ops o fr M (B (!b)))
theorem k_eql {t t' : TypeId} {x y : Operand} {A A' : AV} {b : Bool} (ho : o.op = .binOp .eql t x y t') (hx : Opd T0 fr x A) (hy : Opd T0 fr y A') (hk : EqK P t A A' b) : AY P T0 ops o fr M (B b) := (hk T0 fr M ops o x y t' hx hy).1 ho
theorem k_neq {t t' : TypeId} {x y : Operand} {A A' : AV} {b : Bool} (ho : o.op = .binOp .neq t x y t') (hx : Opd T0 fr x A) (hy : Opd T0 fr y A') (hk : EqK P t A A' b) : AY P T0 ops o fr M (B (!b)) := (hk T0 fr M ops o x y t' hx hy).2 ho
theorem ek_int {t : TypeId} {k : IntKind} {a b : Int} : EqK P t (vA (.int k a)) (vA (.int k b)) (decide (a = b)) := fun _ _ _ _ _ _ _ _ hx hy => ⟨fun ho => ay_eql ho hx hy, fun ho => ay_neq ho hx hy⟩
theorem ek_bool {t : TypeId} {a b : Bool} (hu : P.underlying t = some .bool) : EqK P t (B a) (B b) (a == b) := fun _ _ _ _ _ _ _ _ hx hy => ⟨fun ho => ay_eqlb ho hu hx hy, fun ho => ay_neqb ho hu hx hy⟩

/-! ### len, index, load, field -/
def LnK (P : Program) (T0 : Gh) (M : List Own) (t : TypeId) (A R : AV) : Prop := ∀ (fr : Fr) (ops : Array Oper) (o : Oper) (x : Operand) (ts : Array TypeId), o.op = .call { callee := .builtin .len, args := #[x], argTypes := ts } → ts[0]? = some t → Opd T0 fr x A → AY P T0 ops o fr M R
theorem k_len {x : Operand} {t : TypeId} {A R : AV} (ho : o.op = .call { callee := .builtin .len, args := #[x], argTypes := #[t] }) (hx : Opd T0 fr x A) (hk : LnK P T0 M t A R) : AY P T0 ops o fr M R := hk fr ops o x _ ho rfl hx
theorem nk_sl {α : Type} {T : Ty α} {t e : TypeId} {l : List α} (hu : P.underlying t = some (.slice e)) : LnK P T0 M t (slA T l) (I l.length) := fun _ _ _ _ _ ho ht hx => ay_len ho ht hu hx
theorem nk_slc {α : Type} {T : Ty α} {t e : TypeId} {l : List α} (hu : P.underlying t = some (.slice e)) : LnK P T0 M t (slcA T l) (I l.length) := fun _ _ _ _ _ ho ht hx => ay_len ho ht hu (hx.imp sub_slc)
theorem nk_row {α : Type} {T : Ty α} {t e e' : TypeId} {l : List α} {u : Value} (i : Nat) (hu : P.underlying t = some (.slice e')) (hM : M[i]? = some (rowO T e u l)) : LnK P T0 M t (vA u) (I l.length) := fun _ _ _ _ _ ho ht hx => ay_len_row i ho ht hu hx hM
def IxK (P : Program) (T0 : Gh) (M : List Own) (t : TypeId) (A : AV) (n : Nat) (R : AV) : Prop := ∀ (fr : Fr) (ops : Array Oper) (o : Oper) (x y : Operand) (k : IntKind), o.op = .indexAddr t x y → Opd T0 fr x A → OpdN T0 fr y k n → AY P T0 ops o fr M R
theorem k_ix {x y : Operand} {t : TypeId} {A R : AV} {k : IntKind} {n : Nat} (ho : o.op = .indexAddr t x y) (hx : Opd T0 fr x A) (hy : OpdN T0 fr y k n) (hk : IxK P T0 M t A n R) : AY P T0 ops o fr M R := hk fr ops o x y k ho hx hy
theorem ik_sl {α : Type} {T : Ty α} {t e : TypeId} {l : List α} {d z : α} {by' n : Nat} {av : α → AV} (hu : P.underlying t = some (.slice e)) (he : El P T e d by' av) (hn : l[n]? = some z) : IxK P T0 M t (slA T l) n (ipA (T.enc z)) := fun _ _ _ _ _ _ ho hx hy => ay_indexAddr ho hu he hx hy hn
theorem ik_slc {α : Type} {T : Ty α} {t e : TypeId} {l : List α} {d z : α} {by' n : Nat} {av : α → AV} (hu : P.underlying t = some (.slice e)) (he : El P T e d by' av) (hn : l[n]? = some z) : IxK P T0 M t (slcA T l) n (ipA (T.enc z)) := fun _ _ _ _ _ _ ho hx hy => ay_indexAddr ho hu he (hx.imp sub_slc) hy hn
theorem ik_row {α : Type} {T : Ty α} {t e : TypeId} {l : List α} {d : α} {by' n : Nat} {av : α → AV} {u : Value} (i : Nat) (hu : P.underlying t = some (.slice e)) (he : El P T e d by' av) (hM : M[i]? = some (rowO T e u l)) (hn : n < l.length) : IxK P T0 M t (vA u) n (rpA u (n * T.k)) := fun _ _ _ _ _ _ ho hx hy => ay_index_row i ho hu he hx hM hy hn
theorem ik_arr {t e : TypeId} {n m k' : Nat} {cs : List Value} (hu : P.underlying t = some (.array n e)) (hz : ∀ w, (sizeOf e).run P w = .ok k' w) (hm : m < n) : IxK P T0 M t (ipA cs) m (ipA (cs.drop (m * k'))) := fun _ _ _ _ _ _ ho hx hy => ay_indexAddr_arr ho hu hz hx hy hm
def LdK (P : Program) (T0 : Gh) (M : List Own) (t : TypeId) (A R : AV) : Prop := ∀ (fr : Fr) (ops : Array Oper) (o : Oper) (x : Operand), o.op = .load t x → Opd T0 fr x A → AY P T0 ops o fr M R
theorem k_ld {x : Operand} {t : TypeId} {A R : AV} (ho : o.op = .load t x) (hx : Opd T0 fr x A) (hk : LdK P T0 M t A R) : AY P T0 ops o fr M R := hk fr ops o x ho hx
theorem lk_el {α : Type} {T : Ty α} {e : TypeId} {d z : α} {by' : Nat} {av : α → AV} (he : El P T e d by' av) : LdK P T0 M e (ipA (T.enc z)) (av z) := fun _ _ _ _ ho hx => ay_load_el ho he hx
theorem lk_1 {t : TypeId} {v : Value} {r : List Value} (ha : ∀ w, (isAgg t).run P w = .ok false w) : LdK P T0 M t (ipA (v :: r)) (vA v) := fun _ _ _ _ ho hx => ay_load1 ho ha hx
theorem lk_1' {t : TypeId} {v : Value} {cs : List Value} (ha : ∀ w, (isAgg t).run P w = .ok false w) (hv : cs[0]? = some v) : LdK P T0 M t (ipA cs) (vA v) := fun _ _ _ _ ho hx => ay_load1' ho ha hx hv
theorem lk_v1 {t e : TypeId} {b off : Nat} {cells : List AV} {A : AV} (i : Nat) (ha : ∀ w, (isAgg t).run P w = .ok false w) (hM : M[i]? = some (varO b e cells)) (hA : cells[off]? = some A) : LdK P T0 M t (vA (.pointer (some ⟨b, off, none⟩))) A := fun _ _ _ _ ho hx => ay_load_var1 i ho ha hM hx hA
theorem lk_vn {t e : TypeId} {b off n : Nat} {cells : List AV} (i : Nat) (ha : ∀ w, (isAgg t).run P w = .ok true w) (hz : ∀ w, (sizeOf t).run P w = .ok n w) (hM : M[i]? = some (varO b e cells)) (hn : Nat.ble (off + n) cells.length = true) : LdK P T0 M t (vA (.pointer (some ⟨b, off, none⟩))) (aggA ((cells.drop off).take n)) := fun _ _ _ _ ho hx => ay_load_varn i ho ha hz hM hx (Nat.le_of_ble_eq_true hn)
theorem lk_r {α : Type} {T : Ty α} {e : TypeId} {l : List α} {d z : α} {by' : Nat} {av : α → AV} {n : Nat} {u : Value} (i : Nat) (he : El P T e d by' av) (hM : M[i]? = some (rowO T e u l)) (hz : l[n]? = some z) : LdK P T0 M e (rpA u (n * T.k)) (av z) := fun _ _ _ _ ho hx => ay_load_row i ho he hM hx hz
/-- a field of an element of a row -/
theorem row_part {α : Type} (T : Ty α) {l : List α} {n off : Nat} {z : α} {v : Value} (hz : l[n]? = some z) (hv : (T.enc z)[off]? = some v) : (l.flatMap T.enc)[n * T.k + off]? = some v := by
  have hj : off < T.k := by rw [← T.len z]; exact (List.getElem?_eq_some_iff.1 hv).1
  rw [getElem?_flatMap T l n off z hz hj]; exact hv
theorem lk_r1 {α : Type} {T : Ty α} {t e : TypeId} {l : List α} {off n : Nat} {z : α} {u v : Value} (i : Nat) (ha : ∀ w, (isAgg t).run P w = .ok false w) (hM : M[i]? = some (rowO T e u l)) (hz : l[n]? = some z) (hv : (T.enc z)[off]? = some v) : LdK P T0 M t (rpA u (n * T.k + off)) (vA v) := fun _ _ _ _ ho hx => ay_load_row1 i ho ha hM hx (row_part T hz hv)
def FaK (P : Program) (T0 : Gh) (M : List Own) (t : TypeId) (i : Nat) (A R : AV) : Prop := ∀ (fr : Fr) (ops : Array Oper) (o : Oper) (x : Operand), o.op = .fieldAddr t x i → Opd T0 fr x A → AY P T0 ops o fr M R
theorem k_fa {x : Operand} {t : TypeId} {i : Nat} {A R : AV} (ho : o.op = .fieldAddr t x i) (hx : Opd T0 fr x A) (hk : FaK P T0 M t i A R) : AY P T0 ops o fr M R := hk fr ops o x ho hx
theorem ak_ip {t : TypeId} {i off : Nat} {ft : TypeId} {cs : List Value} (hu : Fld P t i off ft) (hsz : ∀ w, ∃ n, (sizeOf ft).run P w = .ok (n + 1) w) : FaK P T0 M t i (ipA cs) (ipA (cs.drop off)) := fun _ _ _ _ ho hx => ay_fieldAddr ho hu hsz hx
theorem ak_var {t : TypeId} {i off b of2 : Nat} {ft : TypeId} (hu : Fld P t i off ft) (hsz : ∀ w, ∃ n, (sizeOf ft).run P w = .ok (n + 1) w) : FaK P T0 M t i (vA (.pointer (some ⟨b, of2, none⟩))) (vA (.pointer (some ⟨b, of2 + off, none⟩))) := fun _ _ _ _ ho hx => ay_field_var ho hu hsz hx
theorem ak_row {t : TypeId} {i off of2 : Nat} {ft : TypeId} {u : Value} (hu : Fld P t i off ft) (hsz : ∀ w, ∃ n, (sizeOf ft).run P w = .ok (n + 1) w) : FaK P T0 M t i (rpA u of2) (rpA u (of2 + off)) := fun _ _ _ _ ho hx => ay_field_row ho hu hsz hx
def FdK (P : Program) (T0 : Gh) (M : List Own) (t : TypeId) (i : Nat) (l : List AV) (R : AV) : Prop := ∀ (fr : Fr) (ops : Array Oper) (o : Oper) (x : Operand), o.op = .field t x i → Opd T0 fr x (aggA l) → AY P T0 ops o fr M R
theorem k_fd {x : Operand} {t : TypeId} {i : Nat} {l : List AV} {R : AV} (ho : o.op = .field t x i) (hx : Opd T0 fr x (aggA l)) (hk : FdK P T0 M t i l R) : AY P T0 ops o fr M R := hk fr ops o x ho hx
theorem dk_1 {t : TypeId} {i off : Nat} {l : List AV} {A : AV} {ft : TypeId} (hu : Fld P t i off ft) (ha : ∀ w, (isAgg ft).run P w = .ok false w) (hA : l[off]? = some A) : FdK P T0 M t i l A := fun _ _ _ _ ho hx => ay_field1 ho hx hu ha hA
theorem dk_n {t : TypeId} {i off sz : Nat} {l : List AV} {ft : TypeId} (hu : Fld P t i off ft) (ha : ∀ w, (isAgg ft).run P w = .ok true w) (hsize : ∀ w, (sizeOf ft).run P w = .ok sz w) : FdK P T0 M t i l (aggA ((l.take (off + sz)).drop off)) := fun _ _ _ _ ho hx => ay_fieldn ho hx hu ha hsize

/-! ### a struct is built -/
inductive SetC : List AV → Nat → List AV → List AV → Prop
  | nil {s : List AV} : SetC s 0 [] s
  | here {a b : AV} {s l r : List AV} (h : SetC s 0 l r) : SetC (a :: s) 0 (b :: l) (b :: r)
  | next {a : AV} {s l r : List AV} {n : Nat} (h : SetC s n l r) : SetC (a :: s) (n + 1) l (a :: r)
theorem SetC.spec {s l r : List AV} {n : Nat} (h : SetC s n l r) : n + l.length ≤ s.length ∧ r = setC s n l := by
  induction h with
  | nil => simp [setC]
  | here h ih => obtain ⟨h1, h2⟩ := ih; refine ⟨by simp only [List.length_cons]; omega, ?_⟩; rw [h2]; simp [setC]
  | next h ih => obtain ⟨h1, h2⟩ := ih
                 refine ⟨by simp only [List.length_cons]; omega, ?_⟩
                 have e : ∀ a b : Nat, a + 1 + b = (a + b) + 1 := fun a b => by omega
                 rw [h2]; simp only [setC, List.take_succ_cons, List.cons_append, e, List.drop_succ_cons]
theorem sc_0 {s : List AV} : SetC s 0 [] s := .nil
theorem pk {pl : List (Nat × Nat)} {i : Nat} {x : Operand} {r : List (Nat × Operand)} {acc acc' res l : List AV} {A : AV} {off : Nat} (hx : Opd T0 fr x A) (hc : CellsA A l) (hp : pl[i]? = some (off, l.length)) (hs : SetC acc off l acc') (h : PartsA T0 fr pl r acc' res) : PartsA T0 fr pl ((i, x) :: r) acc res := by
  obtain ⟨h1, h2⟩ := hs.spec
  subst h2
  exact ⟨A, l, off, hx, hc, hp, h1, h⟩
/-! ### slices are cut -/
theorem lo_k {x : Operand} {n : Nat} {k : IntKind} (h : OpdN T0 fr x k n) : loOf (some x) n T0 fr := ⟨k, h⟩
theorem hi_k {x : Operand} {n len : Nat} {k : IntKind} (h : OpdN T0 fr x k n) : hiOf (some x) n len T0 fr := ⟨k, h⟩
end
end Go.Proofs.YtplabpjkkcillaaDoor
