/- Several texts in one: see the comment ahead of each. No condition. -/
import Derived.Test.YtgfmjmfphmjdkaaDoorR2ZA
import Derived.Laws.CopyRow
import Derived.Lib.MinMax
import Derived.Lib.DecodeN
import Derived.Test.YtgfmjmfphmjdkaaDoorProg
import Derived.Laws.Runes
import Derived.Laws.BytesString
import Derived.Scope
import Derived.MapKept
import Derived.WalkSmall
/- The logic's rules, told so that each operation has one rule, and what it rests on is found by its shape. No condition. -/
namespace Go.Proofs.YtgfmjmfphmjdkaaDoor
set_option linter.unusedSimpArgs false
set_option linter.unusedVariables false
set_option linter.unusedSectionVars false
set_option maxHeartbeats 4000000
section
open Go Go.RowKit
section
variable {P : Program} {T0 : Gh} {N : Fz} {Q : Post} {fr : Fr} {M : List Own} {ops : Array Oper} {o : Oper}
/-- an operand that is a natural -/
def OpdN (T0 : Gh) (fr : Fr) (x : Operand) (k : IntKind) (n : Nat) : Prop := Opd T0 fr x (vA (.int k (n : Int)))
theorem ogn {x : Operand} {c : Bool} {k : IntKind} {n : Nat} (h : fr.opd x = some (gvA c (vA (.int k (n : Int))))) (hc : c = true) : OpdN T0 fr x k n := og h hc
theorem odln {x : Operand} {k : IntKind} {n : Nat} {A : AV} (h : fr.opd x = some A) (e : A = vA (.int k (OfNat.ofNat n))) : OpdN T0 fr x k (OfNat.ofNat n) := odl h e
theorem odn {x : Operand} {k : IntKind} {n : Nat} (h : fr.opd x = some (vA (.int k (n : Int)))) : OpdN T0 fr x k n := od h
/-! ### naturals -/
theorem kn_add {t t' : TypeId} {x y : Operand} {k : IntKind} {a b : Nat} (ho : o.op = .binOp .add t x y t') (hx : OpdN T0 fr x k a) (hy : OpdN T0 fr y k b) (hf : Fit k ((a + b : Nat) : Int)) : AY P T0 ops o fr M (vA (.int k ((a + b : Nat) : Int))) := ay_addn ho hx hy hf
theorem kn_mul {t t' : TypeId} {x y : Operand} {k : IntKind} {a b : Nat} (ho : o.op = .binOp .mul t x y t') (hx : OpdN T0 fr x k a) (hy : OpdN T0 fr y k b) (hf : Fit k ((a * b : Nat) : Int)) : AY P T0 ops o fr M (vA (.int k ((a * b : Nat) : Int))) := ay_muln ho hx hy hf
theorem kn_sub {t t' : TypeId} {x y : Operand} {k : IntKind} {a b : Nat} (ho : o.op = .binOp .sub t x y t') (hx : OpdN T0 fr x k a) (hy : OpdN T0 fr y k b) (hb : b ≤ a) (hf : Fit k ((a - b : Nat) : Int)) : AY P T0 ops o fr M (vA (.int k ((a - b : Nat) : Int))) := ay_subn ho hx hy hb hf
theorem kn_quo {t t' : TypeId} {x y : Operand} {k : IntKind} {a b : Nat} (ho : o.op = .binOp .quo t x y t') (hx : OpdN T0 fr x k a) (hy : OpdN T0 fr y k b) (hb : 0 < b) (hf : Fit k ((a / b : Nat) : Int)) : AY P T0 ops o fr M (vA (.int k ((a / b : Nat) : Int))) := ay_quon ho hx hy hb hf
theorem kn_rem {t t' : TypeId} {x y : Operand} {k : IntKind} {a b : Nat} (ho : o.op = .binOp .rem t x y t') (hx : OpdN T0 fr x k a) (hy : OpdN T0 fr y k b) (hb : 0 < b) : AY P T0 ops o fr M (vA (.int k ((a % b : Nat) : Int))) := ay_remn ho hx hy hb
/-! ### are two values the same? -/
def EqK (P : Program) (t : TypeId) (A A' : AV) (b : Bool) : Prop := ∀ (T0 : Gh) (fr : Fr) (M : List Own) (ops : Array Oper) (o : Oper) (x y : Operand) (t' : TypeId), Opd T0 fr x A → Opd T0 fr y A' →
  (o.op = .binOp .eql t x y t' → AY P T0 ops o fr M (B b)) ∧ (o.op = .binOp .neq t x y t' → AY P T0 ops o fr M (B (!b)))
theorem k_eql {t t' : TypeId} {x y : Operand} {A A' : AV} {b : Bool} (ho : o.op = .binOp .eql t x y t') (hx : Opd T0 fr x A) (hy : Opd T0 fr y A') (hk : EqK P t A A' b) : AY P T0 ops o fr M (B b) := (hk T0 fr M ops o x y t' hx hy).1 ho
theorem k_neq {t t' : TypeId} {x y : Operand} {A A' : AV} {b : Bool} (ho : o.op = .binOp .neq t x y t') (hx : Opd T0 fr x A) (hy : Opd T0 fr y A') (hk : EqK P t A A' b) : AY P T0 ops o fr M (B (!b)) := (hk T0 fr M ops o x y t' hx hy).2 ho
theorem ek_int {t : TypeId} {k : IntKind} {a b : Int} : EqK P t (vA (.int k a)) (vA (.int k b)) (decide (a = b)) := fun _ _ _ _ _ _ _ _ hx hy => ⟨fun ho => ay_eql ho hx hy, fun ho => ay_neq ho hx hy⟩
theorem ek_bool {t : TypeId} {a b : Bool} (hu : P.underlying t = some .bool) : EqK P t (B a) (B b) (a == b) := fun _ _ _ _ _ _ _ _ hx hy => ⟨fun ho => ay_eqlb ho hu hx hy, fun ho => ay_neqb ho hu hx hy⟩
/-! ### len, index, load, field -/
def LnK (P : Program) (T0 : Gh) (M : List Own) (t : TypeId) (A R : AV) : Prop := ∀ (fr : Fr) (ops : Array Oper) (o : Oper) (x : Operand) (ts : Array TypeId), o.op = .call { callee := .builtin .len, args := #[x], argTypes := ts } → ts[0]? = some t → Opd T0 fr x A → AY P T0 ops o fr M R
theorem k_len {x : Operand} {t : TypeId} {A R : AV} (ho : o.op = .call { callee := .builtin .len, args := #[x], argTypes := #[t] }) (hx : Opd T0 fr x A) (hk : LnK P T0 M t A R) : AY P T0 ops o fr M R := hk fr ops o x _ ho rfl hx
theorem nk_sl {α : Type} {T : Ty α} {t e : TypeId} {l : List α} (hu : P.underlying t = some (.slice e)) : LnK P T0 M t (slA T l) (I l.length) := fun _ _ _ _ _ ho ht hx => ay_len ho ht hu hx
theorem nk_row {α : Type} {T : Ty α} {t e e' : TypeId} {l : List α} {u : Value} (i : Nat) (hu : P.underlying t = some (.slice e')) (hM : M[i]? = some (rowO T e u l)) : LnK P T0 M t (vA u) (I l.length) := fun _ _ _ _ _ ho ht hx => ay_len_row i ho ht hu hx hM
def IxK (P : Program) (T0 : Gh) (M : List Own) (t : TypeId) (A : AV) (n : Nat) (R : AV) : Prop := ∀ (fr : Fr) (ops : Array Oper) (o : Oper) (x y : Operand) (k : IntKind), o.op = .indexAddr t x y → Opd T0 fr x A → OpdN T0 fr y k n → AY P T0 ops o fr M R
theorem k_ix {x y : Operand} {t : TypeId} {A R : AV} {k : IntKind} {n : Nat} (ho : o.op = .indexAddr t x y) (hx : Opd T0 fr x A) (hy : OpdN T0 fr y k n) (hk : IxK P T0 M t A n R) : AY P T0 ops o fr M R := hk fr ops o x y k ho hx hy
theorem ik_sl {α : Type} {T : Ty α} {t e : TypeId} {l : List α} {d z : α} {by' n : Nat} {av : α → AV} (hu : P.underlying t = some (.slice e)) (he : El P T e d by' av) (hn : l[n]? = some z) : IxK P T0 M t (slA T l) n (ipA (T.enc z)) := fun _ _ _ _ _ _ ho hx hy => ay_indexAddr ho hu he hx hy hn
theorem ik_row {α : Type} {T : Ty α} {t e : TypeId} {l : List α} {d : α} {by' n : Nat} {av : α → AV} {u : Value} (i : Nat) (hu : P.underlying t = some (.slice e)) (he : El P T e d by' av) (hM : M[i]? = some (rowO T e u l)) (hn : n < l.length) : IxK P T0 M t (vA u) n (rpA u (n * T.k)) := fun _ _ _ _ _ _ ho hx hy => ay_index_row i ho hu he hx hM hy hn
def LdK (P : Program) (T0 : Gh) (M : List Own) (t : TypeId) (A R : AV) : Prop := ∀ (fr : Fr) (ops : Array Oper) (o : Oper) (x : Operand), o.op = .load t x → Opd T0 fr x A → AY P T0 ops o fr M R
theorem k_ld {x : Operand} {t : TypeId} {A R : AV} (ho : o.op = .load t x) (hx : Opd T0 fr x A) (hk : LdK P T0 M t A R) : AY P T0 ops o fr M R := hk fr ops o x ho hx
theorem lk_el {α : Type} {T : Ty α} {e : TypeId} {d z : α} {by' : Nat} {av : α → AV} (he : El P T e d by' av) : LdK P T0 M e (ipA (T.enc z)) (av z) := fun _ _ _ _ ho hx => ay_load_el ho he hx
theorem lk_1 {t : TypeId} {v : Value} {r : List Value} (ha : ∀ w, (isAgg t).run P w = .ok false w) : LdK P T0 M t (ipA (v :: r)) (vA v) := fun _ _ _ _ ho hx => ay_load1 ho ha hx
theorem lk_v1 {t e : TypeId} {b off : Nat} {cells : List AV} {A : AV} (i : Nat) (ha : ∀ w, (isAgg t).run P w = .ok false w) (hM : M[i]? = some (varO b e cells)) (hA : cells[off]? = some A) : LdK P T0 M t (vA (.pointer (some ⟨b, off, none⟩))) A := fun _ _ _ _ ho hx => ay_load_var1 i ho ha hM hx hA
theorem lk_vn {t e : TypeId} {b off n : Nat} {cells : List AV} (i : Nat) (ha : ∀ w, (isAgg t).run P w = .ok true w) (hz : ∀ w, (sizeOf t).run P w = .ok n w) (hM : M[i]? = some (varO b e cells)) (hn : Nat.ble (off + n) cells.length = true) : LdK P T0 M t (vA (.pointer (some ⟨b, off, none⟩))) (aggA ((cells.drop off).take n)) := fun _ _ _ _ ho hx => ay_load_varn i ho ha hz hM hx (Nat.le_of_ble_eq_true hn)
/-- a field of an element of a row -/
theorem row_part {α : Type} (T : Ty α) {l : List α} {n off : Nat} {z : α} {v : Value} (hz : l[n]? = some z) (hv : (T.enc z)[off]? = some v) : (l.flatMap T.enc)[n * T.k + off]? = some v := by
  have hj : off < T.k := by rw [← T.len z]; exact (List.getElem?_eq_some_iff.1 hv).1
  rw [getElem?_flatMap T l n off z hz hj]; exact hv
theorem lk_r1 {α : Type} {T : Ty α} {t e : TypeId} {l : List α} {off n : Nat} {z : α} {u v : Value} (i : Nat) (ha : ∀ w, (isAgg t).run P w = .ok false w) (hM : M[i]? = some (rowO T e u l)) (hz : l[n]? = some z) (hv : (T.enc z)[off]? = some v) : LdK P T0 M t (rpA u (n * T.k + off)) (vA v) := fun _ _ _ _ ho hx => ay_load_row1 i ho ha hM hx (row_part T hz hv)
def FaK (P : Program) (T0 : Gh) (M : List Own) (t : TypeId) (i : Nat) (A R : AV) : Prop := ∀ (fr : Fr) (ops : Array Oper) (o : Oper) (x : Operand), o.op = .fieldAddr t x i → Opd T0 fr x A → AY P T0 ops o fr M R
theorem k_fa {x : Operand} {t : TypeId} {i : Nat} {A R : AV} (ho : o.op = .fieldAddr t x i) (hx : Opd T0 fr x A) (hk : FaK P T0 M t i A R) : AY P T0 ops o fr M R := hk fr ops o x ho hx
theorem ak_ip {t : TypeId} {i off : Nat} {ft : TypeId} {cs : List Value} (hu : Fld P t i off ft) (hsz : ∀ w, ∃ n, (sizeOf ft).run P w = .ok (n + 1) w) : FaK P T0 M t i (ipA cs) (ipA (cs.drop off)) := fun _ _ _ _ ho hx => ay_fieldAddr ho hu hsz hx
theorem ak_var {t : TypeId} {i off b of2 : Nat} {ft : TypeId} (hu : Fld P t i off ft) (hsz : ∀ w, ∃ n, (sizeOf ft).run P w = .ok (n + 1) w) : FaK P T0 M t i (vA (.pointer (some ⟨b, of2, none⟩))) (vA (.pointer (some ⟨b, of2 + off, none⟩))) := fun _ _ _ _ ho hx => ay_field_var ho hu hsz hx
theorem ak_row {t : TypeId} {i off of2 : Nat} {ft : TypeId} {u : Value} (hu : Fld P t i off ft) (hsz : ∀ w, ∃ n, (sizeOf ft).run P w = .ok (n + 1) w) : FaK P T0 M t i (rpA u of2) (rpA u (of2 + off)) := fun _ _ _ _ ho hx => ay_field_row ho hu hsz hx
def FdK (P : Program) (T0 : Gh) (M : List Own) (t : TypeId) (i : Nat) (l : List AV) (R : AV) : Prop := ∀ (fr : Fr) (ops : Array Oper) (o : Oper) (x : Operand), o.op = .field t x i → Opd T0 fr x (aggA l) → AY P T0 ops o fr M R
theorem k_fd {x : Operand} {t : TypeId} {i : Nat} {l : List AV} {R : AV} (ho : o.op = .field t x i) (hx : Opd T0 fr x (aggA l)) (hk : FdK P T0 M t i l R) : AY P T0 ops o fr M R := hk fr ops o x ho hx
theorem dk_1 {t : TypeId} {i off : Nat} {l : List AV} {A : AV} {ft : TypeId} (hu : Fld P t i off ft) (ha : ∀ w, (isAgg ft).run P w = .ok false w) (hA : l[off]? = some A) : FdK P T0 M t i l A := fun _ _ _ _ ho hx => ay_field1 ho hx hu ha hA
/-! ### a struct is built -/
inductive SetC : List AV → Nat → List AV → List AV → Prop
  | nil {s : List AV} : SetC s 0 [] s
  | here {a b : AV} {s l r : List AV} (h : SetC s 0 l r) : SetC (a :: s) 0 (b :: l) (b :: r)
  | next {a : AV} {s l r : List AV} {n : Nat} (h : SetC s n l r) : SetC (a :: s) (n + 1) l (a :: r)
theorem SetC.spec {s l r : List AV} {n : Nat} (h : SetC s n l r) : n + l.length ≤ s.length ∧ r = setC s n l := by
  induction h with
  | nil => simp [setC]
  | here h ih => obtain ⟨h1, h2⟩ := ih; refine ⟨by simp only [List.length_cons]; omega, ?_⟩; rw [h2]; simp [setC]
  | next h ih => obtain ⟨h1, h2⟩ := ih
                 refine ⟨by simp only [List.length_cons]; omega, ?_⟩
                 have e : ∀ a b : Nat, a + 1 + b = (a + b) + 1 := fun a b => by omega
                 rw [h2]; simp only [setC, List.take_succ_cons, List.cons_append, e, List.drop_succ_cons]
theorem sc_0 {s : List AV} : SetC s 0 [] s := .nil
theorem pk {pl : List (Nat × Nat)} {i : Nat} {x : Operand} {r : List (Nat × Operand)} {acc acc' res l : List AV} {A : AV} {off : Nat} (hx : Opd T0 fr x A) (hc : CellsA A l) (hp : pl[i]? = some (off, l.length)) (hs : SetC acc off l acc') (h : PartsA T0 fr pl r acc' res) : PartsA T0 fr pl ((i, x) :: r) acc res := by
  obtain ⟨h1, h2⟩ := hs.spec
  subst h2
  exact ⟨A, l, off, hx, hc, hp, h1, h⟩
/-! ### slices are cut -/
theorem lo_k {x : Operand} {n : Nat} {k : IntKind} (h : OpdN T0 fr x k n) : loOf (some x) n T0 fr := ⟨k, h⟩
theorem hi_k {x : Operand} {n len : Nat} {k : IntKind} (h : OpdN T0 fr x k n) : hiOf (some x) n len T0 fr := ⟨k, h⟩
end
end
/- The logic's further rules: copying, cuts of rows that are owned, results that lie in variables, freezing inside variables, min. No condition. -/
section
open Go Go.RowKit
section
variable {P : Program} {T0 : Gh} {N : Fz} {Q : Post} {fr : Fr} {M : List Own} {ops : Array Oper} {o : Oper}
/-! ### what is owned is a slice -/
theorem row_one {α : Type} {T : Ty α} {e : TypeId} {u : Value} {l : List α} {G : Gh} {w : World} (h : (rowO T e u l).holds G w) : u.cells = #[u] ∧ u.oneCell' = true := by
  rcases row_form h with ⟨rfl, _⟩ | ⟨g, cap, rfl, _⟩ <;> exact ⟨rfl, rfl⟩
/-! ### cuts of what is owned -/
/-- a slice of n things of an owned row, from its place off on -/
def rsA (k : Nat) (u : Value) (off n : Nat) : AV := fun _ v => ∃ g m cap c', u = .slice (some ⟨g, 0, none⟩) m cap ∧ v = .slice (some ⟨g, off * k, none⟩) n c'
theorem Rep.rs {k off n : Nat} {u v : Value} {G : Gh} (h : Rep G (rsA k u off n) v) : ∃ g m cap c', u = .slice (some ⟨g, 0, none⟩) m cap ∧ v = .slice (some ⟨g, off * k, none⟩) n c' := let ⟨_, _, r⟩ := h; r
theorem ay_slice_row {α : Type} {T : Ty α} {t e : TypeId} {x y z : Operand} {l : List α} {d : α} {by' a b : Nat} {k k' : IntKind} {av : α → AV} {u : Value} (i : Nat) (ho : o.op = .slice t x (some y) (some z) none) (hu : P.underlying t = some (.slice e)) (he : El P T e d by' av) (hx : Opd T0 fr x (vA u)) (hM : M[i]? = some (rowO T e u l)) (hy : OpdN T0 fr y k a) (hz : OpdN T0 fr z k' b) (h1 : a < b) (h2 : b ≤ l.length) :
    AY P T0 ops o fr M (rsA T.k u a (b - a)) := ay_of fun w0 G F ac w hs hf => by
  have e1 := (hx.use (o := o) (ops := ops) (by simp [ho, Op.operands]) hs.tab hf).eq
  have e2 := ((show Opd T0 fr y (vA (.int k (a : Int))) from hy).use (o := o) (ops := ops) (by simp [ho, Op.operands]) hs.tab hf).eq
  have e3 := ((show Opd T0 fr z (vA (.int k' (b : Int))) from hz).use (o := o) (ops := ops) (by simp [ho, Op.operands]) hs.tab hf).eq
  have hrow := hs.own _ (List.mem_of_getElem? (setAppend (F := F) (m' := rowO T e u l) hM).1)
  rcases row_form hrow with ⟨rfl, rfl⟩ | ⟨g, cap, rfl, h4, h5⟩
  · simp at h2; omega
  · have hb := run_sliceBounds (P := P) (isS := true) (cap := cap) (len := l.length) (w := w) (lo := a) (hi := b) (vlo := some (.int k (a : Int))) (vhi := some (.int k' (b : Int))) (Nat.le_of_lt h1) (by omega) (.inr ⟨k, rfl⟩) (.inr ⟨k', rfl⟩)
    have hne : ¬ cap = a := by omega
    refine ⟨.slice (some ⟨g, a * T.k, none⟩) (b - a) (cap - a), ?_, .of ⟨g, _, cap, cap - a, rfl, rfl⟩⟩
    simp only [execOp, ho, e1, Option.map_some, e2, e3]
    simp [run_sliceAt_slice _ _ _ _ _ _ (elem_of hu), Instr.slice, run_underlying hu, hb, he.size, hne, Addr.add_lit]
/-! ### copying -/
/-- c, laid over l from the place off on -/
def ovr {α : Type} (l : List α) (off : Nat) (c : List α) : List α := l.take off ++ c ++ l.drop (off + c.length)
theorem ovr_len {α : Type} {l : List α} {off : Nat} {c : List α} (h : off + c.length ≤ l.length) : (ovr l off c).length = l.length := by
  simp only [ovr, List.length_append, List.length_take, List.length_drop]; omega
theorem run_copy {α : Type} {T : Ty α} {t e ty : TypeId} {d : α} {by' : Nat} {av : α → AV} {w : World} {cur : Array Value} {et : TypeId} {g p n c' : Nat} {a : Option Addr} {sn sc : Nat} {m : List α} (hu : P.underlying t = some (.slice e)) (he : El P T e d by' av) (hg : w.heap[g]? = some (.cells cur et (0, 0)))
    (hsn : sn = m.length) (hsrc : m ≠ [] → ∃ b off, a = some ⟨b, off, none⟩ ∧ ∀ j v, (m.flatMap T.enc)[j]? = some v → w.cell? ⟨b, off + j, none⟩ = some v) (hfit : p + (m.take n).length * T.k ≤ cur.size) :
    (Builtin.copy_ #[t, t] ty #[.slice (some ⟨g, p, none⟩) n c', .slice a sn sc]).run P w = .ok (goInt (m.take n).length) (w.setRow g (cur.toList.take p ++ (m.take n).flatMap T.enc ++ cur.toList.drop (p + (m.take n).length * T.k)).toArray) := by
  subst hsn
  have hmin : Nat.min m.length n = (m.take n).length := by rw [List.length_take]; exact Nat.min_comm _ _
  have hst := run_storeCells_at P g p et ((m.take n).flatMap T.enc) 0 cur w hg (by rw [flen]; simpa using hfit) (fun v hv => by obtain ⟨x, _, hx⟩ := List.mem_flatMap.1 hv; exact he.one x v hx)
  rw [flen] at hst
  simp only [Nat.add_zero] at hst
  have hcells : (Builtin.firstCells T.k (m.take n).length (.slice a m.length sc)).run P w = .ok ((m.take n).flatMap T.enc).toArray w := by
    by_cases hm : m = []
    · subst hm
      cases a with
      | none => simp [Builtin.firstCells]
      | some a => simp [Builtin.firstCells, loadCells, loadCellsFrom]
    · obtain ⟨b, off, rfl, hc⟩ := hsrc hm
      have hl := run_loadCells_list (P := P) (w := w) ⟨b, off, none⟩ ((m.take n).flatMap T.enc) (fun j v hv => by
        rw [Addr.add_lit]
        refine hc j v ?_
        rw [flatMap_take, List.getElem?_take] at hv
        split at hv
        · exact hv
        · cases hv)
      rw [flen] at hl
      simpa [Builtin.firstCells] using hl
  generalize m.take n = c at *
  simp only [Builtin.copy_]
  simp [run_underlying hu, Builtin.lenOf, he.size, hmin]
  rw [hcells]
  simp [hst]
/-- a copy into a part of an owned row -/
theorem ao_copy {α : Type} {T : Ty α} {t e : TypeId} {x y : Operand} {l m : List α} {d : α} {by' off n : Nat} {av : α → AV} {u : Value} {A : AV} (i : Nat) (ho : o.op = .call { callee := .builtin .copy, args := #[x, y], argTypes := #[t, t] }) (hu : P.underlying t = some (.slice e)) (he : El P T e d by' av) (hx : Opd T0 fr x A) (hM : M[i]? = some (rowO T e u l)) (hA : (A = vA u ∧ off = 0 ∧ n = l.length) ∨ A = rsA T.k u off n) (hn : off + n ≤ l.length)
    (hy : Opd T0 fr y (slA T m)) : AO P T0 ops o fr M (fun A M' => A = I (m.take n).length ∧ M' = M.set i (rowO T e u (ovr l off (m.take n)))) (fun _ _ => False) := fun w0 G F a w next Qc hs hf hk _ => by
  obtain ⟨ad, sn, sc, e1, e2, _, _, _, e6⟩ := (hy.use (o := o) (ops := ops) (by simp [ho, Op.operands, Call.operands]) hs.tab hf).sl
  have hxr := hx.use (o := o) (ops := ops) (by simp [ho, Op.operands, Call.operands]) hs.tab hf
  obtain ⟨hM1, hM2⟩ := setAppend (F := F) (m' := rowO T e u (ovr l off (m.take n))) hM
  have hrow := hs.own _ (List.mem_of_getElem? hM1)
  have hclen : (m.take n).length ≤ n := by rw [List.length_take]; omega
  have hrun0 : ∀ v w', (Builtin.copy_ #[t, t] o.type #[a.eval x, a.eval y]).run P w = .ok v w' → (execOp a.eval o).run P w = .ok (.value v) w' := fun v w' h => by
    simp only [execOp, ho, resolve]
    simp [invoke, builtin, h]
  rcases hrow.2 with ⟨h', h0⟩ | ⟨g, cap, cur, h', _, hg, hnc, hcm, hcs, htake⟩
  · have hl0 : l = [] := List.eq_nil_of_length_eq_zero h0
    rcases hA with ⟨rfl, rfl, rfl⟩ | rfl
    · have hxe := hxr.eq
      subst hl0
      have hr : (Builtin.copy_ #[t, t] o.type #[a.eval x, a.eval y]).run P w = .ok (goInt 0) w := by
        rw [hxe, e1, h']
        cases ad with
        | none => simp [Builtin.copy_, run_underlying hu, Builtin.lenOf, Builtin.firstCells, he.size]
        | some ad => simp [Builtin.copy_, run_underlying hu, Builtin.lenOf, Builtin.firstCells, he.size, loadCells, loadCellsFrom]
      have hrun := hrun0 _ _ hr
      unfold Oper.wp; rw [hrun]
      refine hk (I 0) (M.set i (rowO T e u (ovr [] 0 (m.take 0)))) G _ w ⟨by simp, by simp⟩ (Gh.le.refl _) ?_ (Rep.va _ _)
      have : M.set i (rowO T e u (ovr [] 0 (m.take 0))) = M := by
        have ho2 : ovr ([] : List α) 0 (m.take 0) = [] := by simp [ovr]
        rw [ho2]
        refine List.ext_getElem? fun j => ?_
        rw [List.getElem?_set]
        split
        · rename_i hij; subst hij
          split
          · exact hM.symm
          · rename_i hnl; exact absurd (List.getElem?_eq_some_iff.1 hM).1 hnl
        · rfl
      rw [this]; exact hs
    · obtain ⟨g, N', cap, c', h1, _⟩ := hxr.rs
      rw [h'] at h1; cases h1
  have hx2 : ∃ c', a.eval x = .slice (some ⟨g, off * T.k, none⟩) n c' := by
    rcases hA with ⟨rfl, rfl, rfl⟩ | rfl
    · exact ⟨cap, by rw [hxr.eq, h', Nat.zero_mul]⟩
    · obtain ⟨g', N', cap', c', h1, h2⟩ := hxr.rs
      rw [h'] at h1
      simp only [Value.slice.injEq, Option.some.injEq, Addr.mk.injEq, and_true] at h1
      obtain ⟨rfl, _⟩ := h1
      exact ⟨c', h2⟩
  obtain ⟨c', hx2⟩ := hx2
  have hfit1 : off + (m.take n).length ≤ l.length := by omega
  have hb1 : (off + (m.take n).length) * T.k ≤ l.length * T.k := Nat.mul_le_mul_right _ hfit1
  have hcap : l.length * T.k ≤ cur.size := by rw [hcs]; exact Nat.mul_le_mul_right _ hnc
  have hr := run_copy (P := P) (T := T) (t := t) (ty := o.type) (w := w) (cur := cur) (p := off * T.k) (n := n) (c' := c') (a := ad) (sn := sn) (sc := sc) (m := m) hu he hg e2 (fun hm => let ⟨b, of, f1, f2⟩ := e6 hm; ⟨b, of, f1, fun j v hv => hs.imm _ _ _ (f2 j v hv)⟩) (by rw [Nat.add_mul] at hb1; omega)
  rw [← hx2, ← e1] at hr
  have hrun := hrun0 _ _ hr
  unfold Oper.wp; rw [hrun]
  generalize m.take n = c at *
  refine hk (I (c).length) (M.set i (rowO T e u (ovr l off (c)))) G _ _ ⟨rfl, rfl⟩ (Gh.le.refl _) ?_ (Rep.va _ _)
  rw [← hM2]
  refine hs.grown hM1 ⟨rfl, rfl, rfl, by simp, fun k _ hk => setRow_other w g k _ (fun e => hk (by rw [h']; simp [rowO, Value.ownBlock, e]))⟩ ?_ (fun b hb => ?_)
  · have hlen := ovr_len (c := c) hfit1
    have hE : ((c).flatMap T.enc).length = (c).length * T.k := flen T _
    have hsz : (cur.toList.take (off * T.k) ++ (c).flatMap T.enc ++ cur.toList.drop (off * T.k + (c).length * T.k)).length = cur.size := by
      rw [Nat.add_mul] at hb1
      simp only [List.length_append, List.length_take, List.length_drop, hE, Array.length_toList]; omega
    refine ⟨by rw [flen], .inr ⟨g, cap, _, by rw [hlen]; exact h', Nat.zero_le _, setRow_heap w g cur _ e _ hg, by rw [hlen]; exact hnc, hcm, ?_, ?_⟩⟩
    · rw [← hcs]; simpa using hsz
    · rw [hlen]
      have h1 : (ovr l off (c)).flatMap T.enc = (l.flatMap T.enc).take (off * T.k) ++ (c).flatMap T.enc ++ (l.flatMap T.enc).drop (off * T.k + (c).length * T.k) := by
        rw [ovr, List.flatMap_append, List.flatMap_append, flatMap_take, flatMap_drop, Nat.add_mul]
      rw [h1, ← htake]
      rw [Nat.add_mul] at hb1
      exact take_seg cur.toList _ (off * T.k) _ (l.length * T.k) hE (by omega) (by simpa using hcap)
  · refine ⟨.inl hb, ?_⟩
    have hb' : u.ownBlock = some b := hb
    rw [h'] at hb'
    obtain rfl := Option.some.inj (show some g = some b from hb')
    simpa using (Array.getElem?_eq_some_iff.1 hg).1
theorem ao_copy_row {α : Type} {T : Ty α} {t e : TypeId} {x y : Operand} {l m : List α} {d : α} {by' : Nat} {av : α → AV} {u : Value} (i : Nat) (ho : o.op = .call { callee := .builtin .copy, args := #[x, y], argTypes := #[t, t] }) (hu : P.underlying t = some (.slice e)) (he : El P T e d by' av) (hx : Opd T0 fr x (vA u)) (hM : M[i]? = some (rowO T e u l))
    (hy : Opd T0 fr y (slA T m)) : AO P T0 ops o fr M (fun A M' => A = I (m.take l.length).length ∧ M' = M.set i (rowO T e u (ovr l 0 (m.take l.length)))) (fun _ _ => False) := ao_copy i ho hu he hx hM (.inl ⟨rfl, rfl, rfl⟩) (by omega) hy
theorem ao_copy_sub {α : Type} {T : Ty α} {t e : TypeId} {x y : Operand} {l m : List α} {d : α} {by' off n : Nat} {av : α → AV} {u : Value} (i : Nat) (ho : o.op = .call { callee := .builtin .copy, args := #[x, y], argTypes := #[t, t] }) (hu : P.underlying t = some (.slice e)) (he : El P T e d by' av) (hx : Opd T0 fr x (rsA T.k u off n)) (hM : M[i]? = some (rowO T e u l)) (hn : off + n ≤ l.length)
    (hy : Opd T0 fr y (slA T m)) : AO P T0 ops o fr M (fun A M' => A = I (m.take n).length ∧ M' = M.set i (rowO T e u (ovr l off (m.take n)))) (fun _ _ => False) := ao_copy i ho hu he hx hM (.inr rfl) hn hy
/-! ### min -/
theorem kn_min {ts : Array TypeId} {x y : Operand} {k : IntKind} {a b : Nat} (ho : o.op = .call { callee := .builtin .min, args := #[x, y], argTypes := ts }) (hx : OpdN T0 fr x k a) (hy : OpdN T0 fr y k b) : AY P T0 ops o fr M (vA (.int k ((min a b : Nat) : Int))) := ay_of fun w0 G F ac w hs hf => by
  have e1 := ((show Opd T0 fr x (vA (.int k (a : Int))) from hx).use (o := o) (ops := ops) (by simp [ho, Op.operands, Call.operands]) hs.tab hf).eq
  have e2 := ((show Opd T0 fr y (vA (.int k (b : Int))) from hy).use (o := o) (ops := ops) (by simp [ho, Op.operands, Call.operands]) hs.tab hf).eq
  have hm : min (a : Int) (b : Int) = ((min a b : Nat) : Int) := by omega
  refine ⟨.int k ((min a b : Nat) : Int), ?_, Rep.va _ _⟩
  simp only [execOp, ho, resolve]
  simp [invoke, builtin, e1, e2, Go.Lib.run_min_ints, hm]
/-! ### what is handed back lies in a variable -/
theorem run_loadVarn {t e : TypeId} {b : Nat} {cells : List AV} {G : Gh} {w : World} (ha : ∀ w, (isAgg t).run P w = .ok true w) (hz : ∀ w, (sizeOf t).run P w = .ok cells.length w) (h : (varO b e cells).holds G w) : ∃ u, (loadVar t ⟨b, 0, none⟩).run P w = .ok u w ∧ Rep G (aggA cells) u := by
  obtain ⟨cs, h3, h4⟩ := var_cells h
  have hl := run_loadCells_list (P := P) (w := w) ⟨b, 0, none⟩ cs (fun j v hv => by
    rw [Addr.add_lit, cell_of_row _ _ _ _ _ _ h3]; simpa using hv)
  rw [h4.len] at hl
  refine ⟨.agg cs.toArray, ?_, .of ⟨_, rfl, h4⟩⟩
  simp only [loadVar]
  simp [ha, hz, hl]
theorem resC1 {fn : Func} {s t e : Nat} {b : Nat} {cells : List AV} (i : Nat) (h : fn.results = #[.cell s t]) (hs : fr.get s = some (vA (.pointer (some ⟨b, 0, none⟩)))) (hM : M[i]? = some (varO b e cells)) (ha : ∀ w, (isAgg t).run P w = .ok true w) (hz : ∀ w, (sizeOf t).run P w = .ok cells.length w) : ResA P T0 fn fr M (aggA cells) := fun w0 G F tmps w st hr => by
  obtain ⟨u, h1, h2⟩ := run_loadVarn ha hz (st.own _ (List.mem_of_getElem? (setAppend (F := F) (m' := varO b e cells) hM).1))
  have h3 : tmps.getD s undef = .pointer (some ⟨b, 0, none⟩) := (slot_get hr hs).eq
  refine ⟨u, ?_, h2⟩
  have h5 : tmps[s]?.getD undef = .pointer (some ⟨b, 0, none⟩) := by simpa using h3
  simp only [results, h]
  simp [h5, asAddr, h1]
theorem resC2 {fn : Func} {s t s' e : Nat} {b : Nat} {cells : List AV} {A : AV} (i : Nat) (h : fn.results = #[.cell s t, .tmp s']) (hs : fr.get s = some (vA (.pointer (some ⟨b, 0, none⟩)))) (hs' : fr.get s' = some A) (hM : M[i]? = some (varO b e cells)) (ha : ∀ w, (isAgg t).run P w = .ok true w) (hz : ∀ w, (sizeOf t).run P w = .ok cells.length w) : ResA P T0 fn fr M (tupA [aggA cells, A]) := fun w0 G F tmps w st hr => by
  obtain ⟨u, h1, h2⟩ := run_loadVarn ha hz (st.own _ (List.mem_of_getElem? (setAppend (F := F) (m' := varO b e cells) hM).1))
  have h3 : tmps.getD s undef = .pointer (some ⟨b, 0, none⟩) := (slot_get hr hs).eq
  have h4 := slot_get hr hs'
  refine ⟨.tuple #[u, tmps.getD s' undef], ?_, .of ⟨[_, _], rfl, h2, h4, trivial⟩⟩
  have h5 : tmps[s]?.getD undef = .pointer (some ⟨b, 0, none⟩) := by simpa using h3
  simp only [results, h]
  simp [h5, asAddr, h1]
/-! ### freezing, inside variables too -/
end
end
/- The logic's steps that write, told by what is owned and not by its place; each step as one rule. No condition. -/
section
open Go Go.RowKit
/-- m is one of them; f puts another one in its place -/
inductive UpdF (m : Own) : List Own → (Own → List Own) → Prop
  | here {s : List Own} : UpdF m (m :: s) (fun m' => m' :: s)
  | next {a : Own} {s : List Own} {f : Own → List Own} (h : UpdF m s f) : UpdF m (a :: s) (fun m' => a :: f m')
theorem UpdF.spec {m : Own} {M : List Own} {f : Own → List Own} (h : UpdF m M f) : ∃ i, M[i]? = some m ∧ ∀ m', f m' = M.set i m' := by
  induction h with
  | here => exact ⟨0, rfl, fun _ => rfl⟩
  | next h ih => obtain ⟨i, h1, h2⟩ := ih; exact ⟨i + 1, by simpa using h1, fun m' => congrArg (List.cons _) (h2 m')⟩
/-- n cells from the place off on -/
inductive SubC : List AV → Nat → Nat → List AV → Prop
  | nil {s : List AV} : SubC s 0 0 []
  | here {a : AV} {s r : List AV} {n : Nat} (h : SubC s 0 n r) : SubC (a :: s) 0 (n + 1) (a :: r)
  | next {a : AV} {s r : List AV} {off n : Nat} (h : SubC s off n r) : SubC (a :: s) (off + 1) n r
theorem SubC.spec {s r : List AV} {off n : Nat} (h : SubC s off n r) : (s.drop off).take n = r ∧ off + n ≤ s.length ∧ (s.take (off + n)).drop off = r := by
  induction h with
  | nil => simp
  | here h ih => obtain ⟨h1, h2, h3⟩ := ih; refine ⟨by simpa using h1, by simp only [List.length_cons]; omega, ?_⟩; simp at h3 ⊢; exact h3
  | next h ih => obtain ⟨h1, h2, h3⟩ := ih; refine ⟨by simpa using h1, by simp only [List.length_cons]; omega, ?_⟩
                 rw [Nat.add_right_comm]; simpa using h3
/-- m is one of them, and these are the others -/
inductive Pick (m : Own) : List Own → List Own → Prop
  | here {s : List Own} : Pick m (m :: s) s
  | next {a : Own} {s r : List Own} (h : Pick m s r) : Pick m (a :: s) (a :: r)
theorem Pick.perm {m : Own} {M M' : List Own} (h : Pick m M M') : List.Perm (m :: M') M := by
  induction h with
  | here => exact List.Perm.refl _
  | next h ih => exact (List.Perm.swap _ _ _).trans (ih.cons _)
section
variable {P : Program} {T0 : Gh} {N : Fz} {Q : Post} {fr : Fr} {M M' : List Own} {ops : Array Oper} {o : Oper} {rest : List Oper} {x0 : Nat}
/-! ### reading -/
theorem mk_len {α : Type} {T : Ty α} {t e e' : TypeId} {l : List α} {u : Value} (hu : P.underlying t = some (.slice e')) (hM : rowO T e u l ∈ M) : LnK P T0 M t (vA u) (I l.length) := let ⟨i, h⟩ := List.getElem?_of_mem hM; nk_row i hu h
theorem mk_ix {α : Type} {T : Ty α} {t e : TypeId} {l : List α} {d : α} {by' n : Nat} {av : α → AV} {u : Value} (hu : P.underlying t = some (.slice e)) (he : El P T e d by' av) (hM : rowO T e u l ∈ M) (hn : n < l.length) : IxK P T0 M t (vA u) n (rpA u (n * T.k)) := let ⟨i, h⟩ := List.getElem?_of_mem hM; ik_row i hu he h hn
theorem mk_v1 {t e : TypeId} {b off : Nat} {cells : List AV} {A : AV} (ha : ∀ w, (isAgg t).run P w = .ok false w) (hM : varO b e cells ∈ M) (hA : cells[off]? = some A) : LdK P T0 M t (vA (.pointer (some ⟨b, off, none⟩))) A := let ⟨i, h⟩ := List.getElem?_of_mem hM; lk_v1 i ha h hA
theorem mk_vn {t e : TypeId} {b off n : Nat} {cells l : List AV} (ha : ∀ w, (isAgg t).run P w = .ok true w) (hz : ∀ w, (sizeOf t).run P w = .ok n w) (hM : varO b e cells ∈ M) (hl : SubC cells off n l) : LdK P T0 M t (vA (.pointer (some ⟨b, off, none⟩))) (aggA l) := by
  obtain ⟨i, h⟩ := List.getElem?_of_mem hM
  obtain ⟨h1, h2, _⟩ := hl.spec
  rw [← h1]
  exact lk_vn i ha hz h (Nat.ble_eq_true_of_le h2)
theorem mk_r1 {α : Type} {T : Ty α} {t e : TypeId} {l : List α} {off n : Nat} {z : α} {u v : Value} (ha : ∀ w, (isAgg t).run P w = .ok false w) (hM : rowO T e u l ∈ M) (hz : l[n]? = some z) (hv : (T.enc z)[off]? = some v) : LdK P T0 M t (rpA u (n * T.k + off)) (vA v) := let ⟨i, h⟩ := List.getElem?_of_mem hM; lk_r1 i ha h hz hv
theorem my_slice {α : Type} {T : Ty α} {t e : TypeId} {x y z : Operand} {l : List α} {d : α} {by' a b : Nat} {k k' : IntKind} {av : α → AV} {u : Value} (ho : o.op = .slice t x (some y) (some z) none) (hu : P.underlying t = some (.slice e)) (he : El P T e d by' av) (hx : Opd T0 fr x (vA u)) (hM : rowO T e u l ∈ M) (hy : OpdN T0 fr y k a) (hz : OpdN T0 fr z k' b) (h1 : a < b) (h2 : b ≤ l.length) :
    AY P T0 ops o fr M (rsA T.k u a (b - a)) := let ⟨i, h⟩ := List.getElem?_of_mem hM; ay_slice_row i ho hu he hx h hy hz h1 h2
theorem resM1 {fn : Func} {s t e : Nat} {b n : Nat} {cells : List AV} (h : fn.results = #[.cell s t]) (hs : fr.get s = some (vA (.pointer (some ⟨b, 0, none⟩)))) (hM : varO b e cells ∈ M) (ha : ∀ w, (isAgg t).run P w = .ok true w) (hz : ∀ w, (sizeOf t).run P w = .ok n w) (hl : cells.length = n) : ResA P T0 fn fr M (aggA cells) := let ⟨i, k⟩ := List.getElem?_of_mem hM; resC1 i h hs k ha (by rw [hl]; exact hz)
theorem resM2 {fn : Func} {s t s' e : Nat} {b n : Nat} {cells : List AV} {A : AV} (h : fn.results = #[.cell s t, .tmp s']) (hs : fr.get s = some (vA (.pointer (some ⟨b, 0, none⟩)))) (hs' : fr.get s' = some A) (hM : varO b e cells ∈ M) (ha : ∀ w, (isAgg t).run P w = .ok true w) (hz : ∀ w, (sizeOf t).run P w = .ok n w) (hl : cells.length = n) : ResA P T0 fn fr M (tupA [aggA cells, A]) := let ⟨i, k⟩ := List.getElem?_of_mem hM; resC2 i h hs hs' k ha (by rw [hl]; exact hz)
theorem ent_perm2 (p : List.Perm M' M) : Ent T0 fr M fr M' := fun _ G F _ _ s r => ⟨G, Gh.le.refl _, s.perm (p.append_right F), r⟩
theorem al_rowc {α : Type} {T : Ty α} {e : TypeId} {u : Value} {l : List α} {ol : List Oper} (hM : rowO T e u l ∈ M) (h : u.cells = #[u] → u.oneCell' = true → AL P T0 N false ops Q ol fr M) : AL P T0 N false ops Q ol fr M := by
  have e : ∀ p : u.cells = #[u] ∧ u.oneCell' = true, AL P T0 N false ops Q ol fr M := fun p => h p.1 p.2
  simp only [AL, Bool.false_eq_true, if_false] at e ⊢
  exact fun w0 G F a w hc => e (row_one (hc.st.own _ (List.mem_append_left F hM))) w0 G F a w hc
theorem aw_rowc {α : Type} {T : Ty α} {e : TypeId} {u : Value} {l : List α} {c : Code} (hM : rowO T e u l ∈ M) (h : u.cells = #[u] → u.oneCell' = true → AW P T0 N c Q fr M) : AW P T0 N c Q fr M := fun w0 G F a w hc => by
  have h1 := row_one (hc.st.own _ (List.mem_append_left F hM))
  exact h h1.1 h1.2 w0 G F a w hc
/-! ### writing -/
theorem al_store_var {t e : TypeId} {x y : Operand} {b off n : Nat} {cells cells' l : List AV} {A : AV} {f : Own → List Own} (hg : o.guard = none) (hd : o.dst = none) (ho : o.op = .store t x y) (hz : ∀ w, (sizeOf t).run P w = .ok n w) (hx : Opd T0 fr x (vA (.pointer (some ⟨b, off, none⟩)))) (hy : Opd T0 fr y A) (hc : CellsA A l) (hl : l.length = n) (h1 : OnesA l) (hU : UpdF (varO b e cells) M f) (hs : SetC cells off l cells')
    (h : AL P T0 N false ops Q rest fr (f (varO b e cells'))) : AL P T0 N false ops Q (o :: rest) fr M := by
  obtain ⟨i, k1, k2⟩ := hU.spec
  obtain ⟨k3, k4⟩ := hs.spec
  subst hl; subst k4
  refine al_en hg (ao_store_var i ho hz k1 hx hy hc h1 k3) hd (fun _ _ h => h.elim) ?_
  rintro _ _ rfl
  rw [k2] at h; exact h
theorem al_store_row {α : Type} {T : Ty α} {e : TypeId} {x y : Operand} {l : List α} {d z : α} {by' : Nat} {av : α → AV} {n : Nat} {u : Value} {A : AV} {f : Own → List Own} (hg : o.guard = none) (hd : o.dst = none) (ho : o.op = .store e x y) (he : El P T e d by' av) (hx : Opd T0 fr x (rpA u (n * T.k))) (hy : Opd T0 fr y A) (hU : UpdF (rowO T e u l) M f) (hn : n < l.length) (hc : CellsA A ((T.enc z).map vA))
    (h : AL P T0 N false ops Q rest fr (f (rowO T e u (l.set n z)))) : AL P T0 N false ops Q (o :: rest) fr M := by
  obtain ⟨i, k1, k2⟩ := hU.spec
  refine al_en hg (ao_store_row i ho he k1 hx hn hy hc) hd (fun _ _ h => h.elim) ?_
  rintro _ _ rfl
  rw [k2] at h; exact h
theorem al_append {α : Type} {T : Ty α} {t e : TypeId} {x y : Operand} {l m : List α} {d : α} {by' : Nat} {av : α → AV} {u : Value} {f : Own → List Own} (hg : o.guard = none) (hd : o.dst = some x0) (hN : Nat.blt x0 N.n = true) (ho : o.op = .call { callee := .builtin .append, args := #[x, y], argTypes := #[t, t] }) (hu : P.underlying t = some (.slice e)) (he : El P T e d by' av) (hx : Opd T0 fr x (vA u)) (hy : Opd T0 fr y (slA T m))
    (hU : UpdF (rowO T e u l) M f) (hn : (l.length + m.length) * by' ≤ 140737488355328) (hm : l.length + m.length ≤ maxLen) (h : ∀ u', u'.cells = #[u'] → u'.oneCell' = true → AL P T0 N false ops Q rest ((x0, vA u') :: fr) (f (rowO T e u' (l ++ m)))) : AL P T0 N false ops Q (o :: rest) fr M := by
  obtain ⟨i, k1, k2⟩ := hU.spec
  refine al_es hg (ao_append i ho hu he hx k1 hy hn hm) hd hN (fun _ _ h => h.elim) ?_
  rintro _ _ ⟨u', rfl, rfl⟩
  have hi : i < M.length := (List.getElem?_eq_some_iff.1 k1).1
  refine al_rowc (T := T) (e := e) (u := u') (l := l ++ m) (List.mem_of_getElem? (i := i) (by rw [List.getElem?_set]; simp [hi])) fun a b => ?_
  have := h u' a b
  rw [k2] at this; exact this
theorem al_make {α : Type} {T : Ty α} {t e : TypeId} {x y : Operand} {n : Nat} {d : α} {by' : Nat} {av : α → AV} {k k' : IntKind} (hg : o.guard = none) (hd : o.dst = some x0) (hN : Nat.blt x0 N.n = true) (ho : o.op = .makeSlice t x y) (hu : P.underlying t = some (.slice e)) (he : El P T e d by' av) (hx : OpdN T0 fr x k n) (hy : OpdN T0 fr y k' n)
    (hn : by' * n ≤ 140737488355328) (hm : n ≤ maxLen) (h : ∀ u', u'.cells = #[u'] → u'.oneCell' = true → AL P T0 N false ops Q rest ((x0, vA u') :: fr) (rowO T e u' (List.replicate n d) :: M)) : AL P T0 N false ops Q (o :: rest) fr M := by
  refine al_es hg (ao_make ho hu he hx hy hn hm) hd hN (fun _ _ h => h.elim) ?_
  rintro _ _ ⟨u', rfl, rfl⟩
  exact al_rowc (List.Mem.head _) fun a b => h u' a b
theorem al_alloc {e : TypeId} {zs : List Value} {z : Value} {Z : List AV} (hg : o.guard = none) (hd : o.dst = some x0) (hN : Nat.blt x0 N.n = true) (ho : o.op = .alloc e) (hz : (P.info? e).map (·.zero) = some (some z) ∧ z.cells.toList = zs ∧ Z = zs.map vA) (h : ∀ b, AL P T0 N false ops Q rest ((x0, vA (.pointer (some ⟨b, 0, none⟩))) :: fr) (varO b e Z :: M)) : AL P T0 N false ops Q (o :: rest) fr M := by
  obtain ⟨h1, h2, rfl⟩ := hz
  refine al_es hg (ao_alloc ho h1 h2) hd hN (fun _ _ h => h.elim) ?_
  rintro _ _ ⟨b, rfl, rfl⟩
  exact h b
theorem al_box {e : TypeId} {x : Operand} {A : AV} {l : List AV} (hg : o.guard = none) (hd : o.dst = some x0) (hN : Nat.blt x0 N.n = true) (ho : o.op = .box e x) (hx : Opd T0 fr x A) (hc : CellsA A l) (h : ∀ b, AL P T0 N false ops Q rest ((x0, vA (.pointer (some ⟨b, 0, none⟩))) :: fr) (varO b e l :: M)) : AL P T0 N false ops Q (o :: rest) fr M := by
  refine al_es hg (ao_box ho hx hc) hd hN (fun _ _ h => h.elim) ?_
  rintro _ _ ⟨b, rfl, rfl⟩
  exact h b
theorem al_copy_row {α : Type} {T : Ty α} {t e : TypeId} {x y : Operand} {l m : List α} {d : α} {by' : Nat} {av : α → AV} {u : Value} {f : Own → List Own} (hg : o.guard = none) (hd : o.dst = some x0) (hN : Nat.blt x0 N.n = true) (ho : o.op = .call { callee := .builtin .copy, args := #[x, y], argTypes := #[t, t] }) (hu : P.underlying t = some (.slice e)) (he : El P T e d by' av) (hx : Opd T0 fr x (vA u)) (hy : Opd T0 fr y (slA T m)) (hU : UpdF (rowO T e u l) M f)
    (h : AL P T0 N false ops Q rest ((x0, I (m.take l.length).length) :: fr) (f (rowO T e u (ovr l 0 (m.take l.length))))) : AL P T0 N false ops Q (o :: rest) fr M := by
  obtain ⟨i, k1, k2⟩ := hU.spec
  refine al_es hg (ao_copy_row i ho hu he hx k1 hy) hd hN (fun _ _ h => h.elim) ?_
  rintro _ _ ⟨rfl, rfl⟩
  rw [k2] at h; exact h
theorem al_copy_sub {α : Type} {T : Ty α} {t e : TypeId} {x y : Operand} {l m : List α} {d : α} {by' off n : Nat} {av : α → AV} {u : Value} {f : Own → List Own} (hg : o.guard = none) (hd : o.dst = some x0) (hN : Nat.blt x0 N.n = true) (ho : o.op = .call { callee := .builtin .copy, args := #[x, y], argTypes := #[t, t] }) (hu : P.underlying t = some (.slice e)) (he : El P T e d by' av) (hx : Opd T0 fr x (rsA T.k u off n)) (hy : Opd T0 fr y (slA T m)) (hU : UpdF (rowO T e u l) M f) (hn : off + n ≤ l.length)
    (h : AL P T0 N false ops Q rest ((x0, I (m.take n).length) :: fr) (f (rowO T e u (ovr l off (m.take n))))) : AL P T0 N false ops Q (o :: rest) fr M := by
  obtain ⟨i, k1, k2⟩ := hU.spec
  refine al_es hg (ao_copy_sub i ho hu he hx k1 hn hy) hd hN (fun _ _ h => h.elim) ?_
  rintro _ _ ⟨rfl, rfl⟩
  rw [k2] at h; exact h
/-- a call whose contract owns the first m ¦ owns nothing beforehand -/
theorem al_call1 {f : FuncId} {args : Array Operand} {ts : Array TypeId} {As : List AV} {m : Own} {K : AV → List Own → Prop} (hg : o.guard = none) (hd : o.dst = some x0) (hN : Nat.blt x0 N.n = true) (ho : o.op = .call { callee := .value (.func f), args := args, argTypes := ts }) (ha : OpdAll T0 fr args.toList As) (c : AF P T0 f As [m] K) (hM : Pick m M M')
    (h : ∀ A M1, K A M1 → AL P T0 N false ops Q rest ((x0, A) :: fr) (M1 ++ M')) : AL P T0 N false ops Q (o :: rest) fr M := by
  refine al_ent (ent_perm2 hM.perm) ?_
  refine al_es hg (ao_call ho ha c rfl) hd hN (fun _ _ h => by obtain ⟨_, _, h⟩ := h; exact h.elim) ?_
  rintro A _ ⟨M1, rfl, k⟩
  exact h A M1 k
theorem al_call0 {f : FuncId} {args : Array Operand} {ts : Array TypeId} {As : List AV} {K : AV → List Own → Prop} (hg : o.guard = none) (hd : o.dst = some x0) (hN : Nat.blt x0 N.n = true) (ho : o.op = .call { callee := .value (.func f), args := args, argTypes := ts }) (ha : OpdAll T0 fr args.toList As) (c : AF P T0 f As [] K)
    (h : ∀ A M1, K A M1 → AL P T0 N false ops Q rest ((x0, A) :: fr) (M1 ++ M)) : AL P T0 N false ops Q (o :: rest) fr M := by
  refine al_es hg (ao_call (M1 := []) ho ha c rfl) hd hN (fun _ _ h => by obtain ⟨_, _, h⟩ := h; exact h.elim) ?_
  rintro A _ ⟨M1, rfl, k⟩
  exact h A M1 k
/-- a loop: of what is owned at a round's end, just this is kept -/
theorem aw_fl {c : Code} {σ : Type} (fs : σ → Fr) (ms : σ → List Own) (inv : σ → Prop) (μ : σ → Nat) (s0 : σ) (h0 : inv s0) (hf0 : Weak fr (fs s0)) (hm0 : List.Sublist (ms s0) M)
    (round : ∀ s, inv s → AW P T0 N c (thenA (fun fr' M' => ∃ s', inv s' ∧ μ s' < μ s ∧ Weak fr' (fs s') ∧ List.Sublist (ms s') M') Q) (fs s) (ms s)) : AW P T0 N (.loop c) Q fr M := by
  refine aw_loop (fun n fr M => ∃ s, inv s ∧ n = μ s ∧ Weak fr (fs s) ∧ List.Sublist (ms s) M) (μ s0) ⟨s0, h0, rfl, hf0, hm0⟩ ?_
  rintro n fr M ⟨s, h1, rfl, h2, h3⟩
  refine aw_ent (ent_drop h3) (aw_weak h2 (AW.mono (round s h1) fun e fr' M' q => ?_))
  cases e with
  | normal => obtain ⟨s', a1, a2, a3, a4⟩ := q; exact ⟨μ s', a2, s', a1, rfl, a3, a4⟩
  | _ => exact q
theorem aw_fl2 {c : Code} {σ τ : Type} (fs : σ → τ → Fr) (ms : σ → τ → List Own) (inv : σ → τ → Prop) (μ : σ → τ → Nat) (s0 : σ) (t0 : τ) (h0 : inv s0 t0) (hf0 : Weak fr (fs s0 t0)) (hm0 : List.Sublist (ms s0 t0) M)
    (round : ∀ s t, inv s t → AW P T0 N c (thenA (fun fr' M' => ∃ s' t', inv s' t' ∧ μ s' t' < μ s t ∧ Weak fr' (fs s' t') ∧ List.Sublist (ms s' t') M') Q) (fs s t) (ms s t)) : AW P T0 N (.loop c) Q fr M :=
  aw_fl (fun x : σ × τ => fs x.1 x.2) (fun x => ms x.1 x.2) (fun x => inv x.1 x.2) (fun x => μ x.1 x.2) (s0, t0) h0 hf0 hm0 fun x hx => AW.mono (round x.1 x.2 hx) fun e fr' M' q => by
    cases e with
    | normal => obtain ⟨s', t', a⟩ := q; exact ⟨(s', t'), a⟩
    | _ => exact q
/-- a contract that hands back a row of its own, within a value: frozen -/
theorem AF.frz1 {α : Type} {T : Ty α} {e : TypeId} {f : FuncId} {As : List AV} {l : List α} {F : Value → AV} {A' : AV} {M0 : List Own} (h : AF P T0 f As M0 (fun A M' => ∃ u, A = F u ∧ M' = [rowO T e u l])) (hz : ∀ u, FzA u T l (F u) A') : AF P T0 f As M0 (fun A M' => Sub A A' ∧ M' = []) :=
  h.freeze fun A M' q => by
    obtain ⟨u, rfl, rfl⟩ := q
    exact ⟨α, T, e, u, l, 0, A', rfl, hz u, Sub.refl _, rfl⟩
end
end
/- The types and tables of this program, as the logic wants them. No condition. -/
section
open Go Go.RowKit
/-- the program's table of wide signs -/
def spansL : List (Int × Int) := [(4352, 4447), (11904, 12350), (12353, 42191), (44032, 55203), (63744, 64255), (65072, 65135), (65281, 65376), (65504, 65510), (127744, 128591), (129280, 129535), (131072, 262141)]
def spansV : List Value := spansL.flatMap fun p => [.int .i32 p.1, .int .i32 p.2]
/-- the library's tables of signs' first bytes, and of their second bytes -/
def firstV : List Value := (List.range 256).map fun b => .int .u8 (Go.Lib.firstT b : Nat)
def accV : List Value := (List.range 16).flatMap fun i => [.int .u8 (Go.Lib.accLo i : Nat), .int .u8 (Go.Lib.accHi i : Nat)]
def tabS : Gh := fun b o => if b = 0 then spansV[o]? else none
def tabU : Gh := fun b o => if b = 2 then firstV[o]? else if b = 3 then accV[o]? else none
/-- the table of wide signs is there ¦ the library's tables are there -/
class TabS (T : Gh) : Prop where h : Gh.le tabS T
class TabU (T : Gh) : Prop where h : Gh.le tabU T
theorem agg_no {t : TypeId} {P : Program} (h : (match P.underlying t with | some (.struct _) => true | some (.array _ _) => true | some _ => false | none => true) = false) (w : World) : (isAgg t).run P w = .ok false w := by
  cases hu : P.underlying t with
  | none => simp [hu] at h
  | some d => cases d <;> simp [hu] at h <;> simp [isAgg, run_underlying hu]
theorem agg_yes {t : TypeId} {P : Program} (h : (match P.underlying t with | some (.struct _) => true | some (.array _ _) => true | some _ => false | none => false) = true) (w : World) : (isAgg t).run P w = .ok true w := by
  cases hu : P.underlying t with
  | none => simp [hu] at h
  | some d => cases d <;> simp [hu] at h <;> simp [isAgg, run_underlying hu]
theorem size_of {t : TypeId} {P : Program} {n : Nat} (h : (P.info? t).map (·.size) = some n) (w : World) : (sizeOf t).run P w = .ok n w := by
  obtain ⟨i, h1, h2⟩ := Option.map_eq_some_iff.1 h
  simp [sizeOf, typeInfo, h1, h2]
theorem size_pos {t : TypeId} {P : Program} {n : Nat} (h : (P.info? t).map (·.size) = some (n + 1)) (w : World) : ∃ n, (sizeOf t).run P w = .ok (n + 1) w := ⟨n, size_of h w⟩
/-! ### what is known of a type, found by its number -/
class UnC (t : TypeId) (d : outParam TypeDesc) : Prop where h : Tryd.prog.underlying t = some d
class ElC {α : outParam Type} (e : TypeId) (T : outParam (Ty α)) (d : outParam α) (by' : outParam Nat) (av : outParam (α → AV)) : Prop where h : El Tryd.prog T e d by' av
class AggC (t : TypeId) (b : outParam Bool) : Prop where h : ∀ w, (isAgg t).run Tryd.prog w = .ok b w
class SzC (t : TypeId) (n : outParam Nat) : Prop where h : ∀ w, (sizeOf t).run Tryd.prog w = .ok n w
class SpC (t : TypeId) : Prop where h : ∀ w, ∃ n, (sizeOf t).run Tryd.prog w = .ok (n + 1) w
class FldC (t i : Nat) (off : outParam Nat) (ft : outParam TypeId) : Prop where h : Fld Tryd.prog t i off ft
class StC (t : TypeId) (Z : outParam (List AV)) (pl : outParam (List (Nat × Nat))) : Prop where h : StT Tryd.prog t Z pl
class AlC (t : TypeId) (z : outParam Value) (zs : outParam (List Value)) (Z : outParam (List AV)) : Prop where h : (Tryd.prog.info? t).map (·.zero) = some (some z) ∧ z.cells.toList = zs ∧ Z = zs.map vA
theorem un_ {t : TypeId} {d : TypeDesc} [c : UnC t d] : Tryd.prog.underlying t = some d := c.h
theorem el_ {α : Type} {e : TypeId} {T : Ty α} {d : α} {by' : Nat} {av : α → AV} [c : ElC e T d by' av] : El Tryd.prog T e d by' av := c.h
theorem agg_ {t : TypeId} {b : Bool} [c : AggC t b] : ∀ w, (isAgg t).run Tryd.prog w = .ok b w := c.h
theorem sz_ {t : TypeId} {n : Nat} [c : SzC t n] : ∀ w, (sizeOf t).run Tryd.prog w = .ok n w := c.h
theorem sp_ {t : TypeId} [c : SpC t] : ∀ w, ∃ n, (sizeOf t).run Tryd.prog w = .ok (n + 1) w := c.h
theorem fl_ {t i off : Nat} {ft : TypeId} [c : FldC t i off ft] : Fld Tryd.prog t i off ft := c.h
theorem st_ {t : TypeId} {Z : List AV} {pl : List (Nat × Nat)} [c : StC t Z pl] : StT Tryd.prog t Z pl := c.h
theorem v1_ {T0 : Gh} {M : List Own} {t e : TypeId} {b off : Nat} {cells : List AV} {A : AV} [c : AggC t false] (hM : varO b e cells ∈ M) (hA : cells[off]? = some A) : LdK Tryd.prog T0 M t (vA (.pointer (some ⟨b, off, none⟩))) A := mk_v1 c.h hM hA
theorem vn_ {T0 : Gh} {M : List Own} {t e : TypeId} {b off n : Nat} {cells l : List AV} [c : AggC t true] [z : SzC t n] (hM : varO b e cells ∈ M) (hl : SubC cells off n l) : LdK Tryd.prog T0 M t (vA (.pointer (some ⟨b, off, none⟩))) (aggA l) := mk_vn c.h z.h hM hl
theorem r1_ {α : Type} {T : Ty α} {T0 : Gh} {M : List Own} {t e : TypeId} {l : List α} {off n : Nat} {z : α} {u v : Value} [c : AggC t false] (hM : rowO T e u l ∈ M) (hz : l[n]? = some z) (hv : (T.enc z)[off]? = some v) : LdK Tryd.prog T0 M t (rpA u (n * T.k + off)) (vA v) := mk_r1 c.h hM hz hv
/-! ### signs and numbers -/
/-! ### cells -/
abbrev Cell := Int × Int
def cellT : Ty Cell := { enc := fun c => [.int .i32 c.1, .int .i64 c.2], k := 2, len := fun _ => rfl }
def cellA (c : Cell) : AV := aggA [R c.1, I c.2]
theorem el_cell : El Tryd.prog cellT 42 (0, 0) 16 cellA := ⟨⟨.agg #[.int .i32 0, .int .i64 0], by kernel_rfl, rfl⟩, by decide, fun x v hv => by simp [cellT] at hv; rcases hv with rfl | rfl <;> rfl, .inl ⟨agg_yes (by kernel_rfl), fun x => rfl⟩⟩
instance cEl3 : ElC 42 cellT (0, 0) 16 cellA := ⟨el_cell⟩
theorem st_cell : StT Tryd.prog 42 [R 0, I 0] [(0, 1), (1, 1)] := StT.mk' _ [.int .i32 0, .int .i64 0] Tryd.underlying42 (by kernel_rfl) (by kernel_rfl)
instance cSt1 : StC 42 [R 0, I 0] [(0, 1), (1, 1)] := ⟨st_cell⟩
theorem us_cell : Tryd.prog.underlying 42 = some (.struct #[{ name := "R", type := 21, offset := 0, embedded := false, tag := "", pkgPath := "", byteOffset := 0 }, { name := "K", type := 3, offset := 1, embedded := false, tag := "", pkgPath := "", byteOffset := 8 }]) := Tryd.underlying42
theorem fl_cell_R : Fld Tryd.prog 42 0 0 21 := ⟨_, _, us_cell, rfl, rfl, rfl⟩
instance cFl1 : FldC 42 0 0 21 := ⟨fl_cell_R⟩
theorem fl_cell_K : Fld Tryd.prog 42 1 1 3 := ⟨_, _, us_cell, rfl, rfl, rfl⟩
instance cFl2 : FldC 42 1 1 3 := ⟨fl_cell_K⟩
theorem ya_cell : ∀ w, (isAgg 42).run Tryd.prog w = .ok true w := agg_yes (by kernel_rfl)
instance cAg1 : AggC 42 true := ⟨ya_cell⟩
theorem sz_cell : ∀ w, (sizeOf 42).run Tryd.prog w = .ok 2 w := size_of (by kernel_rfl)
instance cSz1 : SzC 42 2 := ⟨sz_cell⟩
theorem un_bool : Tryd.prog.underlying 4 = some .bool := Tryd.underlying4
instance cUn1 : UnC 4 .bool := ⟨un_bool⟩
theorem un_cells : Tryd.prog.underlying 25 = some (.slice 42) := Tryd.underlying25
instance cUn2 : UnC 25 (.slice 42) := ⟨un_cells⟩
theorem na_int : ∀ w, (isAgg 3).run Tryd.prog w = .ok false w := agg_no (by kernel_rfl)
instance cNa1 : AggC 3 false := ⟨na_int⟩
theorem na_i32 : ∀ w, (isAgg 21).run Tryd.prog w = .ok false w := agg_no (by kernel_rfl)
instance cNa2 : AggC 21 false := ⟨na_i32⟩
theorem na_bool : ∀ w, (isAgg 4).run Tryd.prog w = .ok false w := agg_no (by kernel_rfl)
instance cNa3 : AggC 4 false := ⟨na_bool⟩
theorem na_u8 : ∀ w, (isAgg 5).run Tryd.prog w = .ok false w := agg_no (by kernel_rfl)
instance cNa4 : AggC 5 false := ⟨na_u8⟩
theorem na_str : ∀ w, (isAgg 9).run Tryd.prog w = .ok false w := agg_no (by kernel_rfl)
instance cNa5 : AggC 9 false := ⟨na_str⟩
theorem na_errno : ∀ w, (isAgg 32).run Tryd.prog w = .ok false w := agg_no (by kernel_rfl)
instance cNa6 : AggC 32 false := ⟨na_errno⟩
instance cUnI8 : UnC 5 (.int .u8) := ⟨Tryd.underlying5⟩
instance cUnI32 : UnC 21 (.int .i32) := ⟨Tryd.underlying21⟩
instance cUnI64 : UnC 3 (.int .i64) := ⟨Tryd.underlying3⟩
theorem sp_int : ∀ w, ∃ n, (sizeOf 3).run Tryd.prog w = .ok (n + 1) w := size_pos (n := 0) (by kernel_rfl)
instance cSp1 : SpC 3 := ⟨sp_int⟩
theorem sp_i32 : ∀ w, ∃ n, (sizeOf 21).run Tryd.prog w = .ok (n + 1) w := size_pos (n := 0) (by kernel_rfl)
instance cSp2 : SpC 21 := ⟨sp_i32⟩
theorem sp_bool : ∀ w, ∃ n, (sizeOf 4).run Tryd.prog w = .ok (n + 1) w := size_pos (n := 0) (by kernel_rfl)
instance cSp3 : SpC 4 := ⟨sp_bool⟩
/-! ### grids -/
theorem us_grid : Tryd.prog.underlying 27 = some (.struct #[{ name := "W", type := 3, offset := 0, embedded := false, tag := "", pkgPath := "", byteOffset := 0 }, { name := "H", type := 3, offset := 1, embedded := false, tag := "", pkgPath := "", byteOffset := 8 }, { name := "L", type := 25, offset := 2, embedded := false, tag := "", pkgPath := "", byteOffset := 16 }]) := Tryd.underlying27
instance cStG : StC 27 [I 0, I 0, vA (.slice none 0 0)] [(0, 1), (1, 1), (2, 1)] := ⟨StT.mk' _ [.int .i64 0, .int .i64 0, .slice none 0 0] us_grid (by kernel_rfl) (by kernel_rfl)⟩
instance cFlG0 : FldC 27 0 0 3 := ⟨_, _, us_grid, rfl, rfl, rfl⟩
instance cFlG1 : FldC 27 1 1 3 := ⟨_, _, us_grid, rfl, rfl, rfl⟩
instance cFlG2 : FldC 27 2 2 25 := ⟨_, _, us_grid, rfl, rfl, rfl⟩
instance cAgG : AggC 27 true := ⟨agg_yes (by kernel_rfl)⟩
instance cSzG : SzC 27 3 := ⟨size_of (by kernel_rfl)⟩
instance cSpG : SpC 27 := ⟨size_pos (n := 2) (by kernel_rfl)⟩
instance cAlG : AlC 27 (.agg #[.int .i64 0, .int .i64 0, .slice none 0 0]) [.int .i64 0, .int .i64 0, .slice none 0 0] [I 0, I 0, vA (.slice none 0 0)] := ⟨by kernel_rfl, rfl, rfl⟩
abbrev gridA (w h : Int) (l : List Cell) : AV := aggA [I w, I h, slA cellT l]
instance cAgCs : AggC 25 false := ⟨agg_no (by kernel_rfl)⟩
instance cSpCs : SpC 25 := ⟨size_pos (n := 0) (by kernel_rfl)⟩
instance cAlC : AlC 42 (.agg #[.int .i32 0, .int .i64 0]) [.int .i32 0, .int .i64 0] [R 0, I 0] := ⟨by kernel_rfl, rfl, rfl⟩
theorem un_spans : Tryd.prog.underlying 118 = some (.array 11 117) := Tryd.underlying118
theorem un_span : Tryd.prog.underlying 117 = some (.array 2 21) := Tryd.underlying117
theorem sz_span : ∀ w, (sizeOf 117).run Tryd.prog w = .ok 2 w := size_of (by kernel_rfl)
theorem sz_i32 : ∀ w, (sizeOf 21).run Tryd.prog w = .ok 1 w := size_of (by kernel_rfl)
instance cSz2 : SzC 21 1 := ⟨sz_i32⟩
theorem sz_int : ∀ w, (sizeOf 3).run Tryd.prog w = .ok 1 w := size_of (by kernel_rfl)
instance cSz3 : SzC 3 1 := ⟨sz_int⟩
theorem og_spans {T0 : Gh} [c : TabS T0] {fr : Fr} : Opd T0 fr (.global 0) (ipA spansV) := opd_glob fun j v h => c.h _ _ _ (by simpa [tabS] using h)
theorem spans_at : ∀ (m : Nat) (p : Int × Int), spansL[m]? = some p → ((spansV.drop (m * 2)).drop (0 * 1))[0]? = some (.int .i32 p.1) ∧ ((spansV.drop (m * 2)).drop (1 * 1))[0]? = some (.int .i32 p.2) := by
  intro m p h
  have hm : m < 11 := (List.getElem?_eq_some_iff.1 h).1
  have hm' : m = 0 ∨ m = 1 ∨ m = 2 ∨ m = 3 ∨ m = 4 ∨ m = 5 ∨ m = 6 ∨ m = 7 ∨ m = 8 ∨ m = 9 ∨ m = 10 := by omega
  rcases hm' with rfl | rfl | rfl | rfl | rfl | rfl | rfl | rfl | rfl | rfl | rfl <;> (have h' := Option.some.inj h; subst h'; exact ⟨rfl, rfl⟩)
theorem og_first {T0 : Gh} [c : TabU T0] {fr : Fr} : Opd T0 fr (.global 2) (ipA firstV) := opd_glob fun j v h => c.h _ _ _ (by simpa [tabU] using h)
theorem og_acc {T0 : Gh} [c : TabU T0] {fr : Fr} : Opd T0 fr (.global 3) (ipA accV) := opd_glob fun j v h => c.h _ _ _ (by
  unfold tabU; rw [if_neg (by decide), if_pos rfl]; exact h)
section
variable {T0 : Gh} {fr : Fr} {M : List Own} {ops : Array Oper} {o : Oper}
theorem bs_cell1 {t : TypeId} {x : Operand} {r k : Int} (ho : o.op = .buildSlice t 1 #[(0, x)]) (hu : Tryd.prog.underlying t = some (.slice 42)) (hx : Opd T0 fr x (aggA [R r, I k])) : AY Tryd.prog T0 ops o fr M (slA cellT [(r, k)]) :=
  AY.sub (ay_buildSlice [(r, k)] ho hu el_cell rfl (by decide) ⟨_, pa0' hx rfl pa_nil, rfl⟩) sub_slc
theorem bs_cell2 {t : TypeId} {x y : Operand} {r k r' k' : Int} (ho : o.op = .buildSlice t 2 #[(0, x), (1, y)]) (hu : Tryd.prog.underlying t = some (.slice 42)) (hx : Opd T0 fr x (aggA [R r, I k])) (hy : Opd T0 fr y (aggA [R r', I k'])) : AY Tryd.prog T0 ops o fr M (slA cellT [(r, k), (r', k')]) :=
  AY.sub (ay_buildSlice [(r, k), (r', k')] ho hu el_cell rfl (by decide) ⟨_, pa0' hx rfl (pa_any hy ca_agg rfl rfl pa_nil), rfl⟩) sub_slc
/-- cells are compared -/
theorem fl_cell : (Tryd.prog.fieldsOf 42).toList = [{ name := "R", type := 21, offset := 0, embedded := false, tag := "", pkgPath := "", byteOffset := 0 }, { name := "K", type := 3, offset := 1, embedded := false, tag := "", pkgPath := "", byteOffset := 8 }] := by kernel_rfl
theorem eq_i32 (d : Nat) (a b : Int) (w : World) : (Op.equalIn (d + 1) 21 (.int .i32 a) (.int .i32 b)).run Tryd.prog w = .ok (a == b) w := run_equalIn_int w d _ .i32 .i32 a b Tryd.underlying21
theorem eq_int (d : Nat) (a b : Int) (w : World) : (Op.equalIn (d + 1) 3 (.int .i64 a) (.int .i64 b)).run Tryd.prog w = .ok (a == b) w := run_equalIn_int w d _ .i64 .i64 a b Tryd.underlying3
theorem run_cell_eq (d : Nat) (a b : Cell) (w : World) : (Op.equalIn (d + 2) 42 (.agg #[.int .i32 a.1, .int .i64 a.2]) (.agg #[.int .i32 b.1, .int .i64 b.2])).run Tryd.prog w = .ok (decide (a = b)) w := by
  rw [run_equalIn_agg _ _ _ _ _ (by kernel_rfl) (by kernel_rfl), fl_cell]
  obtain ⟨a1, a2⟩ := a
  obtain ⟨b1, b2⟩ := b
  simp [Op.eqFields, part, na_i32, na_int, eq_i32, eq_int]
  by_cases h1 : a1 = b1 <;> by_cases h2 : a2 = b2 <;> simp [h1, h2]
theorem eqg_cell (op : BinOp) (x y : Operand) (xs ys : Array Value) (w : World) : (eqGuard op 42 x y (.agg xs) (.agg ys)).run Tryd.prog w = .ok () w := run_eqGuard_agg w op _ x y xs ys (by kernel_rfl)
theorem ay_eql_cell {x y : Operand} {a1 a2 b1 b2 : Int} {t' : TypeId} (ho : o.op = .binOp .eql 42 x y t') (hx : Opd T0 fr x (aggA [R a1, I a2])) (hy : Opd T0 fr y (aggA [R b1, I b2])) : AY Tryd.prog T0 ops o fr M (B (decide (((a1, a2) : Cell) = (b1, b2)))) := ay_of fun w0 G F a w hs hf => by
  obtain ⟨us, h1, r1⟩ := (hx.use (o := o) (ops := ops) (by simp [ho, Op.operands]) hs.tab hf).agg
  obtain ⟨vs, h2, r2⟩ := (hy.use (o := o) (ops := ops) (by simp [ho, Op.operands]) hs.tab hf).agg
  obtain rfl := allRep_eq (zs := [.int .i32 a1, .int .i64 a2]) r1
  obtain rfl := allRep_eq (zs := [.int .i32 b1, .int .i64 b2]) r2
  have h3 := run_cell_eq 9998 (a1, a2) (b1, b2) w
  refine ⟨_, ?_, Rep.va _ _⟩
  simp only [execOp, ho, h1, h2, Sem.run_bind, eqg_cell, Result.andThen_ok, run_eql_struct, h3, Sem.run_pure]
theorem ay_neq_cell {x y : Operand} {a1 a2 b1 b2 : Int} {t' : TypeId} (ho : o.op = .binOp .neq 42 x y t') (hx : Opd T0 fr x (aggA [R a1, I a2])) (hy : Opd T0 fr y (aggA [R b1, I b2])) : AY Tryd.prog T0 ops o fr M (B (!decide (((a1, a2) : Cell) = (b1, b2)))) := ay_of fun w0 G F a w hs hf => by
  obtain ⟨us, h1, r1⟩ := (hx.use (o := o) (ops := ops) (by simp [ho, Op.operands]) hs.tab hf).agg
  obtain ⟨vs, h2, r2⟩ := (hy.use (o := o) (ops := ops) (by simp [ho, Op.operands]) hs.tab hf).agg
  obtain rfl := allRep_eq (zs := [.int .i32 a1, .int .i64 a2]) r1
  obtain rfl := allRep_eq (zs := [.int .i32 b1, .int .i64 b2]) r2
  have h3 := run_cell_eq 9998 (a1, a2) (b1, b2) w
  refine ⟨_, ?_, Rep.va _ _⟩
  simp only [execOp, ho, h1, h2, Sem.run_bind, eqg_cell, Result.andThen_ok, run_neq_struct, h3, Sem.run_pure]
theorem ek_cell {a1 a2 b1 b2 : Int} : EqK Tryd.prog 42 (aggA [R a1, I a2]) (aggA [R b1, I b2]) (decide (((a1, a2) : Cell) = (b1, b2))) := fun _ _ _ _ _ _ _ _ hx hy => ⟨fun ho => ay_eql_cell ho hx hy, fun ho => ay_neq_cell ho hx hy⟩
end
end
/- The logic's steps, each as one rule that finds its own side conditions. No condition. -/
section
open Go Go.RowKit
section
variable {P : Program} {T0 : Gh} {N : Fz} {Q : Post} {fr : Fr} {M M' : List Own} {ops : Array Oper} {o : Oper} {rest : List Oper} {x0 : Nat}
/-! ### a condition, told plainly -/
structure Nice (c : Bool) (p q : Prop) : Prop where
  t : c = true → p
  f : c = false → q
theorem nice_t : Nice true True False := ⟨fun _ => trivial, fun h => (nomatch h)⟩
theorem nice_f : Nice false False True := ⟨fun h => (nomatch h), fun _ => trivial⟩
theorem nice_d {p : Prop} [Decidable p] : Nice (decide p) p (¬ p) := ⟨of_decide_eq_true, of_decide_eq_false⟩
theorem nice_not {c : Bool} {p q : Prop} (h : Nice c p q) : Nice (!c) q p := ⟨fun e => h.f (by cases c <;> simp_all), fun e => h.t (by cases c <;> simp_all)⟩
theorem nice_and {a b : Bool} {p q p' q' : Prop} (h : Nice a p q) (k : Nice b p' q') : Nice (a && b) (p ∧ p') (q ∨ q') := ⟨fun e => (by cases a <;> cases b <;> first | exact ⟨h.t rfl, k.t rfl⟩ | (cases e)), fun e => by
  cases a
  · exact .inl (h.f rfl)
  · cases b
    · exact .inr (k.f rfl)
    · cases e⟩
theorem nice_or {a b : Bool} {p q p' q' : Prop} (h : Nice a p q) (k : Nice b p' q') : Nice (a || b) (p ∨ p') (q ∧ q') := ⟨fun e => by
  cases a
  · cases b
    · cases e
    · exact .inr (k.t rfl)
  · exact .inl (h.t rfl), fun e => (by cases a <;> cases b <;> first | exact ⟨h.f rfl, k.f rfl⟩ | (cases e))⟩
theorem nice_tand {a : Bool} {p q : Prop} (h : Nice a p q) : Nice (true && a) p q := ⟨fun e => h.t (by simpa using e), fun e => h.f (by simpa using e)⟩
theorem nice_eqt {c : Bool} {p q : Prop} (h : Nice c p q) : Nice (c == true) p q := ⟨fun e => h.t (by simpa using e), fun e => h.f (by simpa using e)⟩
theorem nice_eqf {c : Bool} {p q : Prop} (h : Nice c p q) : Nice (c == false) q p := ⟨fun e => h.f (by simpa using e), fun e => h.t (by simpa using e)⟩
theorem nice_b {c : Bool} : Nice c (c = true) (c = false) := ⟨id, id⟩
theorem nice_ {c : Bool} {p q : Prop} (h : Nice c p q := by
  first
  | (with_reducible repeat' (first
     | exact nice_t
     | exact nice_f
     | exact nice_d
     | apply nice_not
     | apply nice_tand
     | apply nice_and
     | apply nice_or
     | apply nice_eqt
     | apply nice_eqf
     | exact nice_b)
     done)
  | fail) : Nice c p q := h
theorem aw_if {t : Nat} {x y : Code} {c : Bool} {p q : Prop} (ht : p → AW P T0 N x Q fr M) (hf : q → AW P T0 N y Q fr M) (hc : fr.get t = some (B c) := by rfl) (hn : Nice c p q := by first | exact nice_ | fail) : AW P T0 N (.cond (.tmp t) x y) Q fr M := aw_cond hc (fun e => ht (hn.t e)) (fun e => hf (hn.f e))
/-! ### side conditions -/
/-- a list that is told to its end -/
def known {α : Type _} : List α → Bool
  | [] => true
  | _ :: l => known l
theorem hk_ {p : Prop} (h : p := by
  first
  | (first
     | assumption
     | (refine gd ?_ ?_ <;> assumption)
     | (refine gd rfl ?_; assumption)
     | (apply gl; assumption)
     | (refine gd (by apply gl; assumption) ?_; assumption)
     done)
  | fail) : p := h
theorem oo_ {x : Operand} {A : AV} (h : Opd T0 fr x A := by
  first
  | exact od rfl
  | (refine og rfl ?_; exact hk_)
  | fail) : Opd T0 fr x A := h
theorem oog_ {x : Operand} {A : AV} (h : Opd T0 fr x A := by
  first
  | (refine og rfl ?_; exact hk_)
  | exact od rfl
  | fail) : Opd T0 fr x A := h
theorem ol_ {x : Operand} {A : AV} (h : Opd T0 fr x A := by
  first
  | (apply odl rfl; with_reducible rfl)
  | exact od rfl
  | (refine og rfl ?_; exact hk_)
  | fail) : Opd T0 fr x A := h
theorem on_ {x : Operand} {k : IntKind} {n : Nat} (h : OpdN T0 fr x k n := by
  first
  | (apply odln rfl; with_reducible rfl)
  | exact odn rfl
  | (refine ogn rfl ?_; exact hk_)
  | fail) : OpdN T0 fr x k n := h
theorem ong_ {x : Operand} {k : IntKind} {n : Nat} (h : OpdN T0 fr x k n := by
  first
  | (refine ogn rfl ?_; exact hk_)
  | (apply odln rfl; with_reducible rfl)
  | exact odn rfl
  | fail) : OpdN T0 fr x k n := h
theorem os_ {xs : List Operand} {l : List AV} (hb : known xs = true := by rfl) (h : OpdAll T0 fr xs l := by
  first
  | (repeat' (first
     | exact opds0
     | apply opds1 oo_)
     done)
  | fail) : OpdAll T0 fr xs l := h
theorem osg_ {xs : List Operand} {l : List AV} (hb : known xs = true := by rfl) (h : OpdAll T0 fr xs l := by
  first
  | (repeat' (first
     | exact opds0
     | apply opds1 oog_)
     done)
  | fail) : OpdAll T0 fr xs l := h
theorem gb_ {p : Prop} (h : p := by
  first
  | (first
     | omega
     | (simp only [List.length_append, List.length_nil, List.length_cons, List.nil_append, List.length_replicate, List.length_set, List.length_take, List.length_drop]; omega)
     done)
  | fail) : p := h
theorem fit_ {k : IntKind} {n : Int} (h : Fit k n := by
  first
  | (first
     | exact fit64 (by omega) (by omega)
     | exact fit32 (by omega) (by omega)
     | exact fit8 (by omega) (by omega)
     done)
  | fail) : Fit k n := h
theorem wk_ {fr' : Fr} (hb : known fr' = true := by rfl) (h : Weak fr fr' := by
  first
  | (repeat' (first
     | exact weak_nil
     | refine weak_cons rfl ?_)
     done)
  | fail) : Weak fr fr' := h
theorem sl_ {α : Type _} {l m : List α} (hb : known m = true := by rfl) (h : List.Sublist l m := by
  first
  | (repeat' (first
     | exact List.nil_sublist _
     | apply List.Sublist.cons_cons
     | apply List.Sublist.cons)
     done)
  | fail) : List.Sublist l m := h
theorem mem_ {α : Type _} {x : α} {l : List α} (hb : known l = true := by rfl) (h : x ∈ l := by
  first
  | (repeat' (first
     | exact List.Mem.head _
     | apply List.Mem.tail)
     done)
  | fail) : x ∈ l := h
theorem upf_ {m : Own} {f : Own → List Own} (hb : known M = true := by rfl) (h : UpdF m M f := by
  first
  | (repeat' (first
     | exact UpdF.here
     | apply UpdF.next)
     done)
  | fail) : UpdF m M f := h
theorem pick_ {m : Own} (hb : known M = true := by rfl) (h : Pick m M M' := by
  first
  | (repeat' (first
     | exact Pick.here
     | apply Pick.next)
     done)
  | fail) : Pick m M M' := h
theorem setc_ {s l r : List AV} {n : Nat} (hb : known s = true := by rfl) (h : SetC s n l r := by
  first
  | (repeat' (first
     | exact sc_0
     | apply SetC.here
     | apply SetC.next)
     done)
  | fail) : SetC s n l r := h
theorem subc_ {s r : List AV} {off n : Nat} (hb : known s = true := by rfl) (h : SubC s off n r := by
  first
  | (repeat' (first
     | exact SubC.nil
     | apply SubC.here
     | apply SubC.next)
     done)
  | fail) : SubC s off n r := h
theorem cam_ {A : AV} {l : List AV} (h : CellsA A l := by
  first
  | (first
     | exact ca_agg
     | exact ca_v rfl
     | exact ca_v (by assumption)
     | exact ca_sl
     | exact ca_slc
     done)
  | fail) : CellsA A l := h
theorem ca_cellA {c : Cell} : CellsA (cellA c) ((cellT.enc c).map vA) := ca_agg
theorem cae_ {A : AV} {l : List AV} (h : CellsA A l := by
  first
  | (first
     | exact ca_cellA
     | exact ca_cell
     | exact ca_agg
     | exact ca_v (by rfl)
     done)
  | fail) : CellsA A l := h
theorem ones_ {l : List AV} (hb : known l = true := by rfl) (h : OnesA l := by
  first
  | (repeat' (first
     | exact ones0
     | apply ones1
     | exact one_v rfl
     | exact one_v (by assumption)
     | exact one_sl
     | exact one_slc)
     done)
  | fail) : OnesA l := h
theorem px_ {pl : List (Nat × Nat)} {r : List (Nat × Operand)} {acc res : List AV} (hb : known r = true := by rfl) (h : PartsA T0 fr pl r acc res := by
  first
  | (repeat' (first
     | exact pa_nil
     | apply pk oo_ cam_ rfl setc_)
     done)
  | fail) : PartsA T0 fr pl r acc res := h
theorem fza_ {α : Type} {T : Ty α} {l : List α} {F : Value → AV} {A' : AV} (h : ∀ u, FzA u T l (F u) A' := by
  first
  | (intro u
     repeat' (first
     | exact fz_here
     | apply fz_agg
     | apply fz_tup
     | exact fzl_nil
     | apply fzl_cons
     | exact fz_keep)
     done)
  | fail) : ∀ u, FzA u T l (F u) A' := h
theorem rs_ {fn : Func} {A : AV} (h : ResA Tryd.prog T0 fn fr M A := by
  first
  | (first
     | exact res1 rfl rfl
     | exact res2 rfl rfl rfl
     | exact res3 rfl rfl rfl rfl
     | exact res0 rfl
     | ((first
         | apply resM1 rfl rfl
         | apply resM2 rfl rfl rfl) <;> (repeat' (first
           | exact List.Mem.head _
           | apply List.Mem.tail
           | exact agg_
           | exact sz_
           | rfl)); done)
     done)
  | fail) : ResA Tryd.prog T0 fn fr M A := h
theorem ge_ {α : Type} {l : List α} {i : Nat} {c : α} (h : l[i]? = some c := by
  first
  | (first
     | assumption
     | exact c_in gb_
     | exact List.getElem?_eq_getElem gb_
     | exact get_in gb_
     | exact rfl
     done)
  | fail) : l[i]? = some c := h
/-! ### an operation that is quiet -/
theorem QY.sub {A A' : AV} (h : QY P T0 ops o fr M A) (s : Sub A A') : QY P T0 ops o fr M A' := fun w0 G F a w hs hf =>
  let ⟨h1, h2⟩ := h w0 G F a w hs hf
  ⟨fun hw next Qc k => h1 hw next Qc fun G' u w' hl hs' hu => k G' u w' hl hs' (s _ _ hu), fun hw => s _ _ (h2 hw)⟩
/-- it is carried out just if k -/
def GK (P : Program) (T0 : Gh) (ops : Array Oper) (o : Oper) (fr : Fr) (k : Bool) : Prop := ∀ (M : List Own) (A : AV), (k = true → AY P T0 ops o fr M A) → QY P T0 ops o fr M (gvA k A)
theorem sub_gvt {A : AV} : Sub A (gvA true A) := fun _ _ h => .of ⟨fun _ => h, fun e => (nomatch e)⟩
theorem gvt_sub {A : AV} : Sub (gvA true A) A := fun _ _ h => h.gv.1 rfl
theorem gk_plain (hg : o.guard = none) : GK P T0 ops o fr true := fun _ _ h => (qy_plain hg (h rfl)).sub sub_gvt
theorem gk_run {g t : Nat} {want k c : Bool} (hg : o.guard = some (g, want)) (ht : (ops[g]?).bind (·.dst) = some t) (hs : GuardIs fr t k c) (hc : (k && (c == want)) = true) : GK P T0 ops o fr true := fun _ _ h => (qy_run hg ht hs hc (h rfl)).sub sub_gvt
theorem gk_gv {g t : Nat} {want k c : Bool} (hg : o.guard = some (g, want)) (ht : (ops[g]?).bind (·.dst) = some t) (hs : GuardIs fr t k c) : GK P T0 ops o fr (k && (c == want)) := fun _ _ h => qy_gv hg ht hs h
theorem gk_ {k : Bool} (h : GK P T0 ops o fr k := by
  first
  | (first
     | exact gk_plain rfl
     | exact gk_run rfl rfl (guard_b rfl) rfl
     | exact gk_gv rfl rfl (guard_b rfl)
     | exact gk_gv rfl rfl (guard_gv rfl)
     done)
  | fail) : GK P T0 ops o fr k := h
inductive OutK : Bool → AV → AV → Prop
  | t {A : AV} : OutK true A A
  | g {k : Bool} {A : AV} : OutK k A (gvA k A)
theorem OutK.qy {k : Bool} {A A' : AV} (h : OutK k A A') (q : QY P T0 ops o fr M (gvA k A)) : QY P T0 ops o fr M A' := by
  cases h
  · exact q.sub gvt_sub
  · exact q
theorem al_k {d : Bool} {A A' : AV} {k : Bool} (hg : GK P T0 ops o fr k) (hy : k = true → AY P T0 ops o fr M A) (hA : OutK k A A') (hx : o.dst = some x0) (hd : Nat.blt x0 N.n = true) (h : AL P T0 N d ops Q rest ((x0, A') :: fr) M) : AL P T0 N d ops Q (o :: rest) fr M := al_y (hA.qy (hg M A hy)) hx hd h
theorem s_skip {d : Bool} (h : AL P T0 N d ops Q rest ((x0, anyA) :: fr) M) (hs : QY P T0 ops o fr M anyA := by first | exact qy_skip rfl rfl (guard_b rfl) rfl | fail) (hx : o.dst = some x0 := by rfl) (hd : Nat.blt x0 N.n = true := by rfl) : AL P T0 N d ops Q (o :: rest) fr M := al_y hs hx hd h
end
section
variable {T0 : Gh} {N : Fz} {Q : Post} {fr : Fr} {M M' : List Own} {ops : Array Oper} {o : Oper} {rest : List Oper} {x0 : Nat}
/-! ### what an operation rests on -/
theorem lt_ {a b : Nat} (h : a < b := by
  first
  | exact gb_
  | fail) : a < b := h
theorem le_ {a b : Nat} (h : a ≤ b := by
  first
  | exact gb_
  | fail) : a ≤ b := h
theorem lo_ {x : Option Operand} {n : Nat} (h : loOf x n T0 fr := by
  first
  | exact lo_none
  | (apply lo_k; exact on_)
  | fail) : loOf x n T0 fr := h
theorem hi_ {x : Option Operand} {n m : Nat} (h : hiOf x n m T0 fr := by
  first
  | exact hi_none
  | (apply hi_k; exact on_)
  | fail) : hiOf x n m T0 fr := h
theorem oop_ {b v : Bool} {x : Operand} {A : AV} (h : b = v → Opd T0 fr x A := by
  first
  | (intro hp
     exact oog_)
  | fail) : b = v → Opd T0 fr x A := h
theorem log_ {x : Option Operand} {n : Nat} (h : loOf x n T0 fr := by
  first
  | exact lo_none
  | (apply lo_k; exact ong_)
  | fail) : loOf x n T0 fr := h
theorem hig_ {x : Option Operand} {n m : Nat} (h : hiOf x n m T0 fr := by
  first
  | exact hi_none
  | (apply hi_k; exact ong_)
  | fail) : hiOf x n m T0 fr := h
theorem ld_ {t : TypeId} {A R : AV} (h : LdK Tryd.prog T0 M t A R := by
  first
  | exact lk_el el_
  | exact lk_1 agg_
  | (apply v1_; exact mem_; rfl)
  | (apply vn_; exact mem_; exact subc_)
  | (apply mk_r el_; exact mem_; exact ge_)
  | (apply r1_; exact mem_; exact ge_; rfl)
  | fail) : LdK Tryd.prog T0 M t A R := h
theorem ix_ {t : TypeId} {A R : AV} {n : Nat} (h : IxK Tryd.prog T0 M t A n R := by
  first
  | (apply ik_sl un_ el_; exact ge_)
  | (apply mk_ix un_ el_; exact mem_; exact lt_)
  | (apply ik_sub un_ el_; exact lt_)
  | fail) : IxK Tryd.prog T0 M t A n R := h
theorem fa_ {t i : Nat} {A R : AV} (h : FaK Tryd.prog T0 M t i A R := by
  first
  | exact ak_ip fl_ sp_
  | exact ak_var fl_ sp_
  | exact ak_row fl_ sp_
  | fail) : FaK Tryd.prog T0 M t i A R := h
theorem fd_ {t i : Nat} {l : List AV} {R : AV} (h : FdK Tryd.prog T0 M t i l R := by
  first
  | exact dk_1 fl_ agg_ rfl
  | (apply fn_; exact subc_)
  | fail) : FdK Tryd.prog T0 M t i l R := h
theorem ln_ {t : TypeId} {A R : AV} (h : LnK Tryd.prog T0 M t A R := by
  first
  | exact nk_sl un_
  | (apply mk_len un_; exact mem_)
  | exact nk_sub un_
  | exact nk_str un_
  | fail) : LnK Tryd.prog T0 M t A R := h
theorem eq_ {t : TypeId} {A A' : AV} {b : Bool} (h : EqK Tryd.prog t A A' b := by
  first
  | exact ek_int
  | exact ek_bool un_
  | exact ek_cell
  | exact ek_str
  | exact ek_cmd
  | fail) : EqK Tryd.prog t A A' b := h
theorem y_ {A : AV} (h : AY Tryd.prog T0 ops o fr M A := by
  first
  | (apply ay_move rfl; exact oo_)
  | (apply ay_assign rfl; exact oo_)
  | (apply k_ld rfl; exact oo_; exact ld_)
  | (apply k_fd rfl; exact oo_; exact fd_)
  | (apply k_fa rfl; exact oo_; exact fa_)
  | (apply k_ix rfl; exact oo_; exact on_; exact ix_)
  | (apply k_len rfl; exact oo_; exact ln_)
  | (apply ay_lss rfl; exact oo_; exact oo_)
  | (apply ay_leq rfl; exact oo_; exact oo_)
  | (apply ay_gtr rfl; exact oo_; exact oo_)
  | (apply ay_geq rfl; exact oo_; exact oo_)
  | (apply k_eql rfl; exact oo_; exact oo_; exact eq_)
  | (apply k_neq rfl; exact oo_; exact oo_; exact eq_)
  | (apply ay_not rfl; exact oo_)
  | (apply ay_and rfl; exact oo_; exact oop_)
  | (apply ay_or rfl; exact oo_; exact oop_)
  | (apply ay_build rfl st_; exact px_; done)
  | (apply ay_extract rfl; exact oo_; rfl)
  | (apply ay_slice rfl un_ el_; exact oo_; exact lo_; exact hi_; exact le_; exact le_; done)
  | (apply bs_cell1 rfl un_; exact oo_; done)
  | (apply bs_cell2 rfl un_; exact oo_; exact oo_; done)
  | (apply kn_add rfl; exact on_; exact on_; exact fit_)
  | (apply kn_sub rfl; exact on_; exact on_; exact le_; exact fit_)
  | (apply kn_mul rfl; exact on_; exact on_; exact fit_)
  | (apply kn_quo rfl; exact on_; exact on_; exact lt_; exact fit_)
  | (apply kn_rem rfl; exact on_; exact on_; exact lt_)
  | (apply kn_min rfl; exact on_; exact on_)
  | (apply my_slice rfl un_ el_; exact oo_; exact mem_; exact on_; exact on_; exact lt_; exact le_; done)
  | (apply ay_idx_str rfl un_; exact oo_; exact on_; exact ge_; done)
  | (apply ay_cut_str rfl un_; exact oo_; exact lo_; exact hi_; exact le_; exact le_; done)
  | (apply ay_cat rfl; exact oo_; exact oo_; exact le_)
  | (apply ay_conv rfl un_ un_; exact oo_; exact fit_; done)
  | (apply ay_conv_sign rfl un_ un_; exact oo_; done)
  | (apply ay_conv_bytes rfl un_ un_ un_; exact oo_; done)
  | (apply ay_neg rfl; exact oo_; exact fit_)
  | (apply ay_add rfl; exact oo_; exact oo_; exact fit_)
  | (apply ay_sub rfl; exact oo_; exact oo_; exact fit_)
  | (apply ay_mul rfl; exact oo_; exact oo_; exact fit_)
  | (apply ay_quo rfl; exact oo_; exact oo_; exact ile_; exact ilt_; exact fit_)
  | (apply ay_rem rfl; exact oo_; exact oo_; exact ile_; exact ilt_)
  | fail) : AY Tryd.prog T0 ops o fr M A := h
theorem yg_ {A : AV} (h : AY Tryd.prog T0 ops o fr M A := by
  first
  | (apply ay_move rfl; exact oog_)
  | (apply ay_assign rfl; exact oog_)
  | (apply k_ld rfl; exact oog_; exact ld_)
  | (apply k_fd rfl; exact oog_; exact fd_)
  | (apply k_fa rfl; exact oog_; exact fa_)
  | (apply k_ix rfl; exact oog_; exact ong_; exact ix_)
  | (apply k_len rfl; exact oog_; exact ln_)
  | (apply ay_lss rfl; exact oog_; exact oog_)
  | (apply ay_leq rfl; exact oog_; exact oog_)
  | (apply ay_gtr rfl; exact oog_; exact oog_)
  | (apply ay_geq rfl; exact oog_; exact oog_)
  | (apply k_eql rfl; exact oog_; exact oog_; exact eq_)
  | (apply k_neq rfl; exact oog_; exact oog_; exact eq_)
  | (apply ay_not rfl; exact oog_)
  | (apply ay_and rfl; exact oog_; exact oop_)
  | (apply ay_or rfl; exact oog_; exact oop_)
  | (apply ay_build rfl st_; exact pxg_; done)
  | (apply ay_extract rfl; exact oog_; rfl)
  | (apply ay_slice rfl un_ el_; exact oog_; exact log_; exact hig_; exact le_; exact le_; done)
  | (apply bs_cell1 rfl un_; exact oog_; done)
  | (apply bs_cell2 rfl un_; exact oog_; exact oog_; done)
  | (apply kn_add rfl; exact ong_; exact ong_; exact fit_)
  | (apply kn_sub rfl; exact ong_; exact ong_; exact le_; exact fit_)
  | (apply kn_mul rfl; exact ong_; exact ong_; exact fit_)
  | (apply kn_quo rfl; exact ong_; exact ong_; exact lt_; exact fit_)
  | (apply kn_rem rfl; exact ong_; exact ong_; exact lt_)
  | (apply kn_min rfl; exact ong_; exact ong_)
  | (apply my_slice rfl un_ el_; exact oog_; exact mem_; exact ong_; exact ong_; exact lt_; exact le_; done)
  | (apply ay_idx_str rfl un_; exact oog_; exact ong_; exact ge_; done)
  | (apply ay_cut_str rfl un_; exact oog_; exact log_; exact hig_; exact le_; exact le_; done)
  | (apply ay_cat rfl; exact oog_; exact oog_; exact le_)
  | (apply ay_conv rfl un_ un_; exact oog_; exact fit_; done)
  | (apply ay_conv_sign rfl un_ un_; exact oog_; done)
  | (apply ay_conv_bytes rfl un_ un_ un_; exact oog_; done)
  | (apply ay_neg rfl; exact oog_; exact fit_)
  | (apply ay_add rfl; exact oog_; exact oog_; exact fit_)
  | (apply ay_sub rfl; exact oog_; exact oog_; exact fit_)
  | (apply ay_mul rfl; exact oog_; exact oog_; exact fit_)
  | (apply ay_quo rfl; exact oog_; exact oog_; exact ile_; exact ilt_; exact fit_)
  | (apply ay_rem rfl; exact oog_; exact oog_; exact ile_; exact ilt_)
  | fail) : AY Tryd.prog T0 ops o fr M A := h
theorem gk1_ (h : GK Tryd.prog T0 ops o fr true := by
  first
  | exact gk_plain rfl
  | exact gk_run rfl rfl (guard_b rfl) rfl
  | fail) : GK Tryd.prog T0 ops o fr true := h
theorem al_1 {d : Bool} {A : AV} (hg : GK Tryd.prog T0 ops o fr true) (hy : AY Tryd.prog T0 ops o fr M A) (hx : o.dst = some x0) (hd : Nat.blt x0 N.n = true) (h : AL Tryd.prog T0 N d ops Q rest ((x0, A) :: fr) M) : AL Tryd.prog T0 N d ops Q (o :: rest) fr M := al_k hg (fun _ => hy) OutK.t hx hd h
theorem s_y {d : Bool} {A : AV} (h : AL Tryd.prog T0 N d ops Q rest ((x0, A) :: fr) M) (hg : GK Tryd.prog T0 ops o fr true := by first | exact gk1_ | fail) (hy : AY Tryd.prog T0 ops o fr M A := by first | exact y_ | fail) (hx : o.dst = some x0 := by rfl) (hd : Nat.blt x0 N.n = true := by rfl) : AL Tryd.prog T0 N d ops Q (o :: rest) fr M := al_1 hg hy hx hd h
/-- one that is told by its own rule -/
theorem s_op {d : Bool} {A : AV} (h : AL Tryd.prog T0 N d ops Q rest ((x0, A) :: fr) M) (hg : GK Tryd.prog T0 ops o fr true := by first | exact gk1_ | fail) (hy : AY Tryd.prog T0 ops o fr M A) (hx : o.dst = some x0 := by rfl) (hd : Nat.blt x0 N.n = true := by rfl) : AL Tryd.prog T0 N d ops Q (o :: rest) fr M := al_1 hg hy hx hd h
/-- a call -/
theorem s_call {d : Bool} {A : AV} {f : FuncId} {args : Array Operand} {ts : Array TypeId} {As : List AV} (h : AL Tryd.prog T0 N d ops Q rest ((x0, A) :: fr) M) (ho : o.op = .call { callee := .value (.func f), args := args, argTypes := ts } := by rfl) (hg : GK Tryd.prog T0 ops o fr true := by first | exact gk1_ | fail) (ha : OpdAll T0 fr args.toList As := by first | exact os_ | fail) (c : AP Tryd.prog T0 f As A) (hx : o.dst = some x0 := by rfl) (hd : Nat.blt x0 N.n = true := by rfl) : AL Tryd.prog T0 N d ops Q (o :: rest) fr M := al_1 hg (ay_call ho ha c) hx hd h
/-- the same under a guard that is not known -/
theorem s_yg {d : Bool} {A : AV} {k : Bool} {p q : Prop} (h : AL Tryd.prog T0 N d ops Q rest ((x0, gvA k A) :: fr) M) (hg : GK Tryd.prog T0 ops o fr k := by first | exact gk_ | fail) (hn : Nice k p q := by first | exact nice_ | fail) (hy : k = true → p → AY Tryd.prog T0 ops o fr M A := by
  first
  | (intro hk hk2
     exact yg_)
  | fail) (hx : o.dst = some x0 := by rfl) (hd : Nat.blt x0 N.n = true := by rfl) : AL Tryd.prog T0 N d ops Q (o :: rest) fr M := al_k hg (fun e => hy e (hn.t e)) OutK.g hx hd h
theorem s_opg {d : Bool} {A : AV} {k : Bool} {p q : Prop} (h : AL Tryd.prog T0 N d ops Q rest ((x0, gvA k A) :: fr) M) (hg : GK Tryd.prog T0 ops o fr k := by first | exact gk_ | fail) (hn : Nice k p q := by first | exact nice_ | fail) (hy : k = true → p → AY Tryd.prog T0 ops o fr M A) (hx : o.dst = some x0 := by rfl) (hd : Nat.blt x0 N.n = true := by rfl) : AL Tryd.prog T0 N d ops Q (o :: rest) fr M := al_k hg (fun e => hy e (hn.t e)) OutK.g hx hd h
theorem s_callg {d : Bool} {A : AV} {k : Bool} {p q : Prop} {f : FuncId} {args : Array Operand} {ts : Array TypeId} {As : List AV} (h : AL Tryd.prog T0 N d ops Q rest ((x0, gvA k A) :: fr) M) (ho : o.op = .call { callee := .value (.func f), args := args, argTypes := ts } := by rfl) (hg : GK Tryd.prog T0 ops o fr k := by first | exact gk_ | fail) (hn : Nice k p q := by first | exact nice_ | fail) (ha : k = true → OpdAll T0 fr args.toList As := by
  first
  | (intro hk
     exact osg_)
  | fail) (c : k = true → p → AP Tryd.prog T0 f As A) (hx : o.dst = some x0 := by rfl) (hd : Nat.blt x0 N.n = true := by rfl) : AL Tryd.prog T0 N d ops Q (o :: rest) fr M := al_k hg (fun e => ay_call ho (ha e) (c e (hn.t e))) OutK.g hx hd h
/-- are there writings ahead of the last operation? -/
def noisyB : List Oper → Bool
  | [] => false
  | [_] => false
  | o :: l => (match o.op with | .store _ _ _ => true | _ => false) || noisyB l
theorem aw_region1q {id : Nat} {l : List Oper} (hn : noisyB l = false) (hm : Tryd.prog.follows .mixedOrders = true) (hB : Region.lexB .any l.toArray = true) (h : AL Tryd.prog T0 N true l.toArray Q l fr M) : AW Tryd.prog T0 N (.region id l.toArray true) Q fr M := aw_region1 hm hB h
/-- the ways of control -/
theorem c_ {p q : Prop} (h : q) (k : q → p := by
  first
  | (intro hh
     first
     | refine aw_seq ?_ | refine aw_region0 ?_ | refine al_nil ?_ | refine th_n ?_ | refine th_e ?_ | refine th_r ?_ | refine ib_n ?_ | refine ib_e rfl ?_ | refine ib_e' rfl ?_ | refine ib_r ?_ | refine aw_block ?_ | refine aw_exit ?_ | refine aw_ret ?_ | refine aw_skip ?_
     | (apply aw_region1q (by rfl) (by kernel_rfl) (by kernel_rfl))
     repeat (first
       | refine aw_seq ?_ | refine aw_region0 ?_ | refine al_nil ?_ | refine th_n ?_ | refine th_e ?_ | refine th_r ?_ | refine ib_n ?_ | refine ib_e rfl ?_ | refine ib_e' rfl ?_ | refine ib_r ?_ | refine aw_block ?_ | refine aw_exit ?_ | refine aw_ret ?_ | refine aw_skip ?_
       | (apply aw_region1q (by rfl) (by kernel_rfl) (by kernel_rfl)))
     exact hh
     done)
  | fail) : p := k h
/-! ### steps that write -/
theorem w_alloc {e : TypeId} {z : Value} {zs : List Value} {Z : List AV} [c : AlC e z zs Z] (h : ∀ b, AL Tryd.prog T0 N false ops Q rest ((x0, vA (.pointer (some ⟨b, 0, none⟩))) :: fr) (varO b e Z :: M)) (ho : o.op = .alloc e := by rfl) (hg : o.guard = none := by rfl) (hd : o.dst = some x0 := by rfl) (hN : Nat.blt x0 N.n = true := by rfl) : AL Tryd.prog T0 N false ops Q (o :: rest) fr M := al_alloc hg hd hN ho c.h h
theorem w_box {e : TypeId} {x : Operand} {A : AV} {l : List AV} (h : ∀ b, AL Tryd.prog T0 N false ops Q rest ((x0, vA (.pointer (some ⟨b, 0, none⟩))) :: fr) (varO b e l :: M)) (ho : o.op = .box e x := by rfl) (hg : o.guard = none := by rfl) (hd : o.dst = some x0 := by rfl) (hN : Nat.blt x0 N.n = true := by rfl) (hx : Opd T0 fr x A := by first | exact oo_ | fail) (hc : CellsA A l := by first | exact cam_ | fail) : AL Tryd.prog T0 N false ops Q (o :: rest) fr M := al_box hg hd hN ho hx hc h
theorem w_stv {t e : TypeId} {x y : Operand} {b off n : Nat} {cells cells' l : List AV} {A : AV} {f : Own → List Own} (h : AL Tryd.prog T0 N false ops Q rest fr (f (varO b e cells'))) (ho : o.op = .store t x y := by rfl) (hg : o.guard = none := by rfl) (hd : o.dst = none := by rfl) (hx : Opd T0 fr x (vA (.pointer (some ⟨b, off, none⟩))) := by first | exact oo_ | fail) (hz : ∀ w, (sizeOf t).run Tryd.prog w = .ok n w := by first | exact sz_ | fail) (hy : Opd T0 fr y A := by first | exact oo_ | fail) (hc : CellsA A l := by first | exact cam_ | fail) (hl : l.length = n := by rfl) (h1 : OnesA l := by first | exact ones_ | fail) (hU : UpdF (varO b e cells) M f := by first | exact upf_ | fail) (hs : SetC cells off l cells' := by first | exact setc_ | fail) : AL Tryd.prog T0 N false ops Q (o :: rest) fr M := al_store_var hg hd ho hz hx hy hc hl h1 hU hs h
theorem w_str {α : Type} {T : Ty α} {e : TypeId} {x y : Operand} {l : List α} {d z : α} {by' : Nat} {av : α → AV} {n : Nat} {u : Value} {A : AV} {f : Own → List Own} (h : AL Tryd.prog T0 N false ops Q rest fr (f (rowO T e u (l.set n z)))) (ho : o.op = .store e x y := by rfl) (hg : o.guard = none := by rfl) (hd : o.dst = none := by rfl) (he : El Tryd.prog T e d by' av := by first | exact el_ | fail) (hx : Opd T0 fr x (rpA u (n * T.k)) := by first | exact oo_ | fail) (hy : Opd T0 fr y A := by first | exact oo_ | fail) (hU : UpdF (rowO T e u l) M f := by first | exact upf_ | fail) (hn : n < l.length := by first | exact gb_ | fail) (hc : CellsA A ((T.enc z).map vA) := by first | exact cae_ | fail) : AL Tryd.prog T0 N false ops Q (o :: rest) fr M := al_store_row hg hd ho he hx hy hU hn hc h
theorem w_make {α : Type} {T : Ty α} {t e : TypeId} {x y : Operand} {n : Nat} {d : α} {by' : Nat} {av : α → AV} {k k' : IntKind} (h : ∀ u', u'.cells = #[u'] → u'.oneCell' = true → AL Tryd.prog T0 N false ops Q rest ((x0, vA u') :: fr) (rowO T e u' (List.replicate n d) :: M)) (ho : o.op = .makeSlice t x y := by rfl) (hg : o.guard = none := by rfl) (hd : o.dst = some x0 := by rfl) (hN : Nat.blt x0 N.n = true := by rfl) (hu : Tryd.prog.underlying t = some (.slice e) := by first | exact un_ | fail) (he : El Tryd.prog T e d by' av := by first | exact el_ | fail)
    (hx : OpdN T0 fr x k n := by first | exact on_ | fail) (hy : OpdN T0 fr y k' n := by first | exact on_ | fail) (hn : by' * n ≤ 140737488355328 := by omega) (hm : n ≤ maxLen := by
      first
      | (simp only [maxLen]
         omega
         done)
      | fail) : AL Tryd.prog T0 N false ops Q (o :: rest) fr M := al_make hg hd hN ho hu he hx hy hn hm h
theorem w_app {α : Type} {T : Ty α} {t e : TypeId} {x y : Operand} {l m : List α} {d : α} {by' : Nat} {av : α → AV} {u : Value} {f : Own → List Own} (h : ∀ u', u'.cells = #[u'] → u'.oneCell' = true → AL Tryd.prog T0 N false ops Q rest ((x0, vA u') :: fr) (f (rowO T e u' (l ++ m)))) (ho : o.op = .call { callee := .builtin .append, args := #[x, y], argTypes := #[t, t] } := by rfl) (hg : o.guard = none := by rfl) (hd : o.dst = some x0 := by rfl) (hN : Nat.blt x0 N.n = true := by rfl) (hu : Tryd.prog.underlying t = some (.slice e) := by first | exact un_ | fail) (he : El Tryd.prog T e d by' av := by first | exact el_ | fail)
    (hx : Opd T0 fr x (vA u) := by first | exact oo_ | fail) (hy : Opd T0 fr y (slA T m) := by first | exact oo_ | fail) (hU : UpdF (rowO T e u l) M f := by first | exact upf_ | fail) (hn : (l.length + m.length) * by' ≤ 140737488355328 := by first | exact gb_ | fail) (hm : l.length + m.length ≤ maxLen := by
      first
      | (simp only [maxLen]
         exact gb_
         done)
      | fail) : AL Tryd.prog T0 N false ops Q (o :: rest) fr M := al_append hg hd hN ho hu he hx hy hU hn hm h
theorem w_cpr {α : Type} {T : Ty α} {t e : TypeId} {x y : Operand} {l m : List α} {d : α} {by' : Nat} {av : α → AV} {u : Value} {f : Own → List Own} (h : AL Tryd.prog T0 N false ops Q rest ((x0, I (m.take l.length).length) :: fr) (f (rowO T e u (ovr l 0 (m.take l.length))))) (ho : o.op = .call { callee := .builtin .copy, args := #[x, y], argTypes := #[t, t] } := by rfl) (hg : o.guard = none := by rfl) (hd : o.dst = some x0 := by rfl) (hN : Nat.blt x0 N.n = true := by rfl) (hu : Tryd.prog.underlying t = some (.slice e) := by first | exact un_ | fail) (he : El Tryd.prog T e d by' av := by first | exact el_ | fail)
    (hx : Opd T0 fr x (vA u) := by first | exact oo_ | fail) (hy : Opd T0 fr y (slA T m) := by first | exact oo_ | fail) (hU : UpdF (rowO T e u l) M f := by first | exact upf_ | fail) : AL Tryd.prog T0 N false ops Q (o :: rest) fr M := al_copy_row hg hd hN ho hu he hx hy hU h
theorem w_cps {α : Type} {T : Ty α} {t e : TypeId} {x y : Operand} {l m : List α} {d : α} {by' off n : Nat} {av : α → AV} {u : Value} {f : Own → List Own} (h : AL Tryd.prog T0 N false ops Q rest ((x0, I (m.take n).length) :: fr) (f (rowO T e u (ovr l off (m.take n))))) (ho : o.op = .call { callee := .builtin .copy, args := #[x, y], argTypes := #[t, t] } := by rfl) (hg : o.guard = none := by rfl) (hd : o.dst = some x0 := by rfl) (hN : Nat.blt x0 N.n = true := by rfl) (hu : Tryd.prog.underlying t = some (.slice e) := by first | exact un_ | fail) (he : El Tryd.prog T e d by' av := by first | exact el_ | fail)
    (hx : Opd T0 fr x (rsA T.k u off n) := by first | exact oo_ | fail) (hy : Opd T0 fr y (slA T m) := by first | exact oo_ | fail) (hU : UpdF (rowO T e u l) M f := by first | exact upf_ | fail) (hn : off + n ≤ l.length := by first | exact gb_ | fail) : AL Tryd.prog T0 N false ops Q (o :: rest) fr M := al_copy_sub hg hd hN ho hu he hx hy hU hn h
/-! ### what a walk does oftenest -/
theorem no_ {P : Prop} (h : False := by first | assumption | omega | (simp only [or_self, and_self, not_true_eq_false, not_false_eq_true, or_false, false_or, and_false, false_and, true_and, and_true] at hb; first | done | omega) | fail) : P := h.elim
/-- what is behind, hidden from 'assumption' -/
structure Bx (q : Prop) : Prop where
  h : q
theorem sa_ {p q : Prop} (h : q) (k : Bx q → p := by
  first
  | (intro hh
     first
     | refine s_y ?_ | refine c_ ?_
     exact hh.h
     done)
  | fail) : p := k ⟨h⟩
theorem sx_ {p q : Prop} (h : q) (k : Bx q → p := by
  first
  | (intro hh
     first
     | refine w_alloc ?_ | refine w_box ?_
     exact hh.h
     done)
  | fail) : p := k ⟨h⟩
theorem su_ {p q : Prop} (h : q) (k : Bx q → p := by
  first
  | (intro hh
     first
     | refine w_emp ?_ | refine w_make ?_ | refine w_app ?_
     exact hh.h
     done)
  | fail) : p := k ⟨h⟩
theorem sw_ {p q : Prop} (h : q) (k : Bx q → p := by
  first
  | (intro hh
     first
     | refine s_skip ?_ | refine w_stv ?_ | refine w_str ?_ | refine w_cpr ?_ | refine w_cps ?_ | refine al_last (by kernel_rfl) ?_
     exact hh.h
     done)
  | fail) : p := k ⟨h⟩
theorem g1_ {p q : Prop} (h : q) (k : Bx q → p := by
  first
  | (intro hh
     first | refine sa_ ?_ | refine s_yg ?_ | refine sw_ ?_
     exact hh.h
     done)
  | fail) : p := k ⟨h⟩
theorem g2_ {p q : Prop} (h : q) (k : Bx q → p := by
  first
  | (intro hh
     first | refine sa_ ?_ | refine s_call ?_ (c := by first | exact f_vtPut _ | exact f_ref05Put _ | exact f_vtIs _ | exact f_ref05Is _ | fail) | refine s_yg ?_ | refine s_callg ?_ (c := by intro hk hk2; first | exact f_vtPut _ | exact f_ref05Put _ | exact f_vtIs _ | exact f_ref05Is _ | fail) | refine sw_ ?_
     exact hh.h
     done)
  | fail) : p := k ⟨h⟩
theorem g3_ {p q : Prop} (h : q) (k : Bx q → p := by
  first
  | (intro hh
     first | refine sa_ ?_ | refine s_call ?_ (c := by first | exact c1 | exact c2 | exact f_Itoa _ (by omega) | exact f_digits _ (by omega) | fail) | refine s_op ?_ (hy := by first | (apply bs_u1 rfl un_; exact oo_; omega) | fail) | refine s_yg ?_ | refine s_callg ?_ (c := by intro hk hk2; first | exact c1 | exact c2 | exact f_Itoa _ (by omega) | exact f_digits _ (by omega) | fail) | refine s_opg ?_ (hy := by intro hk hk2; first | (apply bs_u1 rfl un_; exact oo_; omega) | fail) | refine sw_ ?_
     exact hh.h
     done)
  | fail) : p := k ⟨h⟩
theorem g4_ {p q : Prop} (h : q) (k : Bx q → p := by
  first
  | (intro hh
     first | refine sa_ ?_ | refine s_call ?_ (c := by first | exact c1 | fail) | refine s_yg ?_ | refine s_callg ?_ (c := by intro hk hk2; first | exact c1 | fail) | refine sw_ ?_
     exact hh.h
     done)
  | fail) : p := k ⟨h⟩
theorem g5_ {p q : Prop} (h : q) (k : Bx q → p := by
  first
  | (intro hh
     first | refine an_end ?_ (by rfl)
     exact hh.h
     done)
  | fail) : p := k ⟨h⟩
theorem g6_ {p q : Prop} (h : q) (k : Bx q → p := by
  first
  | (intro hh
     first | refine sa_ ?_ | refine s_call ?_ (c := by first | exact c1 | exact c2 | fail) | refine s_yg ?_ | refine s_callg ?_ (c := by intro hk hk2; first | exact c1 | exact c2 | fail) | refine sw_ ?_
     exact hh.h
     done)
  | fail) : p := k ⟨h⟩
theorem g7_ {p q : Prop} (h : q) (k : Bx q → p := by
  first
  | (intro hh
     first | refine sa_ ?_ | refine s_call ?_ (c := by first | exact c1 | exact f_Shown _ | exact f_Width _ | exact f_Cells _ | fail) | refine s_yg ?_ | refine s_callg ?_ (c := by intro hk hk2; first | exact c1 | exact f_Shown _ | exact f_Width _ | exact f_Cells _ | fail) | refine sw_ ?_
     exact hh.h
     done)
  | fail) : p := k ⟨h⟩
theorem g8_ {p q : Prop} (h : q) (k : Bx q → p := by
  first
  | (intro hh
     first | refine sa_ ?_ | refine s_call ?_ (c := by first | exact f_blank | fail) | refine s_yg ?_ | refine s_callg ?_ (c := by intro hk hk2; first | exact f_blank | fail) | refine sw_ ?_
     exact hh.h
     done)
  | fail) : p := k ⟨h⟩
theorem g9_ {p q : Prop} (h : q) (k : Bx q → p := by
  first
  | (intro hh
     first | refine sa_ ?_ | refine s_call ?_ (c := by first | exact f_Is _ _ _ hl | exact cf | fail) | refine s_yg ?_ | refine s_callg ?_ (c := by intro hk hk2; first | exact f_Is _ _ _ hl | exact cf | fail) | refine sw_ ?_
     exact hh.h
     done)
  | fail) : p := k ⟨h⟩
theorem g10_ {p q : Prop} (h : q) (k : Bx q → p := by
  first
  | (intro hh
     first | refine sa_ ?_ | refine s_call ?_ (c := by first | exact f_rowIs _ (by simp only [List.length_take, List.length_drop]; omega) | fail) | refine s_yg ?_ | refine s_callg ?_ (c := by intro hk hk2; first | exact f_rowIs _ (by simp only [List.length_take, List.length_drop]; omega) | fail) | refine sw_ ?_
     exact hh.h
     done)
  | fail) : p := k ⟨h⟩
theorem g11_ {p q : Prop} (h : q) (k : Bx q → p := by
  first
  | (intro hh
     first | refine sa_ ?_ | refine s_call ?_ (c := by first | exact f_wideIs (_, _) | exact f_ref02Is (_, _) | fail) | refine s_yg ?_ | refine s_callg ?_ (c := by intro hk hk2; first | exact f_wideIs (_, _) | exact f_ref02Is (_, _) | fail) | refine sw_ ?_
     exact hh.h
     done)
  | fail) : p := k ⟨h⟩
theorem g12_ {p q : Prop} (h : q) (k : Bx q → p := by
  first
  | (intro hh
     first | refine sa_ ?_ | refine s_call ?_ (c := by first | exact c1 | fail) | refine s_op ?_ (hy := by first | (apply bs_cmdA rfl un_; exact oo_; done) | fail) | refine s_yg ?_ | refine s_callg ?_ (c := by intro hk hk2; first | exact c1 | fail) | refine s_opg ?_ (hy := by intro hk hk2; first | (apply bs_cmdA rfl un_; exact oo_; done) | fail) | refine sw_ ?_
     exact hh.h
     done)
  | fail) : p := k ⟨h⟩
theorem g13_ {p q : Prop} (h : q) (k : Bx q → p := by
  first
  | (intro hh
     first | refine th_p ?_ | refine ib_p ?_
     exact hh.h
     done)
  | fail) : p := k ⟨h⟩
theorem g14_ {p q : Prop} (h : q) (k : Bx q → p := by
  first
  | (intro hh
     first | refine sa_ ?_ | refine s_call ?_ (c := by first | exact cg | exact f_Shown _ | fail) | refine s_op ?_ (hy := by first | (apply ay_nilp rfl; exact oo_; done) | (apply ay_nilp rfl; exact oog_; done) | (apply ay_iface rfl un_; exact oo_; done) | (apply ay_lookup rfl un_ un_; (case hx => exact oo_); (case hy => exact oo_); (case hk => exact (rfl : IntKind.u8 = IntKind.u8)); (case hM => exact mem_); (case hn => rfl)) | fail) | refine s_yg ?_ | refine s_callg ?_ (c := by intro hk hk2; first | exact cg | exact f_Shown _ | fail) | refine s_opg ?_ (hy := by intro hk hk2; first | (apply ay_nilp rfl; exact oo_; done) | (apply ay_nilp rfl; exact oog_; done) | (apply ay_iface rfl un_; exact oo_; done) | (apply ay_lookup rfl un_ un_; (case hx => exact oo_); (case hy => exact oo_); (case hk => exact (rfl : IntKind.u8 = IntKind.u8)); (case hM => exact mem_); (case hn => rfl)) | fail) | refine sw_ ?_
     exact hh.h
     done)
  | fail) : p := k ⟨h⟩
theorem g15_ {p q : Prop} (h : q) (k : Bx q → p := by
  first
  | (intro hh
     first | refine th_p ?_ | refine ib_p ?_ | refine sa_ ?_ | refine s_op ?_ (hy := by first | (apply ay_nilp rfl; exact oo_; done) | (apply ay_nilp rfl; exact oog_; done) | (apply ay_iface rfl un_; exact oo_; done) | fail) | refine s_yg ?_ | refine s_opg ?_ (hy := by intro hk hk2; first | (apply ay_nilp rfl; exact oo_; done) | (apply ay_nilp rfl; exact oog_; done) | (apply ay_iface rfl un_; exact oo_; done) | fail) | refine sw_ ?_
     exact hh.h
     done)
  | fail) : p := k ⟨h⟩
theorem g16_ {p q : Prop} (h : q) (k : Bx q → p := by
  first
  | (intro hh
     first | refine sa_ ?_ | refine s_call ?_ (c := by first | exact c1 | exact c2 | fail) | refine s_op ?_ (hy := by first | exact AY.sub (ay_buildSlice (T := fnT) doesL rfl un_fns el_fn rfl (by decide) ⟨_, px_, rfl⟩) sub_slc | fail) | refine s_yg ?_ | refine s_callg ?_ (c := by intro hk hk2; first | exact c1 | exact c2 | fail) | refine s_opg ?_ (hy := by intro hk hk2; first | exact AY.sub (ay_buildSlice (T := fnT) doesL rfl un_fns el_fn rfl (by decide) ⟨_, px_, rfl⟩) sub_slc | fail) | refine sw_ ?_
     exact hh.h
     done)
  | fail) : p := k ⟨h⟩
theorem g17_ {p q : Prop} (h : q) (k : Bx q → p := by
  first
  | (intro hh
     first | refine sa_ ?_ | refine s_call ?_ (c := by first | exact c1 | fail) | refine s_op ?_ (hy := by first | (apply ay_nilp rfl; exact oo_; done) | (apply ay_nilp rfl; exact oog_; done) | fail) | refine s_yg ?_ | refine s_callg ?_ (c := by intro hk hk2; first | exact c1 | fail) | refine s_opg ?_ (hy := by intro hk hk2; first | (apply ay_nilp rfl; exact oo_; done) | (apply ay_nilp rfl; exact oog_; done) | fail) | refine sw_ ?_
     exact hh.h
     done)
  | fail) : p := k ⟨h⟩
theorem g18_ {p q : Prop} (h : q) (k : Bx q → p := by
  first
  | (intro hh
     first | refine aw_seq ?_ | refine aw_region0 ?_ | refine al_nil ?_ | refine th_n ?_ | refine th_e ?_ | refine th_r ?_ | refine ib_n ?_ | refine ib_e rfl ?_ | refine ib_e' rfl ?_ | refine ib_r ?_ | refine aw_block ?_ | refine aw_exit ?_ | refine aw_ret ?_ | refine aw_skip ?_
     exact hh.h
     done)
  | fail) : p := k ⟨h⟩
theorem g19_ {p q : Prop} (h : q) (k : Bx q → p := by
  first
  | (intro hh
     first | refine sa_ ?_ | refine s_call ?_ (c := by first | exact c1 | exact cw | fail) | refine s_op ?_ (hy := by first | (apply ay_nilp rfl; exact oo_; done) | (apply ay_nilp rfl; exact oog_; done) | fail) | refine s_yg ?_ | refine s_callg ?_ (c := by intro hk hk2; first | exact c1 | exact cw | fail) | refine s_opg ?_ (hy := by intro hk hk2; first | (apply ay_nilp rfl; exact oo_; done) | (apply ay_nilp rfl; exact oog_; done) | fail) | refine sw_ ?_
     exact hh.h
     done)
  | fail) : p := k ⟨h⟩
theorem g20_ {p q : Prop} (h : q) (k : Bx q → p := by
  first
  | (intro hh
     first | refine sa_ ?_ | refine s_call ?_ (c := by first | exact c1 | exact f_IsA _ _ _ | exact f_ref03IsA _ _ _ | fail)
     exact hh.h
     done)
  | fail) : p := k ⟨h⟩
theorem g21_ {p q : Prop} (h : q) (k : Bx q → p := by
  first
  | (intro hh
     first | refine s_yg ?_ | refine s_callg ?_ (c := by intro hk hk2; first | exact c1 | exact f_IsA _ _ _ | exact f_ref03IsA _ _ _ | fail)
     exact hh.h
     done)
  | fail) : p := k ⟨h⟩
theorem g22_ {p q : Prop} (h : q) (k : Bx q → p := by
  first
  | (intro hh
     first | refine sa_ ?_ | refine s_call ?_ (c := by first | exact c1 | exact c2 | exact c3 | fail) | refine s_yg ?_ | refine s_callg ?_ (c := by intro hk hk2; first | exact c1 | exact c2 | exact c3 | fail) | refine sw_ ?_
     exact hh.h
     done)
  | fail) : p := k ⟨h⟩
theorem g23_ {p q : Prop} (h : q) (k : Bx q → p := by
  first
  | (intro hh
     first | refine sa_ ?_ | refine s_call ?_ (c := by first | exact c1 | exact f_beRow _ (by omega) | fail) | refine s_yg ?_ | refine s_callg ?_ (c := by intro hk hk2; first | exact c1 | exact f_beRow _ (by omega) | fail) | refine sw_ ?_
     exact hh.h
     done)
  | fail) : p := k ⟨h⟩
theorem g24_ {p q : Prop} (h : q) (k : Bx q → p := by
  first
  | (intro hh
     first | refine sa_ ?_ | refine s_op ?_ (hy := by first | (apply k_ld rfl; exact oo_; exact v1_ (List.Mem.head _) rfl) | (apply k_ld rfl; exact oo_; exact v1_ (List.Mem.tail _ (List.Mem.head _)) rfl) | fail) | refine s_yg ?_ | refine s_opg ?_ (hy := by intro hk hk2; first | (apply k_ld rfl; exact oo_; exact v1_ (List.Mem.head _) rfl) | (apply k_ld rfl; exact oo_; exact v1_ (List.Mem.tail _ (List.Mem.head _)) rfl) | fail) | refine sw_ ?_
     exact hh.h
     done)
  | fail) : p := k ⟨h⟩
theorem g25_ {p q : Prop} (h : q) (k : Bx q → p := by
  first
  | (intro hh
     first | refine sa_ ?_ | refine s_op ?_ (hy := by first | (apply ay_mkfn rfl; exact os_) | fail) | refine s_yg ?_ | refine s_opg ?_ (hy := by intro hk hk2; first | (apply ay_mkfn rfl; exact os_) | fail) | refine sw_ ?_
     exact hh.h
     done)
  | fail) : p := k ⟨h⟩
theorem g26_ {p q : Prop} (h : q) (k : Bx q → p := by
  first
  | (intro hh
     first | refine sa_ ?_ | refine s_call ?_ (c := by first | exact f_wideIs (_, _) | exact f_sure (_, 2) | exact f_sure (_, 1) | exact f_sure (_, _) | fail) | refine s_op ?_ (hy := by first | (apply ay_sub rfl (a := 3) (b := 1); exact oo_; exact oo_; exact fit_) | (apply ay_sub rfl (a := 3) (b := 2); exact oo_; exact oo_; exact fit_) | (apply k_neq rfl; exact oo_; exact oo_; exact ek_gu) | (apply k_neq rfl; exact oog_; exact oog_; exact ek_gu) | (apply k_eql rfl; exact oo_; exact oo_;  exact ek_gu) | exact ay_ix0 rfl hk (by simp) | fail) | refine s_yg ?_ | refine s_callg ?_ (c := by intro hk hk2; first | exact f_wideIs (_, _) | exact f_sure (_, 2) | exact f_sure (_, 1) | exact f_sure (_, _) | fail) | refine s_opg ?_ (hy := by intro hk hk2; first | (apply ay_sub rfl (a := 3) (b := 1); exact oo_; exact oo_; exact fit_) | (apply ay_sub rfl (a := 3) (b := 2); exact oo_; exact oo_; exact fit_) | (apply k_neq rfl; exact oo_; exact oo_; exact ek_gu) | (apply k_neq rfl; exact oog_; exact oog_; exact ek_gu) | (apply k_eql rfl; exact oo_; exact oo_;  exact ek_gu) | exact ay_ix0 rfl hk (by simp) | fail) | refine sw_ ?_
     exact hh.h
     done)
  | fail) : p := k ⟨h⟩
theorem g27_ {p q : Prop} (h : q) (k : Bx q → p := by
  first
  | (intro hh
     first | refine s_yg ?_ | refine s_callg ?_ (c := by intro hk hk2; first | exact cm | fail)
     exact hh.h
     done)
  | fail) : p := k ⟨h⟩
theorem g28_ {p q : Prop} (h : q) (k : Bx q → p := by
  first
  | (intro hh
     first | refine sa_ ?_ | refine s_call ?_ (c := by first | exact ci | exact cv1 | exact cv2 | fail) | refine s_op ?_ (hy := by first | (apply bs_cmdA (c := (k1, a1, e1, r1)) rfl un_; exact oo_; done) | (apply bs_cmdA (c := (k2, a2, e2, r2)) rfl un_; exact oo_; done) | fail) | refine s_yg ?_ | refine s_callg ?_ (c := by intro hk hk2; first | exact ci | exact cv1 | exact cv2 | fail) | refine s_opg ?_ (hy := by intro hk hk2; first | (apply bs_cmdA (c := (k1, a1, e1, r1)) rfl un_; exact oo_; done) | (apply bs_cmdA (c := (k2, a2, e2, r2)) rfl un_; exact oo_; done) | fail) | refine sw_ ?_
     exact hh.h
     done)
  | fail) : p := k ⟨h⟩
theorem g29_ {p q : Prop} (h : q) (k : Bx q → p := by
  first
  | (intro hh
     first | refine sa_ ?_ | refine s_call ?_ (c := by first | exact ci | fail) | refine s_yg ?_ | refine s_callg ?_ (c := by intro hk hk2; first | exact ci | fail) | refine sw_ ?_
     exact hh.h
     done)
  | fail) : p := k ⟨h⟩
theorem g30_ {p q : Prop} (h : q) (k : Bx q → p := by
  first
  | (intro hh
     first | refine s_opg ?_ (hy := by intro hk hk2; first | (apply k_ld rfl; exact oog_; apply r1_; exact mem_; exact g_in gb_; rfl) | fail) | refine s_op ?_ (hy := by first | (apply k_ld rfl; exact oo_; apply r1_; exact mem_; exact g_in gb_; rfl) | fail) | refine w_str ?_ (hc := ca_guA) | refine w_str ?_ (hc := ca_gu) | refine sa_ ?_ | refine s_call ?_ (c := by first | exact f_bBlank | exact f_sure (32, 0) | exact f_sure (_, _) | fail) | refine s_op ?_ (hy := by first | exact AY.sub (ay_buildSlice (T := cellT) [(32, 0)] rfl un_ el_ rfl (by decide) ⟨_, px_, rfl⟩) sub_slc | fail) | refine s_yg ?_ | refine s_callg ?_ (c := by intro hk hk2; first | exact f_bBlank | exact f_sure (32, 0) | exact f_sure (_, _) | fail) | refine s_opg ?_ (hy := by intro hk hk2; first | exact AY.sub (ay_buildSlice (T := cellT) [(32, 0)] rfl un_ el_ rfl (by decide) ⟨_, px_, rfl⟩) sub_slc | fail) | refine sw_ ?_
     exact hh.h
     done)
  | fail) : p := k ⟨h⟩
theorem g31_ {p q : Prop} (h : q) (k : Bx q → p := by
  first
  | (intro hh
     first | refine w_str ?_ (hc := ca_guA) | refine sa_ ?_ | refine s_call ?_ (c := by first | exact f_bBlank | exact f_sure (32, 0) | fail)
     exact hh.h
     done)
  | fail) : p := k ⟨h⟩
theorem g32_ {p q : Prop} (h : q) (k : Bx q → p := by
  first
  | (intro hh
     first | refine s_yg ?_ | refine s_callg ?_ (c := by intro hk hk2; first | exact f_bBlank | exact f_sure (32, 0) | fail)
     exact hh.h
     done)
  | fail) : p := k ⟨h⟩
theorem g33_ {p q : Prop} (h : q) (k : Bx q → p := by
  first
  | (intro hh
     first | refine sa_ ?_ | refine s_call ?_ (c := by first | exact c1 | exact c2 | fail) | refine s_op ?_ (hy := by first | (apply ay_nilp rfl; exact oo_; done) | (apply ay_nilp rfl; exact oog_; done) | fail) | refine s_yg ?_ | refine s_callg ?_ (c := by intro hk hk2; first | exact c1 | exact c2 | fail) | refine s_opg ?_ (hy := by intro hk hk2; first | (apply ay_nilp rfl; exact oo_; done) | (apply ay_nilp rfl; exact oog_; done) | fail) | refine sw_ ?_
     exact hh.h
     done)
  | fail) : p := k ⟨h⟩
theorem g34_ {p q : Prop} (h : q) (k : Bx q → p := by
  first
  | (intro hh
     first | refine sa_ ?_ | refine s_call ?_ (c := by first | exact c1 | exact c2 | exact c3 | exact f_changes _ | fail)
     exact hh.h
     done)
  | fail) : p := k ⟨h⟩
theorem g35_ {p q : Prop} (h : q) (k : Bx q → p := by
  first
  | (intro hh
     first | refine s_yg ?_ | refine s_callg ?_ (c := by intro hk hk2; first | exact c1 | exact c2 | exact c3 | exact f_changes _ | fail)
     exact hh.h
     done)
  | fail) : p := k ⟨h⟩
theorem g36_ {p q : Prop} (h : q) (k : Bx q → p := by
  first
  | (intro hh
     first | refine sa_ ?_ | refine s_call ?_ (c := by first | exact c1 | exact c2 | exact c3 | exact c4 | fail)
     exact hh.h
     done)
  | fail) : p := k ⟨h⟩
theorem g37_ {p q : Prop} (h : q) (k : Bx q → p := by
  first
  | (intro hh
     first | refine s_yg ?_ | refine s_callg ?_ (c := by intro hk hk2; first | exact c1 | exact c2 | exact c3 | exact c4 | fail)
     exact hh.h
     done)
  | fail) : p := k ⟨h⟩
theorem g38_ {p q : Prop} (h : q) (k : Bx q → p := by
  first
  | (intro hh
     first | refine sa_ ?_ | refine s_call ?_ (c := by first | exact c1 | exact c2 | exact f_sure (_, _) | fail) | refine s_op ?_ (hy := by first | exact AY.sub (ay_buildSlice (T := guT) [((_, _), _)] rfl un_ el_ rfl (by decide) ⟨_, px_, rfl⟩) sub_slc | fail) | refine s_yg ?_ | refine s_callg ?_ (c := by intro hk hk2; first | exact c1 | exact c2 | exact f_sure (_, _) | fail) | refine s_opg ?_ (hy := by intro hk hk2; first | exact AY.sub (ay_buildSlice (T := guT) [((_, _), _)] rfl un_ el_ rfl (by decide) ⟨_, px_, rfl⟩) sub_slc | fail) | refine sw_ ?_
     exact hh.h
     done)
  | fail) : p := k ⟨h⟩
theorem g39_ {p q : Prop} (h : q) (k : Bx q → p := by
  first
  | (intro hh
     first | refine endT_ ?_ | refine aw_seq ?_ | refine aw_region0 ?_ | refine al_nil ?_ | refine th_n ?_ | refine th_e ?_ | refine th_r ?_ | refine ib_n ?_ | refine ib_e rfl ?_ | refine ib_e' rfl ?_ | refine ib_r ?_ | refine aw_block ?_ | refine aw_exit ?_ | refine aw_ret ?_ | refine aw_skip ?_
     exact hh.h
     done)
  | fail) : p := k ⟨h⟩
theorem g40_ {p q : Prop} (h : q) (k : Bx q → p := by
  first
  | (intro hh
     first | refine s_op ?_ (hy := by first | (apply k_ix rfl; exact oo_; exact on_; apply ik_sl un_ el_; exact hat) | fail) | refine sa_ ?_ | refine s_call ?_ (c := by first | exact c1 | exact c2 | exact c3 | exact c4 | exact c5 | exact c6 | exact c7 | fail) | refine s_yg ?_ | refine s_callg ?_ (c := by intro hk hk2; first | exact c1 | exact c2 | exact c3 | exact c4 | exact c5 | exact c6 | exact c7 | fail) | refine sw_ ?_
     exact hh.h
     done)
  | fail) : p := k ⟨h⟩
theorem g41_ {p q : Prop} (h : q) (k : Bx q → p := by
  first
  | (intro hh
     first | refine s_op ?_ (hy := by first | (apply k_ix rfl; exact oo_; exact on_; apply ik_sl un_ el_; exact hat) | fail) | refine aw_scope (fun _ _ _ h => h) ?_ | refine aw_label ?_ | refine sa_ ?_ | refine s_call ?_ (c := by first | exact c1 | fail) | refine s_yg ?_ | refine s_callg ?_ (c := by intro hk hk2; first | exact c1 | fail) | refine sw_ ?_
     exact hh.h
     done)
  | fail) : p := k ⟨h⟩
theorem g42_ {p q : Prop} (h : q) (k : Bx q → p := by
  first
  | (intro hh
     first | refine s_op ?_ (hy := by first | (apply k_ix rfl; exact oo_; exact on_; apply ik_sl un_ el_; exact hat) | fail) | refine s_op ?_ (hy := by first | (apply k_ix rfl; exact oo_; exact on_; apply ik_sl un_ el_; exact hat2) | fail) | refine sa_ ?_ | refine s_op ?_ (hy := by first | (apply k_neq rfl; exact oo_; exact oo_; exact ek_gu) | fail) | refine s_yg ?_ | refine s_opg ?_ (hy := by intro hk hk2; first | (apply k_neq rfl; exact oo_; exact oo_; exact ek_gu) | fail) | refine sw_ ?_
     exact hh.h
     done)
  | fail) : p := k ⟨h⟩
theorem g43_ {p q : Prop} (h : q) (k : Bx q → p := by
  first
  | (intro hh
     first | refine s_op ?_ (hy := by first | (apply k_ix rfl; exact oo_; exact on_; apply ik_sl un_ el_; exact hat) | (apply k_ix rfl; exact oo_; exact on_; apply ik_sl un_ el_; exact hat1) | fail) | refine s_opg ?_ (hy := by intro hk hk2; first | (apply k_ix rfl; exact oog_; exact ong_; apply ik_sl un_ el_; exact hat2) | fail) | refine sa_ ?_ | refine s_call ?_ (c := by first | exact f_painted | exact c1 | exact c2 | exact c3 | exact c4 | exact c5 | exact c6 | exact c7 | fail) | refine s_op ?_ (hy := by first | (apply k_eql rfl; exact oo_; exact oo_; exact ek_gu) | (apply k_neq rfl; exact oog_; exact oog_; exact ek_gu) | fail) | refine s_yg ?_ | refine s_callg ?_ (c := by intro hk hk2; first | exact f_painted | exact c1 | exact c2 | exact c3 | exact c4 | exact c5 | exact c6 | exact c7 | fail) | refine s_opg ?_ (hy := by intro hk hk2; first | (apply k_eql rfl; exact oo_; exact oo_; exact ek_gu) | (apply k_neq rfl; exact oog_; exact oog_; exact ek_gu) | fail) | refine sw_ ?_
     exact hh.h
     done)
  | fail) : p := k ⟨h⟩
theorem g44_ {p q : Prop} (h : q) (k : Bx q → p := by
  first
  | (intro hh
     first | refine sa_ ?_ | refine s_call ?_ (c := by first | exact f_painted | exact c1 | exact c2 | exact c3 | exact c4 | exact c5 | exact c6 | exact c7 | fail) | refine s_op ?_ (hy := by first | exact AY.sub (ay_buildSlice (T := cmdT) [(_, _, _, _)] rfl un_ el_ rfl (by decide) ⟨_, px_, rfl⟩) sub_slc | fail) | refine s_yg ?_ | refine s_callg ?_ (c := by intro hk hk2; first | exact f_painted | exact c1 | exact c2 | exact c3 | exact c4 | exact c5 | exact c6 | exact c7 | fail) | refine s_opg ?_ (hy := by intro hk hk2; first | exact AY.sub (ay_buildSlice (T := cmdT) [(_, _, _, _)] rfl un_ el_ rfl (by decide) ⟨_, px_, rfl⟩) sub_slc | fail) | refine sw_ ?_
     exact hh.h
     done)
  | fail) : p := k ⟨h⟩
theorem e1_ {p : Prop} (h : p := by first | (exfalso; omega) | fail) : p := h
theorem e2_ {p : Prop} (h : p := by first | exact ⟨_, [], rl_, List.nil_sublist _, Sub.eq (congrArg B (hb0 (by rw [hr]; simp_all)).symm), rfl⟩ | exact ⟨k + 1, ⟨by omega, nxt (by rw [hr]; simp_all)⟩, by omega, wx_, sl_⟩ | fail) : p := h
theorem e3_ {p : Prop} (h : p := by first | (exfalso; omega) | (exfalso; simp at hb; done) | (exfalso; simp at hb; omega) | fail) : p := h
theorem e4_ {p : Prop} (h : p := by first | (exfalso; simp at hb; done) | exact ⟨_, _, rl_, sl_, u, rfl, rfl⟩ | exact ⟨_, [gsO u _], rl_, sl_, u, rfl, rfl⟩ | fail) : p := h
theorem e5_ {p : Prop} (h : p := by first | (exfalso; simp at hb; done) | exact ⟨_, [], rl_, List.nil_sublist _, Sub.refl _, rfl⟩ | exact ⟨_, [], rl_, List.nil_sublist _, sub_noB, rfl⟩ | (exfalso; simp_all; done) | fail) : p := h
theorem e6_ {p : Prop} (h : p := by first | (exfalso; omega) | (exfalso; exact q8 ⟨hb.1, by omega⟩) | (exfalso; exact q7 ⟨hb.1, by omega⟩) | exact ⟨_, [], rl_, List.nil_sublist _, Sub.refl _, rfl⟩ | (exfalso; simp_all; done) | fail) : p := h
end
end
/- Loops, told by what they change alone. No condition. -/
section
open Go Go.RowKit
def memB (s : Nat) : List Nat → Bool
  | [] => false
  | x :: l => Nat.beq s x || memB s l
def slots : Fr → List Nat
  | [] => []
  | (s, _) :: r => s :: slots r
def apartB (d fr0 : List Nat) : List Nat → Bool
  | [] => true
  | s :: l => (memB s d || !memB s fr0) && apartB d fr0 l
theorem get_slots : ∀ (fr : Fr) (s : Nat), memB s (slots fr) = false → fr.get s = none
  | [], _, _ => rfl
  | (x, A) :: r, s, h => by
    simp only [slots, memB, Bool.or_eq_false_iff] at h
    simp only [Fr.get, h.1, cond_false]; exact get_slots r s h.2
theorem get_app_l : ∀ (d fr : Fr) (s : Nat), memB s (slots d) = true → Fr.get (d ++ fr) s = d.get s
  | [], _, _, h => by simp [slots, memB] at h
  | (x, A) :: r, fr, s, h => by
    simp only [slots, memB, Bool.or_eq_true] at h
    simp only [List.cons_append, Fr.get]
    cases hb : Nat.beq s x with
    | true => rfl
    | false => rw [hb] at h; simp only [cond_false]; exact get_app_l r fr s (by simpa using h)
theorem get_app_r : ∀ (d fr : Fr) (s : Nat), memB s (slots d) = false → Fr.get (d ++ fr) s = fr.get s
  | [], _, _, _ => rfl
  | (x, A) :: r, fr, s, h => by
    simp only [slots, memB, Bool.or_eq_false_iff] at h
    simp only [List.cons_append, Fr.get, h.1, cond_false]; exact get_app_r r fr s h.2
theorem apart_of : ∀ (d fr0 l : List Nat) (s : Nat), apartB d fr0 l = true → memB s l = true → memB s d = false → memB s fr0 = false
  | _, _, [], _, _, h, _ => by simp [memB] at h
  | d, fr0, x :: l, s, h, hm, hd => by
    simp only [apartB, Bool.and_eq_true] at h
    simp only [memB, Bool.or_eq_true] at hm
    rcases hm with hm | hm
    · have : s = x := Nat.eq_of_beq_eq_true hm
      subst this
      have := h.1
      rw [hd] at this; simpa using this
    · exact apart_of d fr0 l s h.2 hm hd
/-- a frame that grew from another one by these slots -/
inductive ExtF (base : Fr) : Fr → List Nat → Prop
  | nil : ExtF base base []
  | cons {s : Nat} {A : AV} {fr : Fr} {l : List Nat} (h : ExtF base fr l) : ExtF base ((s, A) :: fr) (s :: l)
theorem ExtF.get {base fr : Fr} {l : List Nat} (h : ExtF base fr l) {s : Nat} (hs : memB s l = false) : fr.get s = base.get s := by
  induction h with
  | nil => rfl
  | cons h ih =>
    simp only [memB, Bool.or_eq_false_iff] at hs
    simp only [Fr.get, hs.1, cond_false]; exact ih hs.2
theorem ext_ {base fr : Fr} {l : List Nat} (h : ExtF base fr l := by
  first
  | (repeat (first | exact ExtF.nil | apply ExtF.cons)
     done)
  | fail) : ExtF base fr l := h
theorem weak_ext {fr0 d d' fr' : Fr} {l : List Nat} (h : ExtF (d ++ fr0) fr' l) (hk : Weak fr' d') (hc : (apartB (slots d') (slots fr0) l && apartB (slots d') (slots fr0) (slots d)) = true) : Weak fr' (d' ++ fr0) := fun G t hr x B _ e => by
  simp only [Bool.and_eq_true] at hc
  cases hm : memB x (slots d') with
  | true => rw [get_app_l d' fr0 x hm] at e; exact hk G t hr x B trivial e
  | false =>
    rw [get_app_r d' fr0 x hm] at e
    have h0 : ¬ memB x (slots fr0) = false := fun k => by rw [get_slots fr0 x k] at e; cases e
    have h1 : memB x l = false := by
      cases k : memB x l with
      | false => rfl
      | true => exact absurd (apart_of _ _ _ x hc.1 k hm) h0
    have h2 : memB x (slots d) = false := by
      cases k : memB x (slots d) with
      | false => rfl
      | true => exact absurd (apart_of _ _ _ x hc.2 k hm) h0
    exact hr x B trivial (by rw [h.get h1, get_app_r d fr0 x h2]; exact e)
/-- the frame at a round's end -/
theorem wx_ {fr0 d d' fr' : Fr} {l : List Nat} (h : ExtF (d ++ fr0) fr' l := by first | exact ext_ | fail) (hk : Weak fr' d' := by first | exact wk_ | fail) (hc : (apartB (slots d') (slots fr0) l && apartB (slots d') (slots fr0) (slots d)) = true := by rfl) : Weak fr' (d' ++ fr0) := weak_ext h hk hc
theorem weak_in {fr d : Fr} (h : Weak fr d) : Weak fr (d ++ fr) := fun G t hr x B _ e => by
  cases hm : memB x (slots d) with
  | true => rw [get_app_l d fr x hm] at e; exact h G t hr x B trivial e
  | false => rw [get_app_r d fr x hm] at e; exact hr x B trivial e
theorem set_same {M : List Own} {i : Nat} {m : Own} (h1 : M[i]? = some m) : M.set i m = M := by
  refine List.ext_getElem? fun j => ?_
  rw [List.getElem?_set]
  split
  · rename_i hij; subst hij
    split
    · exact h1.symm
    · rename_i hnl; exact absurd (List.getElem?_eq_some_iff.1 h1).1 hnl
  · rfl
section
variable {P : Program} {T0 : Gh} {N : Fz} {Q : Post} {fr : Fr} {M : List Own} {c : Code} {σ : Type}
/-- what is owned does not turn -/
theorem aw_lf (d : σ → Fr) (inv : σ → Prop) (μ : σ → Nat) (s0 : σ) (h0 : inv s0)
    (round : ∀ s, inv s → AW P T0 N c (thenA (fun fr' M' => ∃ s', inv s' ∧ μ s' < μ s ∧ Weak fr' (d s' ++ fr) ∧ List.Sublist M M') Q) (d s ++ fr) M) (hf0 : Weak fr (d s0) := by first | exact wk_ | fail) : AW P T0 N (.loop c) Q fr M :=
  aw_fl (fun s => d s ++ fr) (fun _ => M) inv μ s0 h0 (weak_in hf0) (List.Sublist.refl _) round
/-- a row that is owned turns -/
theorem aw_lr {α : Type} {T : Ty α} {e : TypeId} {u : Value} {l0 : List α} {f : Own → List Own} (d : σ → Fr) (g : σ → List α) (inv : σ → Prop) (μ : σ → Nat) (s0 : σ) (h0 : inv s0) (hl : l0 = g s0)
    (round : ∀ s, inv s → AW P T0 N c (thenA (fun fr' M' => ∃ s', inv s' ∧ μ s' < μ s ∧ Weak fr' (d s' ++ fr) ∧ List.Sublist (f (rowO T e u (g s'))) M') Q) (d s ++ fr) (f (rowO T e u (g s)))) (hU : UpdF (rowO T e u l0) M f := by first | exact upf_ | fail) (hf0 : Weak fr (d s0) := by first | exact wk_ | fail) : AW P T0 N (.loop c) Q fr M := by
  obtain ⟨i, h1, h2⟩ := hU.spec
  subst hl
  refine aw_fl (fun s => d s ++ fr) (fun s => f (rowO T e u (g s))) inv μ s0 h0 (weak_in hf0) ?_ round
  rw [h2, set_same h1]; exact List.Sublist.refl _
/-- a row that is appended to -/
theorem aw_la {α : Type} {T : Ty α} {e : TypeId} {u0 : Value} {l0 : List α} {f : Own → List Own} (x : Nat) (d : σ → Fr) (g : σ → List α) (inv : σ → Prop) (μ : σ → Nat) (s0 : σ) (h0 : inv s0) (hl : l0 = g s0)
    (round : ∀ s u, inv s → u.cells = #[u] → u.oneCell' = true → AW P T0 N c (thenA (fun fr' M' => ∃ s' u', inv s' ∧ μ s' < μ s ∧ Weak fr' (((x, vA u') :: d s') ++ fr) ∧ List.Sublist (f (rowO T e u' (g s'))) M') Q) (((x, vA u) :: d s) ++ fr) (f (rowO T e u (g s)))) (hU : UpdF (rowO T e u0 l0) M f := by first | exact upf_ | fail) (hf0 : Weak fr ((x, vA u0) :: d s0) := by first | exact wk_ | fail) : AW P T0 N (.loop c) Q fr M := by
  obtain ⟨i, h1, h2⟩ := hU.spec
  subst hl
  have hlt := (List.getElem?_eq_some_iff.1 h1).1
  refine aw_fl2 (fun s u => ((x, vA u) :: d s) ++ fr) (fun s u => f (rowO T e u (g s))) (fun s _ => inv s) (fun s _ => μ s) s0 u0 h0 (weak_in hf0) ?_ ?_
  · rw [h2, set_same h1]; exact List.Sublist.refl _
  · intro s u hi
    refine aw_rowc (T := T) (e := e) (u := u) (l := g s) ?_ fun a b => round s u hi a b
    rw [h2]
    exact List.mem_of_getElem? (i := i) (by rw [List.getElem?_set]; simp [hlt])
end
end
/- The logic's rules for strings and bytes. No condition. -/
section
open Go Go.RowKit
/-- a string, told by its bytes -/
abbrev SA (l : List UInt8) : AV := vA (.string ⟨l.toArray⟩)
abbrev UB (b : UInt8) : AV := vA (.int .u8 (b.toNat : Int))
def u8T : Ty UInt8 := { enc := fun b => [.int .u8 (b.toNat : Int)], k := 1, len := fun _ => rfl }
theorem sz_mk (l : List UInt8) : (⟨l.toArray⟩ : ByteArray).size = l.length := by simp [ByteArray.size]
theorem ext_mk (l : List UInt8) (a b : Nat) : (⟨l.toArray⟩ : ByteArray).extract a b = ⟨((l.drop a).take (b - a)).toArray⟩ := by
  apply WideShapes.bytes_inj
  simp [ByteArray.data_extract, List.extract_eq_take_drop]
theorem app_mk (l m : List UInt8) : (⟨l.toArray⟩ : ByteArray) ++ ⟨m.toArray⟩ = ⟨(l ++ m).toArray⟩ := by
  apply WideShapes.bytes_inj
  simp
section
variable {P : Program} {T0 : Gh} {N : Fz} {Q : Post} {fr : Fr} {M M' : List Own} {ops : Array Oper} {o : Oper} {rest : List Oper} {x0 : Nat}
theorem nk_str {t : TypeId} {l : List UInt8} (hu : P.underlying t = some .string) : LnK P T0 M t (SA l) (I l.length) := fun fr ops o x ts ho ht hx => by
  have h := ay_len_str (o := o) (M := M) (ops := ops) ho ht hu hx
  rw [sz_mk] at h; exact h
theorem ay_idx_str {t : TypeId} {x y : Operand} {l : List UInt8} {k : IntKind} {n : Nat} {b : UInt8} (ho : o.op = .index t x y) (hu : P.underlying t = some .string) (hx : Opd T0 fr x (SA l)) (hy : OpdN T0 fr y k n) (hn : l[n]? = some b) : AY P T0 ops o fr M (UB b) := ay_of fun w0 G F a w hs hf => by
  have h1 := (hx.use (o := o) (ops := ops) (by simp [ho, Op.operands]) hs.tab hf).eq
  have h2 := ((show Opd T0 fr y (vA (.int k (n : Int))) from hy).use (o := o) (ops := ops) (by simp [ho, Op.operands]) hs.tab hf).eq
  obtain ⟨h3, h4⟩ := List.getElem?_eq_some_iff.1 hn
  refine ⟨.int .u8 (b.toNat : Int), ?_, Rep.va _ _⟩
  simp only [execOp, ho, h1, h2, Sem.run_bind, run_index_string w t _ k _ hu]
  rw [dif_pos (by rw [sz_mk]; omega)]
  subst h4
  rfl
theorem ay_cut_str {t : TypeId} {x : Operand} {lo hi : Option Operand} {l : List UInt8} {a b : Nat} (ho : o.op = .slice t x lo hi none) (hu : P.underlying t = some .string) (hx : Opd T0 fr x (SA l)) (hlo : loOf lo a T0 fr) (hhi : hiOf hi b l.length T0 fr) (h1 : a ≤ b) (h2 : b ≤ l.length) :
    AY P T0 ops o fr M (SA ((l.drop a).take (b - a))) := ay_of fun w0 G F ac w hs hf => by
  have e1 := (hx.use (o := o) (ops := ops) (by simp [ho, Op.operands]) hs.tab hf).eq
  have hL : (lo.map ac.eval = none ∧ a = 0) ∨ ∃ k, lo.map ac.eval = some (.int k (a : Int)) := by
    cases lo with
    | none => exact .inl ⟨rfl, hlo⟩
    | some y => obtain ⟨k, hk⟩ := hlo; exact .inr ⟨k, congrArg some (hk.use (o := o) (ops := ops) (by simp [ho, Op.operands]) hs.tab hf).eq⟩
  have hH : (hi.map ac.eval = none ∧ b = l.length) ∨ ∃ k, hi.map ac.eval = some (.int k (b : Int)) := by
    cases hi with
    | none => exact .inl ⟨rfl, hhi⟩
    | some y => obtain ⟨k, hk⟩ := hhi; exact .inr ⟨k, congrArg some (hk.use (o := o) (ops := ops) (by simp [ho, Op.operands]) hs.tab hf).eq⟩
  have hb := run_sliceBounds (P := P) (isS := false) (cap := l.length) (len := l.length) (w := w) (lo := a) (hi := b) (vlo := lo.map ac.eval) (vhi := hi.map ac.eval) h1 h2 hL hH
  refine ⟨.string ⟨((l.drop a).take (b - a)).toArray⟩, ?_, Rep.va _ _⟩
  simp only [execOp, ho, e1, Option.map_none, Sem.run_bind, run_sliceAt_string w t _ _ _ _ hu]
  simp [Instr.slice, run_underlying hu, sz_mk, hb, ext_mk]
theorem ay_cat {t t' : TypeId} {x y : Operand} {l m : List UInt8} (ho : o.op = .binOp .add t x y t') (hx : Opd T0 fr x (SA l)) (hy : Opd T0 fr y (SA m)) (hf : l.length + m.length ≤ 9223372036854775807) : AY P T0 ops o fr M (SA (l ++ m)) := ay_str ho hx hy fun w => by
  have h : ¬ ((((⟨l.toArray⟩ : ByteArray).size + (⟨m.toArray⟩ : ByteArray).size : Nat) : Int) > IntKind.i64.max) := by
    rw [sz_mk, sz_mk]; simp only [IntKind.max, IntKind.bits, IntKind.signed]; simp; omega
  simp only [Op.stringOp]
  rw [if_neg h, app_mk]; rfl
theorem ek_str {t : TypeId} {l m : List UInt8} : EqK P t (SA l) (SA m) (decide (l = m)) := fun _ _ _ _ _ _ _ _ hx hy => ⟨fun ho => ay_str ho hx hy fun w => by
  simp only [Op.stringOp, ByteArray.toList_mk]
  have : (l == m) = decide (l = m) := by rw [Bool.eq_iff_iff]; simp
  rw [← this]; rfl, fun ho => ay_str ho hx hy fun w => by
  simp only [Op.stringOp, ByteArray.toList_mk]
  have : (l == m) = decide (l = m) := by rw [Bool.eq_iff_iff]; simp
  rw [← this]; rfl⟩
/-- a sign's bytes -/
def encB (r : Int) : List UInt8 := (Utf8.encode r).data.toList
theorem ay_conv_sign {s d : TypeId} {x : Operand} {k : IntKind} {a : Int} {ts : TypeDesc} (ho : o.op = .convert s d x) (hs' : P.underlying s = some ts) (hd : P.underlying d = some .string) (hx : Opd T0 fr x (vA (.int k a))) : AY P T0 ops o fr M (SA (encB a)) := ay_of fun w0 G F a' w hs hf' =>
  ⟨.string (Utf8.encode a), by
    have h1 := (hx.use (o := o) (ops := ops) (by simp [ho, Op.operands]) hs.tab hf').eq
    simp only [execOp, ho, h1, Sem.run_bind, run_convert_int_string w s d k a (by rw [hs']; rfl) hd, Result.andThen_ok, Sem.run_pure], .of (by simp [vA, encB])⟩
/-- bytes are made a string -/
theorem run_bytesL (w : World) (src dst e : TypeId) (a : Option Addr) (c : Nat) (l : List UInt8) (hs : P.underlying src = some (.slice e)) (he : P.underlying e = some (.int .u8)) (hd : P.underlying dst = some .string)
    (hc : l ≠ [] → ∃ b off, a = some ⟨b, off, none⟩ ∧ ∀ j v, (l.flatMap u8T.enc)[j]? = some v → w.cell? ⟨b, off + j, none⟩ = some v) : (convert src dst (.slice a l.length c)).run P w = .ok (.string ⟨l.toArray⟩) w := by
  rw [run_convert_bytes_string w src dst e a l.length c hs he hd]
  have h0 : ∀ ad : Addr, l = [] → (Conv.bytesToString (.slice (some ad) l.length c)).run P w = .ok (.string ⟨l.toArray⟩) w := fun ad hl => by
    subst hl
    exact (run_bytesToString w ad 0 c [] (by simp [loadCells, loadCellsFrom])).trans rfl
  by_cases hl : l = []
  · cases a with
    | none => subst hl; simp [Conv.bytesToString]; rfl
    | some ad => exact h0 ad hl
  · obtain ⟨b, off, rfl, hcell⟩ := hc hl
    have hld := run_loadCells_list (P := P) (w := w) ⟨b, off, none⟩ (l.flatMap u8T.enc) (fun j v hv => by rw [Addr.add_lit]; exact hcell j v hv)
    rw [flen, show u8T.k = 1 from rfl, Nat.mul_one] at hld
    have he2 : ∀ l : List UInt8, l.flatMap u8T.enc = (l.map fun b => (b.toNat : Int)).map (Value.int .u8) := fun l => by
      induction l with
      | nil => rfl
      | cons x l ih => rw [List.flatMap_cons, ih]; rfl
    rw [he2] at hld
    refine (run_bytesToString w _ _ c _ hld).trans ?_
    congr 2
    have h3 : ∀ (l : List UInt8) (s : List UInt8), (l.map fun b => (b.toNat : Int)).foldl (fun (r : ByteArray) n => r.push (UInt8.ofNat n.toNat)) ⟨s.toArray⟩ = ⟨(s ++ l).toArray⟩ := fun l => by
      induction l with
      | nil => intro s; simp
      | cons x l ih =>
        intro s
        rw [List.map_cons, List.foldl_cons]
        have : (⟨s.toArray⟩ : ByteArray).push (UInt8.ofNat ((x.toNat : Int)).toNat) = ⟨(s ++ [x]).toArray⟩ := by
          simp [ByteArray.push]
        rw [this, ih]; simp
    exact h3 l []
theorem ay_conv_bytes {s d e : TypeId} {x : Operand} {l : List UInt8} (ho : o.op = .convert s d x) (hs' : P.underlying s = some (.slice e)) (he : P.underlying e = some (.int .u8)) (hd : P.underlying d = some .string) (hx : Opd T0 fr x (slA u8T l)) : AY P T0 ops o fr M (SA l) := ay_of fun w0 G F a' w hs hf' => by
  obtain ⟨ad, n, cap, h1, h2, _, _, _, h3⟩ := (hx.use (o := o) (ops := ops) (by simp [ho, Op.operands]) hs.tab hf').sl
  subst h2
  refine ⟨.string ⟨l.toArray⟩, ?_, Rep.va _ _⟩
  have h4 := run_bytesL (P := P) w s d e ad cap l hs' he hd fun hl => let ⟨b, off, h5, h6⟩ := h3 hl; ⟨b, off, h5, fun j v hv => hs.imm _ _ _ (h6 j v hv)⟩
  simp only [execOp, ho, h1, Sem.run_bind, h4, Result.andThen_ok, Sem.run_pure]
end
end
/- Regions that draw their order and write more than once: every order is walked, and all of them end alike. No condition. -/
section
open Go Go.RowKit
section
variable {P : Program} {T0 : Gh} {N : Fz} {Q : Post} {fr : Fr} {M : List Own} {ops : Array Oper} {listed : Array Bool} {fuel : Nat}
theorem op_mono2 {o : Oper} {a : Act} {w : World} {K K' : Act → World → Prop} {Qc Qc' : Exit → Act → World → Prop} (hk : ∀ a w, K a w → K' a w) (hq : ∀ e a w, e ≠ .normal → Qc e a w → Qc' e a w) (h : o.wp P a w K Qc) : o.wp P a w K' Qc' := by
  unfold Oper.wp at h ⊢
  generalize (execOp a.eval o).run P w = r at *
  cases r with
  | ok n w' =>
    cases n <;> simp only [Oper.upon] at h ⊢ <;>
      first
        | exact hk _ _ h
        | exact Calls.mono h (fun e w'' he => by
            cases e
            · exact hk _ _ he
            · exact hq _ _ _ (by simp) he
            · obtain ⟨x, y, z⟩ := he; exact ⟨x, y, hq _ _ _ (by simp) z⟩)
        | exact Rows.mono h (fun _ _ he => hk _ _ he)
  | halt x w' => cases x <;> simp only [Oper.upon] at h ⊢ <;> first | exact hq _ _ _ (by simp) h | exact h
theorem wpAny_mono {md : Region.Mode} {Qc Qc' : Exit → Act → World → Prop} (hq : ∀ e a w, Qc e a w → Qc' e a w) : ∀ (fuel : Nat) (listed : Array Bool) (a : Act) (w : World), wpAny P md ops Qc fuel listed a w → wpAny P md ops Qc' fuel listed a w
  | 0, _, _, _, h => ⟨h.1, hq _ _ _ h.2⟩
  | fuel + 1, listed, a, w, h => by
    refine ⟨fun h0 => hq _ _ _ (h.1 h0), fun i hi => ?_⟩
    have h1 := h.2 i hi
    unfold wpOp at h1 ⊢
    cases ho : ops[i]? with
    | none => rw [ho] at h1; exact wpAny_mono hq fuel _ _ _ h1
    | some o =>
      rw [ho] at h1
      simp only at h1 ⊢
      split
      · rename_i hw; rw [if_pos hw] at h1
        exact h1.imp (fun h => op_mono2 (fun a w h => wpAny_mono hq fuel _ _ _ h) (fun e a w _ h => hq e a w h) h) (fun h => ⟨h.1, let ⟨x, y, z⟩ := h.2; ⟨x, y, hq _ _ _ z⟩⟩)
      · rename_i hw; rw [if_neg hw] at h1; exact wpAny_mono hq fuel _ _ _ h1
/-- every way ends in this -/
def joinQ (fr1 : Fr) (M1 : List Own) : Post := fun e fr M => e = .normal ∧ Weak fr fr1 ∧ List.Sublist M1 M
/-- whatever order is picked from here on -/
def AN (P : Program) (T0 : Gh) (N : Fz) (ops : Array Oper) (Q : Post) (fuel : Nat) (listed : Array Bool) (fr : Fr) (M : List Own) : Prop := ∀ w0 G F a w, Con T0 N w0 G F fr M a w → wpAny P .any ops (cQ T0 N w0 G F Q) fuel listed a w
def AllI : List Nat → (Nat → Prop) → Prop
  | [], _ => True
  | i :: l, p => p i ∧ AllI l p
theorem AllI.mem {p : Nat → Prop} : ∀ {l : List Nat}, AllI l p → ∀ i ∈ l, p i
  | [], _, i, hi => by cases hi
  | x :: l, h, i, hi => by
    rcases List.mem_cons.1 hi with rfl | hi
    · exact h.1
    · exact AllI.mem h.2 i hi
theorem ai_nil {p : Nat → Prop} : AllI [] p := trivial
theorem ai_cons {p : Nat → Prop} {i : Nat} {l : List Nat} (h : p i) (k : AllI l p) : AllI (i :: l) p := ⟨h, k⟩
/-- which operations may come up, told by lists -/
def depsB (s : List Bool) : List Edge → Bool
  | [] => true
  | e :: es => (!Region.binds .any e || s.getD e.on false) && depsB s es
def readyF (s : List Bool) : Nat → List Oper → List Bool → List Nat
  | k, o :: l, b :: r => bif !b && depsB s o.after.toList then k :: readyF s (k + 1) l r else readyF s (k + 1) l r
  | _, _, _ => []
theorem depsB_iff (s : List Bool) : ∀ es : List Edge, depsB s es = true ↔ ∀ e ∈ es, Region.binds .any e = true → s.getD e.on false = true
  | [] => by simp [depsB]
  | e :: es => by
    simp only [depsB, Bool.and_eq_true, depsB_iff s es, List.mem_cons, forall_eq_or_imp]
    cases Region.binds .any e <;> simp
theorem readyF_mem (s : List Bool) : ∀ (k : Nat) (l : List Oper) (r : List Bool) (i : Nat), i ∈ readyF s k l r ↔ ∃ j o, i = k + j ∧ l[j]? = some o ∧ r[j]? = some false ∧ depsB s o.after.toList = true
  | k, [], r, i => by simp [readyF]
  | k, o :: l, [], i => by simp [readyF]
  | k, o :: l, b :: r, i => by
    have ih := readyF_mem s (k + 1) l r i
    have hsplit : (∃ j o', i = k + j ∧ (o :: l)[j]? = some o' ∧ (b :: r)[j]? = some false ∧ depsB s o'.after.toList = true) ↔ (i = k ∧ b = false ∧ depsB s o.after.toList = true) ∨ ∃ j o', i = k + 1 + j ∧ l[j]? = some o' ∧ r[j]? = some false ∧ depsB s o'.after.toList = true := by
      constructor
      · rintro ⟨j, o', h1, h2, h3, h4⟩
        cases j with
        | zero => simp at h2 h3; subst h2; exact .inl ⟨by omega, h3, h4⟩
        | succ j => exact .inr ⟨j, o', by omega, by simpa using h2, by simpa using h3, h4⟩
      · rintro (⟨h1, h2, h3⟩ | ⟨j, o', h1, h2, h3, h4⟩)
        · exact ⟨0, o, by omega, rfl, by simp [h2], h3⟩
        · exact ⟨j + 1, o', by omega, by simpa using h2, by simpa using h3, h4⟩
    rw [hsplit, ← ih]
    have hu : readyF s k (o :: l) (b :: r) = (bif !b && depsB s o.after.toList then k :: readyF s (k + 1) l r else readyF s (k + 1) l r) := rfl
    rw [hu]
    cases hb : (!b && depsB s o.after.toList) with
    | true =>
      simp only [Bool.and_eq_true, Bool.not_eq_true'] at hb
      simp only [cond_true, List.mem_cons]
      constructor
      · rintro (h | h)
        · exact .inl ⟨h, hb.1, hb.2⟩
        · exact .inr h
      · rintro (h | h)
        · exact .inl h.1
        · exact .inr h
    | false =>
      simp only [cond_false]
      constructor
      · exact fun h => .inr h
      · rintro (h | h)
        · simp [h.2.1, h.2.2] at hb
        · exact h
theorem ready_F (l : List Oper) (s : List Bool) (i : Nat) : i ∈ Region.ready .any l.toArray s.toArray ↔ i ∈ readyF s 0 l s := by
  rw [mem_ready, readyF_mem]
  constructor
  · rintro ⟨h1, o, h2, h3⟩
    refine ⟨i, o, by omega, by simpa using h2, ?_, (depsB_iff s _).2 fun e he hb => ?_⟩
    · rcases Nat.lt_or_ge i s.length with h | h
      · simp [h] at h1; simp [h, h1]
      · simp [List.getElem?_eq_none h] at h1
    · have := h3 e (by simpa using he) hb
      simpa using this
  · rintro ⟨j, o, h1, h2, h3, h4⟩
    obtain rfl : i = j := by omega
    refine ⟨by simp [h3], o, by simpa using h2, fun e he hb => ?_⟩
    have := (depsB_iff s _).1 h4 e (by simpa using he) hb
    simpa using this
def AtI (P : Program) (T0 : Gh) (N : Fz) (l : List Oper) (Q : Post) (fuel : Nat) (s : List Bool) (fr : Fr) (M : List Own) (i : Nat) : Prop := ∃ o, l[i]? = some o ∧ AL P T0 N false l.toArray (thenA (AN P T0 N l.toArray Q fuel (s.set i true).toArray) Q) [o] fr M
theorem an_all {l : List Oper} {s : List Bool} {L : List Nat} (hL : readyF s 0 l s = L) (hne : L.isEmpty = false) (h : AllI L (AtI P T0 N l Q fuel s fr M)) : AN P T0 N l.toArray Q (fuel + 1) s.toArray fr M := fun w0 G F a w hc => by
  subst hL
  refine ⟨fun h0 => ?_, fun i hi => ?_⟩
  · cases hL : readyF s 0 l s with
    | nil => rw [hL] at hne; cases hne
    | cons i r =>
      have := (ready_F l s i).2 (by rw [hL]; exact List.mem_cons_self)
      rw [h0] at this; cases this
  obtain ⟨o, ho, hal⟩ := h.mem i ((ready_F l s i).1 hi)
  simp only [AL, Bool.false_eq_true, if_false] at hal
  have h1 := hal w0 G F a w hc
  rw [List.setIfInBounds_toArray]
  have hnext : ∀ a' w', cQ T0 N w0 G F (thenA (AN P T0 N l.toArray Q fuel (s.set i true).toArray) Q) .normal a' w' → wpAny P .any l.toArray (cQ T0 N w0 G F Q) fuel (s.set i true).toArray a' w' := fun a' w' ⟨fr', M', G', q1, q2, q3⟩ =>
    wpAny_mono (fun _ _ _ q => q.mono (fun _ _ _ h => h) q2) _ _ _ _ ((show AN P T0 N l.toArray Q fuel (s.set i true).toArray fr' M' from q1) w0 G' F a' w' q3)
  have hexit : ∀ e a' w', cQ T0 N w0 G F (thenA (AN P T0 N l.toArray Q fuel (s.set i true).toArray) Q) e a' w' → e ≠ .normal → cQ T0 N w0 G F Q e a' w' := fun e a' w' ⟨fr', M', G', q1, q2, q3⟩ hne' => by
    refine ⟨fr', M', G', ?_, q2, q3⟩
    cases e with
    | normal => exact absurd rfl hne'
    | _ => exact q1
  have ho' : l.toArray[i]? = some o := by simpa using ho
  unfold wpOp; rw [ho']
  unfold wpList at h1
  simp only
  split at h1
  · rename_i hw; rw [if_pos hw]
    exact h1.imp (fun h => op_mono2 (fun a w h => hnext a w h) (fun e a w hne h => hexit e a w h hne) h) (fun h => ⟨h.1, let ⟨x, y, z⟩ := h.2; ⟨x, y, hexit _ _ _ z (by simp)⟩⟩)
  · rename_i hw; rw [if_neg hw]; exact hnext _ _ h1
theorem an_end {l : List Oper} {s : List Bool} (h : Q .normal fr M) (hL : (readyF s 0 l s).isEmpty = true) : AN P T0 N l.toArray Q fuel s.toArray fr M := fun w0 G F a w hc => by
  have hL' : Region.ready .any l.toArray s.toArray = [] := by
    rw [List.eq_nil_iff_forall_not_mem]
    intro i hi
    rw [ready_F, List.isEmpty_iff.1 hL] at hi; cases hi
  cases fuel with
  | zero => exact ⟨hL', fr, M, G, h, Gh.le.refl _, hc⟩
  | succ n => exact ⟨fun _ => ⟨fr, M, G, h, Gh.le.refl _, hc⟩, fun i hi => by rw [hL'] at hi; cases hi⟩
theorem aw_regionN {id : Nat} {l : List Oper} {d1 : Fr} {M1 : List Own} (hn : noisyB l = true) (hm : P.follows .mixedOrders = true) (h : AN P T0 N l.toArray (joinQ (d1 ++ fr) M1) l.length (List.replicate l.length false).toArray fr M) (k : Q .normal (d1 ++ fr) M1) : AW P T0 N (.region id l.toArray true) Q fr M := fun w0 G F a w hc =>
  wp_region_any hm (by
    have h1 := h w0 G F a _ ⟨hc.st.drew, hc.fr, hc.size, hc.defers⟩
    simp only [List.size_toArray]
    have e : Array.replicate l.length false = (List.replicate l.length false).toArray := by simp
    rw [e]
    refine wpAny_mono (fun e a' w' q => ?_) _ _ _ _ h1
    obtain ⟨fr', M', G', ⟨rfl, hw, hs⟩, hl, hc'⟩ := q
    exact ⟨d1 ++ fr, M1, G', k, hl, hc'.st.sub (hs.append (List.Sublist.refl F)), hw G' a'.tmps hc'.fr, hc'.size, hc'.defers⟩)
theorem at_i {l : List Oper} {s : List Bool} {i : Nat} {o : Oper} (ho : l[i]? = some o) (h : AL P T0 N false l.toArray (thenA (AN P T0 N l.toArray Q fuel (s.set i true).toArray) Q) [o] fr M) : AtI P T0 N l Q fuel s fr M i := ⟨o, ho, h⟩
/-- what is new in front of a frame -/
inductive Ext1 (base : Fr) : Fr → Fr → Prop
  | nil : Ext1 base base []
  | cons {s : Nat} {A : AV} {fr d : Fr} (h : Ext1 base fr d) : Ext1 base ((s, A) :: fr) ((s, A) :: d)
theorem ext1_ {base fr d : Fr} (h : Ext1 base fr d := by
  first
  | (repeat (first | exact Ext1.nil | apply Ext1.cons)
     done)
  | fail) : Ext1 base fr d := h
theorem Ext1.eq {base fr d : Fr} (h : Ext1 base fr d) : fr = d ++ base := by
  induction h with
  | nil => rfl
  | cons h ih => rw [ih]; rfl
/-- the first way to the end tells the end; the others are held against it -/
theorem j_first {fr0 fr' d : Fr} (h : Ext1 fr0 fr' d) : joinQ (d ++ fr0) M .normal fr' M := ⟨rfl, by rw [h.eq]; exact Weak.refl _, List.Sublist.refl _⟩
theorem j_next {fr0 fr' d : Fr} {l : List Nat} (h : ExtF fr0 fr' l) (hk : Weak fr' d) (hc : apartB (slots d) (slots fr0) l = true) : joinQ (d ++ fr0) M .normal fr' M :=
  ⟨rfl, weak_ext (d := []) h hk (by rw [hc]; simp [slots, apartB]), List.Sublist.refl _⟩
end
end
/- More rules: loops that turn a variable, greatest and least of two, cuts that leave no room. No condition. -/
section
open Go Go.RowKit
section
variable {P : Program} {T0 : Gh} {N : Fz} {Q : Post} {fr : Fr} {M : List Own} {c : Code} {σ : Type} {ops : Array Oper} {o : Oper}
/-- a variable that is owned turns -/
theorem aw_lv {b : Nat} {e : TypeId} {cells0 : List AV} {f : Own → List Own} (d : σ → Fr) (g : σ → List AV) (inv : σ → Prop) (μ : σ → Nat) (s0 : σ) (h0 : inv s0) (hl : cells0 = g s0)
    (round : ∀ s, inv s → AW P T0 N c (thenA (fun fr' M' => ∃ s', inv s' ∧ μ s' < μ s ∧ Weak fr' (d s' ++ fr) ∧ List.Sublist (f (varO b e (g s'))) M') Q) (d s ++ fr) (f (varO b e (g s)))) (hU : UpdF (varO b e cells0) M f := by first | exact upf_ | fail) (hf0 : Weak fr (d s0) := by first | exact wk_ | fail) : AW P T0 N (.loop c) Q fr M := by
  obtain ⟨i, h1, h2⟩ := hU.spec
  subst hl
  refine aw_fl (fun s => d s ++ fr) (fun s => f (varO b e (g s))) inv μ s0 h0 (weak_in hf0) ?_ round
  rw [h2, set_same h1]; exact List.Sublist.refl _
theorem ay_maxi {ts : Array TypeId} {x y : Operand} {k : IntKind} {a b : Int} (ho : o.op = .call { callee := .builtin .max, args := #[x, y], argTypes := ts }) (hx : Opd T0 fr x (vA (.int k a))) (hy : Opd T0 fr y (vA (.int k b))) : AY P T0 ops o fr M (vA (.int k (max a b))) := ay_of fun w0 G F ac w hs hf => by
  have e1 := (hx.use (o := o) (ops := ops) (by simp [ho, Op.operands, Call.operands]) hs.tab hf).eq
  have e2 := (hy.use (o := o) (ops := ops) (by simp [ho, Op.operands, Call.operands]) hs.tab hf).eq
  refine ⟨.int k (max a b), ?_, Rep.va _ _⟩
  simp only [execOp, ho, resolve]
  simp [invoke, builtin, e1, e2, Go.Lib.run_max_ints]
theorem ay_mini {ts : Array TypeId} {x y : Operand} {k : IntKind} {a b : Int} (ho : o.op = .call { callee := .builtin .min, args := #[x, y], argTypes := ts }) (hx : Opd T0 fr x (vA (.int k a))) (hy : Opd T0 fr y (vA (.int k b))) : AY P T0 ops o fr M (vA (.int k (min a b))) := ay_of fun w0 G F ac w hs hf => by
  have e1 := (hx.use (o := o) (ops := ops) (by simp [ho, Op.operands, Call.operands]) hs.tab hf).eq
  have e2 := (hy.use (o := o) (ops := ops) (by simp [ho, Op.operands, Call.operands]) hs.tab hf).eq
  refine ⟨.int k (min a b), ?_, Rep.va _ _⟩
  simp only [execOp, ho, resolve]
  simp [invoke, builtin, e1, e2, Go.Lib.run_min_ints]
/-- x[lo:hi:hi] -/
theorem ay_slice3 {α : Type} {T : Ty α} {t e : TypeId} {x y z : Operand} {lo : Option Operand} {l : List α} {d : α} {by' a b : Nat} {k k' : IntKind} {av : α → AV} (ho : o.op = .slice t x lo (some y) (some z)) (hu : P.underlying t = some (.slice e)) (he : El P T e d by' av) (hx : Opd T0 fr x (slA T l)) (hlo : loOf lo a T0 fr) (hy : OpdN T0 fr y k b) (hz : OpdN T0 fr z k' b) (h1 : a ≤ b) (h2 : b ≤ l.length) :
    AY P T0 ops o fr M (slcA T ((l.drop a).take (b - a))) := ay_of fun w0 G F ac w hs hf => by
  obtain ⟨ad, n, cap, e1, e2, e3, e4, e5, e6⟩ := (hx.use (o := o) (ops := ops) (by simp [ho, Op.operands]) hs.tab hf).sl
  have hl : ((lo.map ac.eval) = none ∧ a = 0) ∨ ∃ k, (lo.map ac.eval) = some (.int k (a : Int)) := by
    cases lo with
    | none => exact .inl ⟨rfl, hlo⟩
    | some y => obtain ⟨k, hk⟩ := hlo; exact .inr ⟨k, by rw [Option.map_some, (hk.use (o := o) (ops := ops) (by simp [ho, Op.operands]) hs.tab hf).eq]⟩
  have e7 := ((show Opd T0 fr y (vA (.int k (b : Int))) from hy).use (o := o) (ops := ops) (by simp [ho, Op.operands]) hs.tab hf).eq
  have e8 := ((show Opd T0 fr z (vA (.int k' (b : Int))) from hz).use (o := o) (ops := ops) (by simp [ho, Op.operands]) hs.tab hf).eq
  have hb : (Instr.sliceBounds true n cap (lo.map ac.eval) (some (.int k (b : Int))) (some (.int k' (b : Int)))).run P w = .ok (a, b, b) w := by
    rcases hl with ⟨h, rfl⟩ | ⟨k, h⟩ <;> rw [h] <;> simp [Instr.sliceBounds, run_sliceBound, h1, show b ≤ cap by omega]
  refine ⟨.slice (if b = a then ad else ad.map (·.add (a * T.k))) (b - a) (b - a), ?_, .of ⟨_, _, rfl, by simp; omega, by omega, cut_sl e6 e2 h1 (by omega) (by omega)⟩⟩
  simp only [execOp, ho, e1]
  simp [run_sliceAt_slice _ _ _ _ _ _ (elem_of hu), Instr.slice, run_underlying hu, hb, he.size, e7, e8]
/-- a scope that is gone through without a jump -/
theorem aw_scope {c : Code} (hg : ∀ l fr M, ¬ Q (.goto l) fr M) (h : AW P T0 N c Q fr M) : AW P T0 N (.scope c) Q fr M := fun w0 G F a w hc =>
  wp_scope_straight (wp_mono (h w0 G F a w hc) fun e a' w' q => by
    cases e with
    | goto l => obtain ⟨fr', M', G', q1, _⟩ := q; exact absurd q1 (hg l fr' M')
    | _ => exact q)
theorem aw_label {l : Nat} (h : Q .normal fr M) : AW P T0 N (.label l) Q fr M := fun _ _ _ _ _ hc => wp_label ⟨fr, M, _, h, Gh.le.refl _, hc⟩
/-! ### what is handed back, some of it in variables -/
inductive ResL (P : Program) (M : List Own) (fr : Fr) : List ResultVar → List AV → Prop
  | nil : ResL P M fr [] []
  | tmp {t : Nat} {A : AV} {r : List ResultVar} {l : List AV} (h : fr.get t = some A) (k : ResL P M fr r l) : ResL P M fr (.tmp t :: r) (A :: l)
  | agg {s t e b n : Nat} {cells : List AV} {r : List ResultVar} {l : List AV} (ha : ∀ w, (isAgg t).run P w = .ok true w) (hs : fr.get s = some (vA (.pointer (some ⟨b, 0, none⟩)))) (hM : varO b e cells ∈ M) (hz : ∀ w, (sizeOf t).run P w = .ok n w) (hl : cells.length = n) (k : ResL P M fr r l) : ResL P M fr (.cell s t :: r) (aggA cells :: l)
  | one {s t e b : Nat} {A : AV} {r : List ResultVar} {l : List AV} (ha : ∀ w, (isAgg t).run P w = .ok false w) (hs : fr.get s = some (vA (.pointer (some ⟨b, 0, none⟩)))) (hM : varO b e [A] ∈ M) (k : ResL P M fr r l) : ResL P M fr (.cell s t :: r) (A :: l)
def rvOf (tmps : Array Value) : ResultVar → Sem Value
  | .tmp t => pure (tmps.getD t undef)
  | .cell a t => do loadVar t (← asAddr (tmps.getD a undef))
theorem results_rv (fn : Func) (tmps : Array Value) : results fn tmps = (do let vs ← fn.results.mapM (rvOf tmps); pure (if h : vs.size = 1 then vs[0] else .tuple vs)) := by
  have h : (fun (r : ResultVar) => match r with | .tmp t => (pure (tmps.getD t undef) : Sem Value) | .cell a t => (do loadVar t (← asAddr (tmps.getD a undef)))) = rvOf tmps := by
    funext r; cases r <;> rfl
  rw [← h]; rfl
theorem run_loadVar1 {t e : TypeId} {b : Nat} {u : Value} {w : World} (ha : ∀ w, (isAgg t).run P w = .ok false w) (h : w.heap[b]? = some (.cells #[u] e (0, 0))) : (loadVar t ⟨b, 0, none⟩).run P w = .ok u w := by
  have hc : w.cell? ⟨b, 0, none⟩ = some u := (cell_of_row _ _ _ _ _ _ h).trans rfl
  simp only [loadVar]
  simp [ha, load, Sem.run, hc]
theorem ResL.run {T0 : Gh} {w0 : World} {G : Gh} {F : List Own} {tmps : Array Value} {w : World} (st : St T0 w0 G (M ++ F) w) (hr : frRel G fr tmps) : ∀ {rs : List ResultVar} {l : List AV}, ResL P M fr rs l →
    ∃ us, (rs.mapM (rvOf tmps)).run P w = .ok us w ∧ AllRep G l us := by
  intro rs l h
  induction h with
  | nil => exact ⟨[], by simp, trivial⟩
  | tmp h k ih =>
    obtain ⟨us, h1, h2⟩ := ih
    exact ⟨_ :: us, by simp only [List.mapM_cons, rvOf, Sem.run_bind, Sem.run_pure, Result.andThen_ok, h1], slot_get hr h, h2⟩
  | agg ha hs hM hz hl k ih =>
    obtain ⟨us, h1, h2⟩ := ih
    obtain ⟨u, h3, h4⟩ := run_loadVarn ha (by rw [hl]; exact hz) (st.own _ (List.mem_append_left F hM))
    have h5 := (slot_get hr hs).eq
    refine ⟨u :: us, ?_, h4, h2⟩
    simp only [List.mapM_cons, rvOf, Sem.run_bind, h5, asAddr, Sem.run_pure, Result.andThen_ok, h3, h1]
  | one ha hs hM k ih =>
    obtain ⟨us, h1, h2⟩ := ih
    obtain ⟨cs, h3, h4⟩ := st.own _ (List.mem_append_left F hM)
    obtain ⟨u, rfl⟩ : ∃ u, cs = [u] := List.length_eq_one_iff.1 h4.len
    have h5 := (slot_get hr hs).eq
    refine ⟨u :: us, ?_, h4.1, h2⟩
    have h6 := run_loadVar1 ha h3
    simp only [List.mapM_cons, rvOf, Sem.run_bind, h5, asAddr, Sem.run_pure, Result.andThen_ok, h6, h1]
theorem resL {T0 : Gh} {fn : Func} {rs : List ResultVar} {l : List AV} (h : fn.results.toList = rs) (k : ResL P M fr rs l) (hl : Nat.beq l.length 1 = false) : ResA P T0 fn fr M (tupA l) := fun w0 G F tmps w st hr => by
  obtain ⟨us, h1, h2⟩ := k.run st hr
  have hn : us.toArray.size ≠ 1 := fun e => by
    have e2 : l.length = 1 := by rw [← h2.len]; simpa using e
    rw [e2] at hl; simp at hl
  refine ⟨.tuple us.toArray, ?_, .of ⟨us, rfl, h2⟩⟩
  have h' : fn.results = rs.toArray := by rw [← h]
  rw [results_rv, h', List.mapM_toArray]
  simp only [Sem.run_bind, map_eq_pure_bind, bind_assoc, Sem.run_pure, h1, Result.andThen_ok, dif_neg hn, pure_bind]
end
theorem rl_ {T0 : Gh} {fr : Fr} {M : List Own} {fn : Func} {A : AV} (h : ResA Tryd.prog T0 fn fr M A := by
  first
  | exact rs_
  | (apply resL rfl
     (case k => (repeat' (first
       | exact ResL.nil
       | (apply ResL.tmp; rfl)
       | (apply ResL.agg; exact agg_; rfl; exact mem_; exact sz_; rfl)
       | (apply ResL.one; exact agg_; rfl; exact mem_))))
     (case hl => rfl)
     done)
  | fail) : ResA Tryd.prog T0 fn fr M A := h
end
/- Rules: pointers that are there, interfaces, panics, calls that may panic, maps. No condition. -/
section
open Go Go.RowKit Go.MapKept
theorem get_in {α : Type} [Inhabited α] {l : List α} {i : Nat} (h : i < l.length) : l[i]? = some (l[i]!) := by simp [h]
section
variable {P : Program} {T0 : Gh} {N : Fz} {Q : Post} {fr : Fr} {M M' : List Own} {ops : Array Oper} {o : Oper} {rest : List Oper} {x0 : Nat}
theorem ay_nilp {x : Operand} {a : Addr} (ho : o.op = .nilCheck x) (hx : Opd T0 fr x (vA (.pointer (some a)))) : AY P T0 ops o fr M (vA (.pointer (some a))) := ay_of fun w0 G F ac w hs hf => ⟨.pointer (some a), by
  have h1 := (hx.use (o := o) (ops := ops) (by simp [ho, Op.operands]) hs.tab hf).eq
  simp [execOp, ho, h1], Rep.va _ _⟩
theorem ay_iface {x : Operand} {t : TypeId} {k : IntKind} {v : Value} (ho : o.op = .makeInterface t x) (hd : P.underlying t = some (.int k)) (hx : Opd T0 fr x (vA v)) : AY P T0 ops o fr M (vA (.iface t v)) := ay_of fun w0 G F ac w hs hf => ⟨.iface t v, by
  have h1 := (hx.use (o := o) (ops := ops) (by simp [ho, Op.operands]) hs.tab hf).eq
  simp [execOp, ho, h1, Instr.makeInterface, run_underlying hd], Rep.va _ _⟩
theorem al_panic {x : Operand} {t : TypeId} {v : Value} (hg : o.guard = none) (hd : o.dst = none) (ho : o.op = .panic x) (hx : Opd T0 fr x (vA (.iface t v))) (h : Q (.panic [{ v := .iface t v, recovered := false }]) fr M) : AL P T0 N false ops Q (o :: rest) fr M := by
  refine al_en (K := fun _ _ => False) (KP := fun c M' => c = [{ v := .iface t v, recovered := false }] ∧ M' = M) hg (fun w0 G F a w next Qc hs hf hk hp => ?_) hd ?_ (fun _ _ h => h.elim)
  · have h1 := (hx.use (o := o) (ops := ops) (by simp [ho, Op.operands]) hs.tab hf).eq
    have hrun : (execOp a.eval o).run P w = .halt (.panic (.iface t v)) w := by simp [execOp, ho, h1, run_panic_iface]
    unfold Oper.wp; rw [hrun]
    exact hp _ M G w ⟨rfl, rfl⟩ (Gh.le.refl _) hs
  · rintro c M' ⟨rfl, rfl⟩; exact h
/-- a call whose contract owns the first m and may panic -/
theorem al_call1p {f : FuncId} {args : Array Operand} {ts : Array TypeId} {As : List AV} {m : Own} {K : AV → List Own → Prop} {KP : List PanicEntry → List Own → Prop} (hg : o.guard = none) (hd : o.dst = some x0) (hN : Nat.blt x0 N.n = true) (ho : o.op = .call { callee := .value (.func f), args := args, argTypes := ts }) (ha : OpdAll T0 fr args.toList As) (c : AF P T0 f As [m] K KP) (hM : Pick m M M')
    (hp : ∀ ch M1, KP ch M1 → Q (.panic ch) fr (M1 ++ M')) (h : ∀ A M1, K A M1 → AL P T0 N false ops Q rest ((x0, A) :: fr) (M1 ++ M')) : AL P T0 N false ops Q (o :: rest) fr M := by
  refine al_ent (ent_perm2 hM.perm) ?_
  refine al_es hg (ao_call ho ha c rfl) hd hN (fun ch M2 h => by obtain ⟨M1, rfl, k⟩ := h; exact hp ch M1 k) ?_
  rintro A _ ⟨M1, rfl, k⟩
  exact h A M1 k
theorem rq_p {fn : Func} {K : AV → List Own → Prop} {KP : List PanicEntry → List Own → Prop} {c : List PanicEntry} (h : KP c M) : retQ P T0 fn K KP (.panic c) fr M := h
/-! ### maps -/
/-- a map that is ours: its entries, and its clock -/
def mapO (b : Nat) (es : List MapEntry) (clock : Nat) : Own where
  foot := some b
  holds := fun _ w => w.heap[b]? = some (.map es.toArray clock)
  mono := fun _ h => h
  loc := fun h k => (h _ rfl).trans k
theorem al_makeMap {t : TypeId} (hg : o.guard = none) (hd : o.dst = some x0) (hN : Nat.blt x0 N.n = true) (ho : o.op = .makeMap t none) (h : ∀ b, AL P T0 N false ops Q rest ((x0, vA (.map (some b))) :: fr) (mapO b [] 0 :: M)) : AL P T0 N false ops Q (o :: rest) fr M := by
  refine al_es (K := fun A M' => ∃ b, A = vA (.map (some b)) ∧ M' = mapO b [] 0 :: M) (KP := fun _ _ => False) hg (fun w0 G F a w next Qc hs hf hk hp => ?_) hd hN (fun _ _ h => h.elim) ?_
  · have hrun : (execOp a.eval o).run P w = .ok (.value (.map (some w.heap.size))) (w.alloc (.map #[] 0)) := by
      simp only [execOp, ho, Option.map_none, Sem.run_bind, show (Instr.makeMap t none).run P w = .ok (.map (some w.heap.size)) (w.alloc (.map #[] 0)) from rfl, Result.andThen_ok, Sem.run_pure]
    unfold Oper.wp; rw [hrun]
    exact hk _ (mapO w.heap.size [] 0 :: M) G _ _ ⟨_, rfl, rfl⟩ (Gh.le.refl _) (hs.alloc _ (mapO w.heap.size [] 0) rfl (heap_alloc_new w _)) (Rep.va _ _)
  · rintro _ _ ⟨b, rfl, rfl⟩; exact h b
theorem al_insert {t kt et : TypeId} {d : TypeDesc} {x y z : Operand} {b clock : Nat} {es : List MapEntry} {kv vv : Value} {f : Own → List Own} (hg : o.guard = none) (hd : o.dst = none) (ho : o.op = .insert t x y z) (hu : P.underlying t = some (.map kt et)) (hk0 : P.underlying kt = some d) (hk : IsKey d kv) (hx : Opd T0 fr x (vA (.map (some b)))) (hy : Opd T0 fr y (vA kv)) (hz : Opd T0 fr z (vA vv))
    (hn : Instr.findNow d kv es 0 = some none) (hU : UpdF (mapO b es clock) M f) (h : AL P T0 N false ops Q rest fr (f (mapO b (es ++ [(⟨kv, vv, clock⟩ : MapEntry)]) (clock + 1)))) : AL P T0 N false ops Q (o :: rest) fr M := by
  obtain ⟨i, k1, k2⟩ := hU.spec
  refine al_en (K := fun _ M' => M' = M.set i (mapO b (es ++ [(⟨kv, vv, clock⟩ : MapEntry)]) (clock + 1))) (KP := fun _ _ => False) hg (fun w0 G F a w next Qc hs hf hkk hp => ?_) hd (fun _ _ h => h.elim) ?_
  · have e1 := (hx.use (o := o) (ops := ops) (by simp [ho, Op.operands]) hs.tab hf).eq
    have e2 := (hy.use (o := o) (ops := ops) (by simp [ho, Op.operands]) hs.tab hf).eq
    have e3 := (hz.use (o := o) (ops := ops) (by simp [ho, Op.operands]) hs.tab hf).eq
    obtain ⟨hM1, hM2⟩ := setAppend (F := F) (m' := mapO b (es ++ [(⟨kv, vv, clock⟩ : MapEntry)]) (clock + 1)) k1
    have hh : w.heap[b]? = some (.map es.toArray clock) := hs.own _ (List.mem_of_getElem? hM1)
    have hrun : (execOp a.eval o).run P w = .ok .skip { w with heap := w.heap.setIfInBounds b (.map (es ++ [(⟨kv, vv, clock⟩ : MapEntry)]).toArray (clock + 1)) } := by
      simp only [execOp, ho, e1, e2, e3, Instr.mapUpdate, Sem.run_bind, run_underlying hu, Result.andThen_ok, MapKept.run_getObj_map hh, MapKept.run_checkKey hk0 hk, MapKept.run_findKey (l := es.toArray.toList) hk0 (by simpa using hn), MapKept.run_setObj_map _ hh, Sem.run_pure]
      simp
    unfold Oper.wp; rw [hrun]
    refine hkk anyA _ G undef _ rfl (Gh.le.refl _) ?_ (Rep.any _ _)
    rw [← hM2]
    have hset := heap_set (o' := .map (es ++ [(⟨kv, vv, clock⟩ : MapEntry)]).toArray (clock + 1)) hh
    refine hs.grown hM1 ⟨rfl, rfl, rfl, by simp, fun k _ hk => hset.2 k (fun e => hk (by rw [e]; rfl))⟩ hset.1 (fun b' hb' => ⟨.inl hb', ?_⟩)
    have : b = b' := Option.some.inj hb'
    subst this
    simpa using (Array.getElem?_eq_some_iff.1 hh).1
  · rintro _ _ rfl
    rw [k2] at h; exact h
theorem ay_lookup {t kt et : TypeId} {d : TypeDesc} {x y : Operand} {b clock i : Nat} {es : List MapEntry} {kv vv : Value} (ho : o.op = .lookup t x y false) (hu : P.underlying t = some (.map kt et)) (hk0 : P.underlying kt = some d) (hk : IsKey d kv) (hx : Opd T0 fr x (vA (.map (some b)))) (hy : Opd T0 fr y (vA kv)) (hM : mapO b es clock ∈ M) (hn : Instr.findNow d kv es 0 = some (some (i, vv))) : AY P T0 ops o fr M (vA vv) := ay_of fun w0 G F a w hs hf => by
  have e1 := (hx.use (o := o) (ops := ops) (by simp [ho, Op.operands]) hs.tab hf).eq
  have e2 := (hy.use (o := o) (ops := ops) (by simp [ho, Op.operands]) hs.tab hf).eq
  have hh : w.heap[b]? = some (.map es.toArray clock) := hs.own _ (List.mem_append_left F hM)
  refine ⟨vv, ?_, Rep.va _ _⟩
  simp only [execOp, ho, e1, e2, Instr.lookup, Sem.run_bind, run_underlying hu, Result.andThen_ok, MapKept.run_getObj_map hh, Sem.run_pure, MapKept.run_checkKey hk0 hk, MapKept.run_findKey (l := es.toArray.toList) hk0 (by simpa using hn)]
  simp
end
end
/- Regions that draw their order, whose last operation does not wait for one idle operation (an answer that is left): both orders are walked. No condition. -/
section
open Go Go.RowKit
section
variable {P : Program} {T0 : Gh} {N : Fz} {Q : Post} {fr : Fr} {M : List Own} {ops : Array Oper}
/-- each operation but the writing one (L) and the idle one (d) is one that a later one waits for, which is not the idle one -/
def lastD (d L : Nat) (md : Region.Mode) (ops : Array Oper) : Bool := (List.range ops.size).all fun i => Nat.beq i d || Nat.beq i L || (List.range ops.size).any fun k => decide (i < k) && !Nat.beq k d && (ops[k]?).any fun o => o.after.any fun e => Region.binds md e && e.on == i
theorem lastD_spec {d L : Nat} {md : Region.Mode} (h : lastD d L md ops = true) {i : Nat} (hi : i < ops.size) (hiL : i ≠ L) (hid : i ≠ d) : ∃ k o, i < k ∧ k ≠ d ∧ ops[k]? = some o ∧ ∃ e ∈ o.after, Region.binds md e = true ∧ e.on = i := by
  have := List.all_eq_true.1 h i (List.mem_range.2 hi)
  rw [nbeq_ne hid, nbeq_ne hiL, Bool.false_or, Bool.false_or] at this
  obtain ⟨k, _, h2⟩ := List.any_eq_true.1 this
  simp only [Bool.and_eq_true, decide_eq_true_eq, Bool.not_eq_true'] at h2
  obtain ⟨⟨h3, h3'⟩, h4⟩ := h2
  cases ho : ops[k]? with
  | none => rw [ho] at h4; cases h4
  | some o =>
    rw [ho] at h4
    simp only [Option.any_some, Array.any_eq_true, Bool.and_eq_true, beq_iff_eq] at h4
    obtain ⟨n, hn, h5, h6⟩ := h4
    exact ⟨k, o, h3, fun e => by (subst e; simp at h3'), ho, _, Array.getElem_mem hn, h5, h6⟩
theorem lastD_all {d L : Nat} {md : Region.Mode} {listed : Array Bool} (hS : Shut md ops listed) (hlast : lastD d L md ops = true) (hL : L ∈ Region.ready md ops listed) : ∀ n i, ops.size - i = n → i < ops.size → i ≠ L → i ≠ d → listed.getD i false = true := by
  intro n
  induction n using Nat.strongRecOn with
  | _ n ih =>
    intro i hn hi hiL hid
    obtain ⟨k, o, h1, hkd, h2, e, h3, h4, h5⟩ := lastD_spec hlast hi hiL hid
    have hk : k < ops.size := (Array.getElem?_eq_some_iff.1 h2).1
    by_cases hkL : k = L
    · obtain ⟨_, o', ho', hall⟩ := mem_ready.1 hL
      rw [← hkL, h2] at ho'; obtain rfl := Option.some.inj ho'
      rw [← h5]; exact hall e h3 h4
    · have := ih (ops.size - k) (by omega) k rfl (by omega) hkL hkd
      rw [← h5]; exact hS k o h2 this e h3 h4
def wpAnyC (P : Program) (T0 : Gh) (N : Fz) (md : Region.Mode) (ops : Array Oper) (L d : Nat) (QB QC : Fr → Prop) (M : List Own) : Nat → Array Bool → Fr → Prop
  | 0, _, _ => False
  | fuel + 1, listed, fr => Region.ready md ops listed ≠ [] ∧ ∀ i ∈ Region.ready md ops listed, ∀ o, ops[i]? = some o →
      (i = L ∧ fuel = 0 ∧ Region.ready md ops (listed.setIfInBounds i true) = [] ∧ QB fr) ∨
      (i = L ∧ fuel = 1 ∧ d ∈ Region.ready md ops (listed.setIfInBounds i true) ∧ (∀ k ∈ Region.ready md ops (listed.setIfInBounds i true), k = d) ∧ Region.ready md ops ((listed.setIfInBounds i true).setIfInBounds d true) = [] ∧ QC fr) ∨
      (i ≠ L ∧ (∀ x, o.dst = some x → x < N.n) ∧ ∃ A, QY P T0 ops o fr M A ∧ wpAnyC P T0 N md ops L d QB QC M fuel (listed.setIfInBounds i true) (fr.put o.dst A))
/-- the two ways to the end -/
theorem wpAny_of_C {md : Region.Mode} {L d : Nat} {oL od : Oper} {QB QC : Fr → Prop} {w0 : World} {F : List Own} {G0 : Gh} {Qc : Exit → Act → World → Prop} (hoL : ops[L]? = some oL) (hod : ops[d]? = some od)
    (hQ : ∀ fr' G a w, Gh.le G0 G → QB fr' → Con T0 N w0 G F fr' M a w → wpList P ops Qc [oL] a w)
    (hC : ∀ fr' G a w, Gh.le G0 G → QC fr' → Con T0 N w0 G F fr' M a w → wpList P ops Qc [oL, od] a w) : ∀ (fuel : Nat) (listed : Array Bool) (fr : Fr) (G : Gh) (a : Act) (w : World), Gh.le G0 G → Con T0 N w0 G F fr M a w →
    wpAnyC P T0 N md ops L d QB QC M fuel listed fr → wpAny P md ops Qc fuel listed a w
  | 0, _, _, _, _, _, _, _, h => h.elim
  | fuel + 1, listed, fr, G, a, w, hl, hc, h => by
    refine ⟨fun h0 => absurd h0 h.1, fun i hi => ?_⟩
    unfold wpOp
    cases ho : ops[i]? with
    | none => have := (mem_ready.1 hi).2; rw [ho] at this; obtain ⟨_, e, _⟩ := this; cases e
    | some o =>
      rcases h.2 i hi o ho with ⟨rfl, rfl, hnone, hq⟩ | ⟨rfl, rfl, hdr, hall, hnone, hq⟩ | ⟨_, hd, A, hy, hr⟩
      · rw [ho] at hoL; obtain rfl := Option.some.inj hoL
        have h3 := hQ fr G a w hl hq hc
        simp only
        unfold wpList at h3
        split at h3
        · rename_i hw
          rw [if_pos hw]
          exact h3.imp (fun h => op_mono (fun a w h => ⟨hnone, h⟩) h) (fun h => h)
        · rename_i hw
          rw [if_neg hw]
          exact ⟨hnone, h3⟩
      · rw [ho] at hoL; obtain rfl := Option.some.inj hoL
        have h3 := hC fr G a w hl hq hc
        have hcont : ∀ a w, wpList P ops Qc [od] a w → wpAny P md ops Qc 1 (listed.setIfInBounds i true) a w := fun a w h4 => by
          refine ⟨fun h0 => (by rw [h0] at hdr; cases hdr), fun k hk => ?_⟩
          obtain rfl := hall k hk
          unfold wpOp
          rw [hod]
          unfold wpList at h4
          simp only
          split at h4
          · rename_i hw
            rw [if_pos hw]
            exact h4.imp (fun h => op_mono (fun a w h => ⟨hnone, h⟩) h) (fun h => h)
          · rename_i hw
            rw [if_neg hw]
            exact ⟨hnone, h4⟩
        unfold wpList at h3
        simp only
        split at h3
        · rename_i hw
          rw [if_pos hw]
          exact h3.imp (fun h => op_mono (fun a w h => hcont a w h) h) (fun h => h)
        · rename_i hw
          rw [if_neg hw]
          exact hcont _ _ h3
      · obtain ⟨h1, h2⟩ := hy w0 G F a w hc.st (fun s A _ e => hc.fr s A trivial e)
        simp only
        by_cases hw : Region.wanted o (yielded ops a.tmps) = true
        · rw [if_pos hw]
          refine .inl (h1 hw _ _ fun G' u w' hl' hs hu => ?_)
          exact wpAny_of_C hoL hod hQ hC fuel _ _ G' _ w' (hl.trans hl') (hc.put hl' hs hd hu) hr
        · rw [if_neg hw]
          exact wpAny_of_C hoL hod hQ hC fuel _ _ G _ w hl (hc.put (Gh.le.refl _) hc.st hd (h2 (by simpa using hw))) hr
theorem wpAnyC_same {md : Region.Mode} {L d : Nat} {QB QC : Fr → Prop} (hQ : ∀ fr fr' : Fr, (∀ s, fr'.get s = fr.get s) → QB fr → QB fr') (hQC : ∀ fr fr' : Fr, (∀ s, fr'.get s = fr.get s) → QC fr → QC fr') : ∀ (fuel : Nat) (listed : Array Bool) (fr fr' : Fr), (∀ s, fr'.get s = fr.get s) → wpAnyC P T0 N md ops L d QB QC M fuel listed fr → wpAnyC P T0 N md ops L d QB QC M fuel listed fr'
  | 0, _, _, _, _, h => h
  | fuel + 1, listed, fr, fr', he, h => by
    refine ⟨h.1, fun i hi o ho => ?_⟩
    rcases h.2 i hi o ho with ⟨h1, h2, h3, h4⟩ | ⟨h1, h2, h3, h4, h5, h6⟩ | ⟨h1, hd, A, hy, hr⟩
    · exact .inl ⟨h1, h2, h3, hQ fr fr' he h4⟩
    · exact .inr (.inl ⟨h1, h2, h3, h4, h5, hQC fr fr' he h6⟩)
    · refine .inr (.inr ⟨h1, hd, A, hy.other (fun s _ => he s), wpAnyC_same hQ hQC fuel _ _ _ (fun s => ?_) hr⟩)
      cases hdst : o.dst with
      | none => exact he s
      | some d =>
        by_cases e : s = d
        · subst e; simp only [Fr.put, get_cons_same]
        · simp only [Fr.put, get_cons_ne e]; exact he s
theorem not_ready_set {md : Region.Mode} {listed : Array Bool} {i : Nat} (h : i ∈ Region.ready md ops (listed.setIfInBounds i true)) : False := by
  have h1 := (mem_ready.1 h).1
  rcases Nat.lt_or_ge i listed.size with h' | h'
  · simp [h'] at h1
  · simp [h'] at h1
theorem not_ready_of {md : Region.Mode} {listed : Array Bool} {i : Nat} (h : i ∈ Region.ready md ops listed) (h1 : listed.getD i false = true) : False := by
  have h0 := (mem_ready.1 h).1
  rcases Nat.lt_or_ge i listed.size with h' | h'
  · simp [h'] at h0 h1; rw [h0] at h1; cases h1
  · simp [Array.getElem?_eq_none h'] at h1
theorem wpAnyC_first {md : Region.Mode} {d L : Nat} {QB QC : Fr → Prop} (hQ : ∀ fr fr' : Fr, (∀ s, fr'.get s = fr.get s) → QB fr → QB fr') (hQC : ∀ fr fr' : Fr, (∀ s, fr'.get s = fr.get s) → QC fr → QC fr') (hlast : lastD d L md ops = true) {i : Nat} {oi : Oper} {A : AV} (hi : ops[i]? = some oi) (hiL : i ≠ L) (hdi : ∀ x, oi.dst = some x → x < N.n)
    (hBC : i = d → ∀ fr, QB (fr.put oi.dst A) → QC fr) :
    ∀ (fuel : Nat) (listed : Array Bool) (fr : Fr),
      (∀ j oj, ops[j]? = some oj → j ≠ i → listed.getD j true = false → (∀ e ∈ oj.after, Region.binds md e = true → e.on ≠ i) → oi.apart ops oj = true) →
      Shut md ops listed → i ∈ Region.ready md ops listed → QY P T0 ops oi fr M A →
      wpAnyC P T0 N md ops L d QB QC M fuel (listed.setIfInBounds i true) (fr.put oi.dst A) → wpAnyC P T0 N md ops L d QB QC M (fuel + 1) listed fr := by
  intro fuel
  induction fuel with
  | zero => intro listed fr _ _ hr hy H; exact H.elim
  | succ fuel ih =>
    intro listed fr hfree hS hr hy H
    refine ⟨fun h => (by rw [h] at hr; cases hr), fun j hj o ho => ?_⟩
    by_cases hji : j = i
    · subst hji; rw [hi] at ho; obtain rfl := Option.some.inj ho; exact .inr (.inr ⟨hiL, hdi, A, hy, H⟩)
    · obtain ⟨hjun, oj, hoj, hall⟩ := mem_ready.1 hj
      rw [ho] at hoj; obtain rfl := Option.some.inj hoj
      have hnot : ∀ e ∈ o.after, Region.binds md e = true → e.on ≠ i := fun e he hb heq => by
        have h1 := hall e he hb
        rw [heq] at h1
        exact not_ready_of hr h1
      by_cases hjL : j = L
      · subst hjL
        by_cases hid : i = d
        · rcases H.2 _ (ready_mono hj hji) o ho with ⟨_, h2, h3, h4⟩ | ⟨_, h2, h3, h4, h5, h6⟩ | ⟨h1, _⟩
          · subst hid
            refine .inr (.inl ⟨rfl, by omega, ready_mono hr (Ne.symm hji), fun k hk => ?_, ?_, hBC rfl fr h4⟩)
            · by_cases hki : k = i
              · exact hki
              · have := ready_mono hk hki
                rw [Array.setIfInBounds_comm _ _ hji, h3] at this; cases this
            · rw [Array.setIfInBounds_comm _ _ hji]; exact h3
          · subst hid
            have := not_ready_set (md := md) (ops := ops) (listed := listed.setIfInBounds j true) (i := i) (by rw [Array.setIfInBounds_comm _ _ hji]; exact h3)
            exact this.elim
          · exact absurd rfl h1
        · exact (not_ready_of hr (lastD_all hS hlast hj _ i rfl (Array.getElem?_eq_some_iff.1 hi).1 hiL hid)).elim
      · rcases H.2 j (ready_mono hj hji) o ho with ⟨h1, _⟩ | ⟨h1, _⟩ | ⟨_, hd, A', hy', hr'⟩
        · exact absurd h1 hjL
        · exact absurd h1 hjL
        obtain ⟨p1, p2, p3⟩ := Oper.apart_spec (hfree j o ho hji hjun hnot)
        have hfree' : ∀ k ok, ops[k]? = some ok → k ≠ i → (listed.setIfInBounds j true).getD k true = false →
            (∀ e ∈ ok.after, Region.binds md e = true → e.on ≠ i) → oi.apart ops ok = true := fun k ok hk hki hun hno => by
          refine hfree k ok hk hki ?_ hno
          by_cases hjk : j = k
          · subst hjk; exact hjun
          · rw [getD_set_ne true hjk] at hun; exact hun
        refine .inr (.inr ⟨hjL, hd, A', hy'.other (fun s hs => (get_put_ne fun x hx e => p1 x hx (e ▸ hs)).symm), ?_⟩)
        refine ih (listed.setIfInBounds j true) _ hfree' (hS.put hj) (ready_mono hr (Ne.symm hji)) (hy.other fun s hs => get_put_ne fun x hx e => p3 x hx (e ▸ hs)) ?_
        rw [Array.setIfInBounds_comm _ _ hji]
        exact wpAnyC_same hQ hQC fuel _ _ _ (fun s => put_put_get (fun x hx e => p2 x (by rw [← e]) hx |>.elim) s) hr'
/-- the operations but one, in the text's order, may each come first -/
def lexSkip (md : Region.Mode) (ops : Array Oper) (L : Nat) : Nat → Nat → Array Bool → Bool
  | 0, _, listed => (Region.ready md ops listed).contains L && (Region.ready md ops (listed.setIfInBounds L true)).isEmpty
  | fuel + 1, k, listed => bif Nat.beq k L then lexSkip md ops L fuel (k + 1) listed else (Region.ready md ops listed).contains k && Region.free md ops listed k && lexSkip md ops L fuel (k + 1) (listed.setIfInBounds k true)
def skipL : Nat → List Oper → List Oper
  | _, [] => []
  | 0, _ :: l => l
  | n + 1, o :: l => o :: skipL n l
/-- the others from the place k on -/
def skipF (L k : Nat) (l : List Oper) : List Oper := if k ≤ L then skipL (L - k) l else l
theorem wpAnyC_lex {md : Region.Mode} {d L : Nat} {QB QC : Fr → Prop} (hQ : ∀ fr fr' : Fr, (∀ s, fr'.get s = fr.get s) → QB fr → QB fr') (hQC : ∀ fr fr' : Fr, (∀ s, fr'.get s = fr.get s) → QC fr → QC fr') (hlast : lastD d L md ops = true) (hBC : ∀ od, ops[d]? = some od → ∀ fr A, QB (fr.put od.dst A) → QC fr) : ∀ (l : List Oper) (k : Nat) (listed : Array Bool) (fr : Fr), (∀ j, l[j]? = ops[k + j]?) →
    lexSkip md ops L l.length k listed = true → Shut md ops listed → AQ P T0 N ops QB M (skipF L k l) fr → wpAnyC P T0 N md ops L d QB QC M ((skipF L k l).length + 1) listed fr
  | [], k, listed, fr, _, hB, hS, h => by
    simp only [List.length_nil, lexSkip, Bool.and_eq_true] at hB
    obtain ⟨hr, he⟩ := hB
    have hr' : L ∈ Region.ready md ops listed := by simpa using hr
    have he' : Region.ready md ops (listed.setIfInBounds L true) = [] := by simpa using he
    have e : skipF L k [] = [] := by unfold skipF; split <;> (try rfl); cases L - k <;> rfl
    rw [e] at h ⊢
    refine ⟨fun e => (by rw [e] at hr'; cases hr'), fun i hi oi hoi => ?_⟩
    by_cases hik : i = L
    · subst hik
      exact .inl ⟨rfl, rfl, he', h⟩
    · have := ready_mono hi hik
      rw [he'] at this; cases this
  | o :: l, k, listed, fr, hl, hB, hS, h => by
    have h0 : ops[k]? = some o := by simpa using (hl 0).symm
    have hl' : ∀ j, l[j]? = ops[k + 1 + j]? := fun j => by have := hl (j + 1); simpa [Nat.add_assoc, Nat.add_comm 1 j] using this
    simp only [List.length_cons, lexSkip] at hB
    by_cases hkL : k = L
    · subst hkL
      have e : skipF k k (o :: l) = l := by unfold skipF; rw [if_pos (Nat.le_refl _), Nat.sub_self]; rfl
      have e2 : skipF k (k + 1) l = l := by unfold skipF; rw [if_neg (by omega)]
      rw [e] at h ⊢
      simp only [Nat.beq_refl, cond_true] at hB
      have := wpAnyC_lex hQ hQC hlast hBC l (k + 1) listed fr hl' hB hS (by rw [e2]; exact h)
      rw [e2] at this; exact this
    · have e : skipF L k (o :: l) = o :: skipF L (k + 1) l := by
        unfold skipF
        by_cases hle : k ≤ L
        · rw [if_pos hle, if_pos (by omega)]
          obtain ⟨m, hm⟩ : ∃ m, L - k = m + 1 := ⟨L - k - 1, by omega⟩
          rw [hm, show L - (k + 1) = m by omega]; rfl
        · rw [if_neg hle, if_neg (by omega)]
      rw [e] at h ⊢
      rw [nbeq_ne hkL] at hB
      simp only [cond_false, Bool.and_eq_true] at hB
      obtain ⟨⟨hr, hf⟩, hB'⟩ := hB
      have hr' : k ∈ Region.ready md ops listed := by simpa using hr
      obtain ⟨hd, A, hy, hr2⟩ := h
      refine wpAnyC_first hQ hQC hlast h0 hkL hd (fun e fr hq => by subst e; exact hBC o h0 fr A hq) _ listed fr (Region.free_spec h0 hf) hS hr' hy ?_
      exact wpAnyC_lex hQ hQC hlast hBC l (k + 1) _ _ hl' hB' (hS.put hr') hr2
/-- a frame without what it tells of a slot -/
inductive DelF (sd : Nat) (base : Fr) : Fr → Fr → Prop
  | base : DelF sd base base base
  | drop {A : AV} {fr frD : Fr} (h : DelF sd base fr frD) : DelF sd base ((sd, A) :: fr) frD
  | keep {s : Nat} {A : AV} {fr frD : Fr} (e : Nat.beq s sd = false) (h : DelF sd base fr frD) : DelF sd base ((s, A) :: fr) ((s, A) :: frD)
theorem DelF.spec {sd : Nat} {base fr frD : Fr} (h : DelF sd base fr frD) (hb : base.get sd = none) : ∀ s A, frD.get s = some A → s ≠ sd ∧ fr.get s = some A := by
  induction h with
  | base => intro s A e; exact ⟨fun h => by (subst h; rw [hb] at e; cases e), e⟩
  | drop h ih =>
    intro s A e
    obtain ⟨h1, h2⟩ := ih s A e
    exact ⟨h1, by rw [get_cons_ne h1]; exact h2⟩
  | keep e0 h ih =>
    rename_i s0 A0 fr0 frD0
    intro s A e
    by_cases hs : s = s0
    · subst hs
      rw [get_cons_same] at e ⊢
      exact ⟨fun h => by (subst h; simp at e0), e⟩
    · rw [get_cons_ne hs] at e ⊢; exact ih s A e
theorem delf_ {sd : Nat} {base fr frD : Fr} (h : DelF sd base fr frD := by
  first
  | (repeat (first | exact DelF.base | apply DelF.drop | apply DelF.keep rfl)
     done)
  | fail) : DelF sd base fr frD := h
/-- the end of the quiet ones: the last one and the idle one, in both orders -/
def endD (P : Program) (T0 : Gh) (N : Fz) (ops : Array Oper) (oL od : Oper) (sd : Nat) (base : Fr) (J : Post) : Post := fun e fr' M' => e = .normal ∧ AL P T0 N false ops J [oL] fr' M' ∧ ∃ frD, DelF sd base fr' frD ∧ AL P T0 N false ops J [oL, od] frD M'
theorem endD_ {oL od : Oper} {sd : Nat} {base fr' frD : Fr} {J : Post} {M' : List Own} (h1 : AL P T0 N false ops J [oL] fr' M') (h3 : AL P T0 N false ops J [oL, od] frD M') (h2 : DelF sd base fr' frD := by first | exact delf_ | fail) : endD P T0 N ops oL od sd base J .normal fr' M' := ⟨rfl, h1, frD, h2, h3⟩
theorem aw_regionD {id : Nat} {l : List Oper} (d L : Nat) {oL od : Oper} {sd : Nat} {d1 : Fr} {M1 : List Own} (hN : lastB .any l.toArray = false) (hD : lastD d L .any l.toArray = true) (hB : lexSkip .any l.toArray L l.length 0 (List.replicate l.length false).toArray = true) (hm : P.follows .mixedOrders = true)
    (hod : l[d]? = some od) (hl : l[L]? = some oL) (hn : (skipL L l).length + 1 = l.length) (hsd : od.dst = some sd) (hb : fr.get sd = none)
    (h : AL P T0 N true l.toArray (endD P T0 N l.toArray oL od sd fr (joinQ (d1 ++ fr) M1)) (skipL L l) fr M)
    (k : Q .normal (d1 ++ fr) M1) : AW P T0 N (.region id l.toArray true) Q fr M := fun w0 G F a w hc => by
  have h' : AQ2 P T0 N l.toArray (fun fr' => endD P T0 N l.toArray oL od sd fr (joinQ (d1 ++ fr) M1) .normal fr' M) (fun o fr' => lastB .any l.toArray = true ∧ AE P T0 N l.toArray (endD P T0 N l.toArray oL od sd fr (joinQ (d1 ++ fr) M1)) [o] fr' M) M (skipL L l) fr := by simpa [AL] using h
  rcases aq2_split _ _ h' with h1 | h1
  case inr => obtain ⟨_, _, _, hlast, _⟩ := aqb_some _ _ h1; rw [hN] at hlast; cases hlast
  have hoL : l.toArray[L]? = some oL := by simpa using hl
  have e0 : skipF L 0 l = skipL L l := by unfold skipF; rw [if_pos (Nat.zero_le _), Nat.sub_zero]
  have h2 := aq_close _ _ h1
  have hod' : l.toArray[d]? = some od := by simpa using hod
  have h3 := wpAnyC_lex (md := .any) (d := d) (L := L) (QB := fun fr' => ∃ fr1, (∀ s, Fr.get fr' s = Fr.get fr1 s) ∧ endD P T0 N l.toArray oL od sd fr (joinQ (d1 ++ fr) M1) .normal fr1 M) (QC := fun fr' => ∃ fr1, (∀ s, s ≠ sd → Fr.get fr' s = Fr.get fr1 s) ∧ endD P T0 N l.toArray oL od sd fr (joinQ (d1 ++ fr) M1) .normal fr1 M)
    (fun fr fr' he h => by obtain ⟨fr1, h1, h2⟩ := h; exact ⟨fr1, fun s => (he s).trans (h1 s), h2⟩) (fun fr fr' he h => by obtain ⟨fr1, h1, h2⟩ := h; exact ⟨fr1, fun s hs => (he s).trans (h1 s hs), h2⟩) hD
    (fun o ho fr2 A hq => by
      rw [hod'] at ho; obtain rfl := Option.some.inj ho
      obtain ⟨fr1, h1, h2⟩ := hq
      exact ⟨fr1, fun s hs => by rw [← h1 s, hsd]; exact (get_cons_ne hs).symm, h2⟩) l 0 (List.replicate l.length false).toArray fr (by simp) hB (by simpa using shut_none (md := .any) (ops := l.toArray) l.length) (by rw [e0]; exact h2)
  rw [e0, hn] at h3
  have hfin : ∀ a w G', Gh.le G G' → cQ T0 N w0 G' F (joinQ (d1 ++ fr) M1) .normal a w → cQ T0 N w0 G F Q .normal a w := fun a w G' hl q => by
    obtain ⟨fr', M', G2, ⟨_, hw, hs⟩, hl2, hc'⟩ := q
    exact ⟨d1 ++ fr, M1, G2, k, hl.trans hl2, hc'.st.sub (hs.append (List.Sublist.refl F)), hw G2 a.tmps hc'.fr, hc'.size, hc'.defers⟩
  have hmono : ∀ G', Gh.le G G' → ∀ e a w, cQ T0 N w0 G' F (joinQ (d1 ++ fr) M1) e a w → cQ T0 N w0 G F Q e a w := fun G' hl e a w q => by
    obtain ⟨fr', M', G2, ⟨he, hw, hs⟩, hl2, hc'⟩ := q
    subst he
    exact hfin a w G' hl ⟨fr', M', G2, ⟨rfl, hw, hs⟩, hl2, hc'⟩
  refine wp_region_any hm ?_
  have es : Array.replicate l.toArray.size false = (List.replicate l.length false).toArray := by simp
  rw [es]
  refine wpAny_of_C (G0 := G) (F := F) (w0 := w0) hoL hod' ?_ ?_ _ _ fr G _ _ (Gh.le.refl _) ⟨hc.st.drew, hc.fr, hc.size, hc.defers⟩ (by simpa using h3)
  · rintro fr' G' a' w' hl' ⟨fr1, he, _, hq, _⟩ hc'
    simp only [AL, Bool.false_eq_true, if_false] at hq
    exact wpList_mono (hmono G' hl') _ _ _ (hq w0 G' F a' w' ⟨hc'.st, fun s A hs e => hc'.fr s A hs (by rw [he s]; exact e), hc'.size, hc'.defers⟩)
  · rintro fr' G' a' w' hl' ⟨fr1, he, _, _, frD, hdel, hq⟩ hc'
    simp only [AL, Bool.false_eq_true, if_false] at hq
    refine wpList_mono (hmono G' hl') _ _ _ (hq w0 G' F a' w' ⟨hc'.st, fun s A hs e => ?_, hc'.size, hc'.defers⟩)
    obtain ⟨e1, e2⟩ := hdel.spec hb s A e
    exact hc'.fr s A hs (by rw [he s e1]; exact e2)
/-! ### quiet ones, and two that write, one behind the other -/
def nop : Oper := { dst := none, op := .move (.const (.bool false)), type := 0, pos := "", after := #[], guard := none }
/-- operations none of which is a last one -/
def nopOps : Array Oper := #[nop, nop]
theorem nopOps_last : lastB .any nopOps = false := by decide +kernel
theorem QY.plain {ops' : Array Oper} {o : Oper} {A : AV} (hg : o.guard = none) (h : QY P T0 ops' o fr M A) : QY P T0 ops o fr M A := fun w0 G F a w hs hf => by
  have hr : ∀ s, reads ops' o s → reads ops o s := fun s hs => by
    simp only [reads, Oper.looksAt, hg] at hs ⊢; exact hs
  obtain ⟨h1, h2⟩ := h w0 G F a w hs (fun s A hs' e => hf s A (hr s hs') e)
  have hw : ∀ y, Region.wanted o y = true := fun y => by simp [Region.wanted, hg]
  exact ⟨fun _ => h1 (hw _), fun e => by rw [hw] at e; cases e⟩
theorem aq_plain {ops' : Array Oper} {QA : Fr → Prop} : ∀ (l : List Oper) (fr : Fr), (l.all fun o => o.guard.isNone) = true → AQ P T0 N ops' QA M l fr → AQ P T0 N ops QA M l fr
  | [], _, _, h => h
  | o :: l, fr, hg, h => by
    simp only [List.all_cons, Bool.and_eq_true] at hg
    obtain ⟨hd, A, hy, hr⟩ := h
    exact ⟨hd, A, hy.plain (by simpa using hg.1), aq_plain l _ hg.2 hr⟩
end
end
/- Regions that draw their order and end in a row of operations that write, one behind the other. No condition. -/
section
open Go Go.RowKit
section
variable {P : Program} {T0 : Gh} {N : Fz} {Q : Post} {fr : Fr} {M : List Own} {ops : Array Oper}
/-- from here on each comes alone -/
def seqR (md : Region.Mode) (ops : Array Oper) : List Nat → Array Bool → Bool
  | [], listed => (Region.ready md ops listed).isEmpty
  | d :: ds, listed => (Region.ready md ops listed).contains d && ((Region.ready md ops listed).all fun k => Nat.beq k d) && seqR md ops ds (listed.setIfInBounds d true)
theorem wpAny_seq {md : Region.Mode} {Qc : Exit → Act → World → Prop} : ∀ (ds : List Nat) (os : List Oper) (listed : Array Bool) (a : Act) (w : World), ds.map (fun d => ops[d]?) = os.map some → seqR md ops ds listed = true → wpList P ops Qc os a w → wpAny P md ops Qc ds.length listed a w
  | [], [], listed, a, w, _, hB, h => ⟨by simpa [seqR] using hB, h⟩
  | [], _ :: _, _, _, _, he, _, _ => by simp at he
  | _ :: _, [], _, _, _, he, _, _ => by simp at he
  | d :: ds, o :: os, listed, a, w, he, hB, h => by
    simp only [List.map_cons, List.cons.injEq] at he
    simp only [seqR, Bool.and_eq_true] at hB
    obtain ⟨⟨b1, b2⟩, b3⟩ := hB
    have r1 : d ∈ Region.ready md ops listed := by simpa using b1
    refine ⟨fun h0 => (by rw [h0] at r1; cases r1), fun i hi => ?_⟩
    obtain rfl := Nat.eq_of_beq_eq_true (List.all_eq_true.1 b2 i hi)
    unfold wpOp
    rw [he.1]
    unfold wpList at h
    simp only
    split at h
    · rename_i hw
      rw [if_pos hw]
      exact h.imp (fun h => op_mono (fun a w h => wpAny_seq ds os _ a w he.2 b3 h) h) (fun h => h)
    · rename_i hw
      rw [if_neg hw]
      exact wpAny_seq ds os _ _ _ he.2 b3 h
def wpAnyS (P : Program) (T0 : Gh) (N : Fz) (md : Region.Mode) (ops : Array Oper) (L : Nat) (ds : List Nat) (QC : Fr → Prop) (M : List Own) : Nat → Array Bool → Fr → Prop
  | 0, _, _ => False
  | fuel + 1, listed, fr => Region.ready md ops listed ≠ [] ∧ ∀ i ∈ Region.ready md ops listed, ∀ o, ops[i]? = some o →
      (i = L ∧ fuel = ds.length ∧ seqR md ops ds (listed.setIfInBounds i true) = true ∧ QC fr) ∨
      (i ≠ L ∧ (∀ x, o.dst = some x → x < N.n) ∧ ∃ A, QY P T0 ops o fr M A ∧ wpAnyS P T0 N md ops L ds QC M fuel (listed.setIfInBounds i true) (fr.put o.dst A))
theorem wpAny_of_S {md : Region.Mode} {L : Nat} {ds : List Nat} {oL : Oper} {os : List Oper} {QC : Fr → Prop} {w0 : World} {F : List Own} {G0 : Gh} {Qc : Exit → Act → World → Prop} (hoL : ops[L]? = some oL) (hos : ds.map (fun d => ops[d]?) = os.map some)
    (hC : ∀ fr' G a w, Gh.le G0 G → QC fr' → Con T0 N w0 G F fr' M a w → wpList P ops Qc (oL :: os) a w) : ∀ (fuel : Nat) (listed : Array Bool) (fr : Fr) (G : Gh) (a : Act) (w : World), Gh.le G0 G → Con T0 N w0 G F fr M a w →
    wpAnyS P T0 N md ops L ds QC M fuel listed fr → wpAny P md ops Qc fuel listed a w
  | 0, _, _, _, _, _, _, _, h => h.elim
  | fuel + 1, listed, fr, G, a, w, hl, hc, h => by
    refine ⟨fun h0 => absurd h0 h.1, fun i hi => ?_⟩
    unfold wpOp
    cases ho : ops[i]? with
    | none => have := (mem_ready.1 hi).2; rw [ho] at this; obtain ⟨_, e, _⟩ := this; cases e
    | some o =>
      rcases h.2 i hi o ho with ⟨rfl, rfl, hB, hq⟩ | ⟨_, hd, A, hy, hr⟩
      · rw [ho] at hoL; obtain rfl := Option.some.inj hoL
        have h3 := hC fr G a w hl hq hc
        unfold wpList at h3
        simp only
        split at h3
        · rename_i hw
          rw [if_pos hw]
          exact h3.imp (fun h => op_mono (fun a w h => wpAny_seq ds os _ a w hos hB h) h) (fun h => h)
        · rename_i hw
          rw [if_neg hw]
          exact wpAny_seq ds os _ _ _ hos hB h3
      · obtain ⟨h1, h2⟩ := hy w0 G F a w hc.st (fun s A _ e => hc.fr s A trivial e)
        simp only
        by_cases hw : Region.wanted o (yielded ops a.tmps) = true
        · rw [if_pos hw]
          refine .inl (h1 hw _ _ fun G' u w' hl' hs hu => ?_)
          exact wpAny_of_S hoL hos hC fuel _ _ G' _ w' (hl.trans hl') (hc.put hl' hs hd hu) hr
        · rw [if_neg hw]
          exact wpAny_of_S hoL hos hC fuel _ _ G _ w hl (hc.put (Gh.le.refl _) hc.st hd (h2 (by simpa using hw))) hr
theorem wpAnyS_same {md : Region.Mode} {L : Nat} {ds : List Nat} {QC : Fr → Prop} (hQC : ∀ fr fr' : Fr, (∀ s, fr'.get s = fr.get s) → QC fr → QC fr') : ∀ (fuel : Nat) (listed : Array Bool) (fr fr' : Fr), (∀ s, fr'.get s = fr.get s) → wpAnyS P T0 N md ops L ds QC M fuel listed fr → wpAnyS P T0 N md ops L ds QC M fuel listed fr'
  | 0, _, _, _, _, h => h
  | fuel + 1, listed, fr, fr', he, h => by
    refine ⟨h.1, fun i hi o ho => ?_⟩
    rcases h.2 i hi o ho with ⟨h1, h2, h3, h4⟩ | ⟨h1, hd, A, hy, hr⟩
    · exact .inl ⟨h1, h2, h3, hQC fr fr' he h4⟩
    · refine .inr ⟨h1, hd, A, hy.other (fun s _ => he s), wpAnyS_same hQC fuel _ _ _ (fun s => ?_) hr⟩
      cases hdst : o.dst with
      | none => exact he s
      | some d =>
        by_cases e : s = d
        · subst e; simp only [Fr.put, get_cons_same]
        · simp only [Fr.put, get_cons_ne e]; exact he s
/-- each operation ahead of L is one that a later one waits for, L at the latest -/
def lastS (L : Nat) (md : Region.Mode) (ops : Array Oper) : Bool := (List.range L).all fun i => (List.range (L + 1)).any fun k => decide (i < k) && (ops[k]?).any fun o => o.after.any fun e => Region.binds md e && e.on == i
theorem lastS_spec {L : Nat} {md : Region.Mode} (h : lastS L md ops = true) {i : Nat} (hi : i < L) : ∃ k o, i < k ∧ k ≤ L ∧ ops[k]? = some o ∧ ∃ e ∈ o.after, Region.binds md e = true ∧ e.on = i := by
  have := List.all_eq_true.1 h i (List.mem_range.2 hi)
  obtain ⟨k, hk, h2⟩ := List.any_eq_true.1 this
  simp only [Bool.and_eq_true, decide_eq_true_eq] at h2
  obtain ⟨h3, h4⟩ := h2
  cases ho : ops[k]? with
  | none => rw [ho] at h4; cases h4
  | some o =>
    rw [ho] at h4
    simp only [Option.any_some, Array.any_eq_true, Bool.and_eq_true, beq_iff_eq] at h4
    obtain ⟨n, hn, h5, h6⟩ := h4
    exact ⟨k, o, h3, by have := List.mem_range.1 hk; omega, ho, _, Array.getElem_mem hn, h5, h6⟩
theorem lastS_all {L : Nat} {md : Region.Mode} {listed : Array Bool} (hS : Shut md ops listed) (hlast : lastS L md ops = true) (hL : L ∈ Region.ready md ops listed) : ∀ n i, L - i = n → i < L → listed.getD i false = true := by
  intro n
  induction n using Nat.strongRecOn with
  | _ n ih =>
    intro i hn hi
    obtain ⟨k, o, h1, h2', h2, e, h3, h4, h5⟩ := lastS_spec hlast hi
    by_cases hkL : k = L
    · obtain ⟨_, o', ho', hall⟩ := mem_ready.1 hL
      rw [← hkL, h2] at ho'; obtain rfl := Option.some.inj ho'
      rw [← h5]; exact hall e h3 h4
    · have := ih (L - k) (by omega) k rfl (by omega)
      rw [← h5]; exact hS k o h2 this e h3 h4
theorem wpAnyS_first {md : Region.Mode} {L : Nat} {ds : List Nat} {QC : Fr → Prop} (hQC : ∀ fr fr' : Fr, (∀ s, fr'.get s = fr.get s) → QC fr → QC fr') (hlast : lastS L md ops = true) {i : Nat} {oi : Oper} {A : AV} (hi : ops[i]? = some oi) (hiL : i < L) (hdi : ∀ x, oi.dst = some x → x < N.n) :
    ∀ (fuel : Nat) (listed : Array Bool) (fr : Fr),
      (∀ j oj, ops[j]? = some oj → j ≠ i → listed.getD j true = false → (∀ e ∈ oj.after, Region.binds md e = true → e.on ≠ i) → oi.apart ops oj = true) →
      Shut md ops listed → i ∈ Region.ready md ops listed → QY P T0 ops oi fr M A →
      wpAnyS P T0 N md ops L ds QC M fuel (listed.setIfInBounds i true) (fr.put oi.dst A) → wpAnyS P T0 N md ops L ds QC M (fuel + 1) listed fr := by
  intro fuel
  induction fuel with
  | zero => intro listed fr _ _ hr hy H; exact H.elim
  | succ fuel ih =>
    intro listed fr hfree hS hr hy H
    refine ⟨fun h => (by rw [h] at hr; cases hr), fun j hj o ho => ?_⟩
    by_cases hji : j = i
    · subst hji; rw [hi] at ho; obtain rfl := Option.some.inj ho; exact .inr ⟨by omega, hdi, A, hy, H⟩
    · obtain ⟨hjun, oj, hoj, hall⟩ := mem_ready.1 hj
      rw [ho] at hoj; obtain rfl := Option.some.inj hoj
      have hnot : ∀ e ∈ o.after, Region.binds md e = true → e.on ≠ i := fun e he hb heq => by
        have h1 := hall e he hb
        rw [heq] at h1
        exact not_ready_of hr h1
      have hjL : j ≠ L := fun e => by
        subst e
        exact not_ready_of hr (lastS_all hS hlast hj _ i rfl hiL)
      rcases H.2 j (ready_mono hj hji) o ho with ⟨h1, _⟩ | ⟨_, hd, A', hy', hr'⟩
      · exact absurd h1 hjL
      obtain ⟨p1, p2, p3⟩ := Oper.apart_spec (hfree j o ho hji hjun hnot)
      have hfree' : ∀ k ok, ops[k]? = some ok → k ≠ i → (listed.setIfInBounds j true).getD k true = false →
          (∀ e ∈ ok.after, Region.binds md e = true → e.on ≠ i) → oi.apart ops ok = true := fun k ok hk hki hun hno => by
        refine hfree k ok hk hki ?_ hno
        by_cases hjk : j = k
        · subst hjk; exact hjun
        · rw [getD_set_ne true hjk] at hun; exact hun
      refine .inr ⟨hjL, hd, A', hy'.other (fun s hs => (get_put_ne fun x hx e => p1 x hx (e ▸ hs)).symm), ?_⟩
      refine ih (listed.setIfInBounds j true) _ hfree' (hS.put hj) (ready_mono hr (Ne.symm hji)) (hy.other fun s hs => get_put_ne fun x hx e => p3 x hx (e ▸ hs)) ?_
      rw [Array.setIfInBounds_comm _ _ hji]
      exact wpAnyS_same hQC fuel _ _ _ (fun s => put_put_get (fun x hx e => p2 x (by rw [← e]) hx |>.elim) s) hr'
def lexT (md : Region.Mode) (ops : Array Oper) (L : Nat) (ds : List Nat) : Nat → Nat → Array Bool → Bool
  | 0, _, listed => seqR md ops (L :: ds) listed
  | fuel + 1, k, listed => (Region.ready md ops listed).contains k && Region.free md ops listed k && lexT md ops L ds fuel (k + 1) (listed.setIfInBounds k true)
theorem wpAnyS_lex {md : Region.Mode} {L : Nat} {ds : List Nat} {QC : Fr → Prop} (hQC : ∀ fr fr' : Fr, (∀ s, fr'.get s = fr.get s) → QC fr → QC fr') (hlast : lastS L md ops = true) : ∀ (l : List Oper) (k : Nat) (listed : Array Bool) (fr : Fr), k + l.length ≤ L → (∀ j, j < l.length → l[j]? = ops[k + j]?) →
    lexT md ops L ds l.length k listed = true → Shut md ops listed → AQ P T0 N ops QC M l fr → wpAnyS P T0 N md ops L ds QC M (l.length + (ds.length + 1)) listed fr
  | [], k, listed, fr, _, _, hB, hS, h => by
    simp only [List.length_nil, lexT, seqR, Bool.and_eq_true] at hB
    obtain ⟨⟨b1, b2⟩, b3⟩ := hB
    have r1 : L ∈ Region.ready md ops listed := by simpa using b1
    rw [List.length_nil, Nat.zero_add]
    refine ⟨fun e => (by rw [e] at r1; cases r1), fun i hi oi hoi => ?_⟩
    obtain rfl := Nat.eq_of_beq_eq_true (List.all_eq_true.1 b2 i hi)
    exact .inl ⟨rfl, rfl, b3, h⟩
  | o :: l, k, listed, fr, hL, hl, hB, hS, h => by
    simp only [List.length_cons] at hL
    have h0 : ops[k]? = some o := by simpa using (hl 0 (by simp)).symm
    have hl' : ∀ j, j < l.length → l[j]? = ops[k + 1 + j]? := fun j hj => by have := hl (j + 1) (by simp; omega); simpa [Nat.add_assoc, Nat.add_comm 1 j] using this
    simp only [List.length_cons, lexT, Bool.and_eq_true] at hB
    obtain ⟨⟨hr, hf⟩, hB'⟩ := hB
    have hr' : k ∈ Region.ready md ops listed := by simpa using hr
    obtain ⟨hd, A, hy, hr2⟩ := h
    rw [List.length_cons, show l.length + 1 + (ds.length + 1) = (l.length + (ds.length + 1)) + 1 by omega]
    refine wpAnyS_first hQC hlast h0 (by omega) hd _ listed fr (Region.free_spec h0 hf) hS hr' hy ?_
    exact wpAnyS_lex hQC hlast l (k + 1) _ _ (by omega) hl' hB' (hS.put hr') hr2
def endT (P : Program) (T0 : Gh) (N : Fz) (ops : Array Oper) (os : List Oper) (Q : Post) : Post := fun e fr' M' => e = .normal ∧ AL P T0 N false ops Q os fr' M'
theorem endT_ {os : List Oper} {fr' : Fr} {M' : List Own} (h : AL P T0 N false ops Q os fr' M') : endT P T0 N ops os Q .normal fr' M' := ⟨rfl, h⟩
/-- numbers from a place on -/
def fromN : Nat → Nat → List Nat
  | 0, _ => []
  | n + 1, k => k :: fromN n (k + 1)
theorem fromN_get (l : List Oper) : ∀ (os : List Oper) (k : Nat), (∀ j, j < os.length → l[k + j]? = os[j]?) → (fromN os.length k).map (fun d => l.toArray[d]?) = os.map some
  | [], _, _ => rfl
  | o :: os, k, h => by
    have h0 := h 0 (by simp)
    simp only [List.length_cons, fromN, List.map_cons, List.cons.injEq]
    refine ⟨by simpa using h0, fromN_get l os (k + 1) fun j hj => ?_⟩
    have := h (j + 1) (by simp; omega)
    rw [show k + 1 + j = k + (j + 1) by omega, this]; simp
theorem fromN_len : ∀ n k, (fromN n k).length = n
  | 0, _ => rfl
  | n + 1, k => by simp [fromN, fromN_len n (k + 1)]
/-- n operations that draw their order, and behind them some that write -/
theorem aw_regionT {id : Nat} {l : List Oper} (n : Nat) {oL : Oper} {os : List Oper} (hs : l.drop n = oL :: os) (hD : lastS n .any l.toArray = true) (hB : lexT .any l.toArray n (fromN (l.length - (n + 1)) (n + 1)) n 0 (List.replicate l.length false).toArray = true) (hg : ((l.take n).all fun o => o.guard.isNone) = true) (hm : P.follows .mixedOrders = true)
    (h : AL P T0 N true nopOps (endT P T0 N l.toArray (oL :: os) Q) (l.take n) fr M) : AW P T0 N (.region id l.toArray true) Q fr M := fun w0 G F a w hc => by
  have h' : AQ2 P T0 N nopOps (fun fr' => endT P T0 N l.toArray (oL :: os) Q .normal fr' M) (fun o fr' => lastB .any nopOps = true ∧ AE P T0 N nopOps (endT P T0 N l.toArray (oL :: os) Q) [o] fr' M) M (l.take n) fr := by simpa [AL] using h
  rcases aq2_split _ _ h' with h1 | h1
  case inr => obtain ⟨_, _, _, hlast, _⟩ := aqb_some _ _ h1; rw [nopOps_last] at hlast; cases hlast
  have hlen : l.length = n + (os.length + 1) := by
    have := congrArg List.length hs
    simp only [List.length_drop, List.length_cons] at this; omega
  have hgd : ∀ j, l[n + j]? = (oL :: os)[j]? := fun j => by rw [← hs, List.getElem?_drop]
  have hoL : l.toArray[n]? = some oL := by simpa using hgd 0
  have hos : (fromN os.length (n + 1)).map (fun d => l.toArray[d]?) = os.map some := fromN_get l os (n + 1) fun j _ => by
    have := hgd (j + 1)
    rw [show n + 1 + j = n + (j + 1) by omega, this]; simp
  rw [show l.length - (n + 1) = os.length by omega] at hB
  have htl : (l.take n).length = n := by rw [List.length_take]; omega
  have h2 := aq_plain (ops := l.toArray) _ _ hg (aq_close _ _ h1)
  have h3 := wpAnyS_lex (md := .any) (L := n) (ds := fromN os.length (n + 1)) (QC := fun fr' => ∃ fr1, (∀ s, Fr.get fr' s = Fr.get fr1 s) ∧ endT P T0 N l.toArray (oL :: os) Q .normal fr1 M)
    (fun fr fr' he h => by obtain ⟨fr1, h1, h2⟩ := h; exact ⟨fr1, fun s => (he s).trans (h1 s), h2⟩) hD (l.take n) 0 (List.replicate l.length false).toArray fr (by omega)
    (fun j hj => by rw [htl] at hj; simp [List.getElem?_take, hj]) (by rw [htl]; exact hB) (by simpa using shut_none (md := .any) (ops := l.toArray) l.length) h2
  rw [htl, fromN_len, ← hlen] at h3
  refine wp_region_any hm ?_
  have es : Array.replicate l.toArray.size false = (List.replicate l.length false).toArray := by simp
  rw [es]
  refine wpAny_of_S (QC := fun fr' => ∃ fr1, (∀ s, Fr.get fr' s = Fr.get fr1 s) ∧ endT P T0 N l.toArray (oL :: os) Q .normal fr1 M) (G0 := G) (F := F) (w0 := w0) hoL hos ?_ _ _ fr G _ _ (Gh.le.refl _) ⟨hc.st.drew, hc.fr, hc.size, hc.defers⟩ (by simpa using h3)
  rintro fr' G' a' w' hl' ⟨fr1, he, _, hq⟩ hc'
  simp only [AL, Bool.false_eq_true, if_false] at hq
  exact wpList_mono (fun _ _ _ q => q.mono (fun _ _ _ h => h) hl') _ _ _ (hq w0 G' F a' w' ⟨hc'.st, fun s A hs e => hc'.fr s A hs (by rw [he s]; exact e), hc'.size, hc'.defers⟩)
end
end
/- Regions that draw their order, in which new variables are made and written beside quiet operations. No condition. -/
section
open Go Go.RowKit
section
variable {P : Program} {T0 : Gh} {N : Fz} {Q : Post} {fr : Fr} {M : List Own} {ops : Array Oper}
/-! ### steps -/
variable {QE : Fr → List Own → Prop} {X : List Own} {o : Oper} {os : List Oper} {x0 : Nat}
end
end
end Go.Proofs.YtgfmjmfphmjdkaaDoor
