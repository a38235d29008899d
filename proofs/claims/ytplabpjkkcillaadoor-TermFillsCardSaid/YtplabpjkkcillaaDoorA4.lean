/- The logic's fourth part: structs, immutable slices, addresses into them. No condition. -/
import Derived.Test.YtplabpjkkcillaaDoorA3
namespace Go.Proofs.YtplabpjkkcillaaDoor
set_option linter.unusedSimpArgs false
set_option linter.unusedVariables false
set_option linter.unusedSectionVars false
set_option maxHeartbeats 4000000
open Go Go.RowKit

section
variable {P : Program} {T0 : Gh} {N : Fz} {Q : Post} {fr : Fr} {M : List Own} {ops : Array Oper} {o : Oper}

/-- a field of a struct type: where it lies, and its type -/
def Fld (P : Program) (t i off : Nat) (ft : TypeId) : Prop := ∃ (fs : Array Field) (f : Field), P.underlying t = some (.struct fs) ∧ fs[i]? = some f ∧ f.offset = off ∧ f.type = ft
/-! ### structs as values -/
/-- a value's cells -/
def CellsA (A : AV) (l : List AV) : Prop := ∀ G u, Rep G A u → AllRep G l u.cells.toList
theorem ca_agg {l : List AV} : CellsA (aggA l) l := fun G u h => by obtain ⟨us, rfl, r⟩ := h.agg; simpa [Value.cells] using r
theorem ca_v {v : Value} (h : v.cells = #[v]) : CellsA (vA v) [vA v] := fun G u r => by rw [r.eq, h]; exact ⟨Rep.va _ _, trivial⟩
theorem ca_slc {α : Type} {T : Ty α} {l : List α} : CellsA (slcA T l) [slcA T l] := fun G u r => by
  have hr := r
  obtain ⟨_, _, a, n, rfl, _⟩ := r
  exact ⟨hr, trivial⟩
theorem ca_sl {α : Type} {T : Ty α} {l : List α} : CellsA (slA T l) [slA T l] := fun G u r => by
  have hr := r
  obtain ⟨a, n, cap, rfl, _⟩ := r.sl
  exact ⟨hr, trivial⟩

/-- a struct type: its zero cells, and where its fields lie -/
structure StT (P : Program) (t : TypeId) (Z : List AV) (pl : List (Nat × Nat)) : Prop where
  und : ∃ fs : Array Field, P.underlying t = some (.struct fs) ∧ fs.toList.mapM (fun f => (P.info? f.type).map fun i => (f.offset, i.size)) = some pl
  zero : ∃ zs : List Value, (P.info? t).map (fun i => (i.zero, i.size)) = some (some (.agg zs.toArray), zs.length) ∧ Z = zs.map vA
theorem StT.mk' {t : TypeId} {pl : List (Nat × Nat)} (fs : Array Field) (zs : List Value) (h1 : P.underlying t = some (.struct fs)) (h2 : fs.toList.mapM (fun f => (P.info? f.type).map fun i => (f.offset, i.size)) = some pl)
    (h3 : (P.info? t).map (fun i => (i.zero, i.size)) = some (some (.agg zs.toArray), zs.length)) : StT P t (zs.map vA) pl := ⟨⟨fs, h1, h2⟩, zs, h3, rfl⟩
theorem allRep_va (G : Gh) : ∀ zs : List Value, AllRep G (zs.map vA) zs
  | [] => trivial
  | z :: zs => ⟨Rep.va _ _, allRep_va G zs⟩
theorem allRep_eq {G : Gh} : ∀ {zs us : List Value}, AllRep G (zs.map vA) us → us = zs
  | [], [], _ => rfl
  | _ :: _, _ :: _, h => by rw [h.1.eq, allRep_eq h.2]
/-- put some cells at a place -/
def setC (acc : List AV) (off : Nat) (l : List AV) : List AV := acc.take off ++ l ++ acc.drop (off + l.length)
def PartsA (T0 : Gh) (fr : Fr) (pl : List (Nat × Nat)) : List (Nat × Operand) → List AV → List AV → Prop
  | [], acc, res => res = acc
  | (i, x) :: r, acc, res => ∃ A l off, Opd T0 fr x A ∧ CellsA A l ∧ pl[i]? = some (off, l.length) ∧ off + l.length ≤ acc.length ∧ PartsA T0 fr pl r (setC acc off l) res
theorem pa_nil {pl : List (Nat × Nat)} {acc : List AV} : PartsA T0 fr pl [] acc acc := rfl
theorem pa_any {pl : List (Nat × Nat)} {i : Nat} {x : Operand} {r : List (Nat × Operand)} {acc res l : List AV} {A : AV} {off : Nat} (hx : Opd T0 fr x A) (hc : CellsA A l) (hp : pl[i]? = some (off, l.length)) (hn : Nat.ble (off + l.length) acc.length = true) (h : PartsA T0 fr pl r (setC acc off l) res) : PartsA T0 fr pl ((i, x) :: r) acc res :=
  ⟨A, l, off, hx, hc, hp, by simpa using hn, h⟩
section
variable {pl : List (Nat × Nat)} {i : Nat} {x : Operand} {r : List (Nat × Operand)} {res s : List AV} {A a0 a1 a2 a3 a4 a5 a6 B0 B1 : AV}
theorem pa0 (hx : Opd T0 fr x A) (hc : CellsA A [A]) (hp : pl[i]? = some (0, 1)) (h : PartsA T0 fr pl r (A :: s) res) : PartsA T0 fr pl ((i, x) :: r) (a0 :: s) res := ⟨A, [A], 0, hx, hc, hp, by simp, h⟩
theorem pa1 (hx : Opd T0 fr x A) (hc : CellsA A [A]) (hp : pl[i]? = some (1, 1)) (h : PartsA T0 fr pl r (a0 :: A :: s) res) : PartsA T0 fr pl ((i, x) :: r) (a0 :: a1 :: s) res := ⟨A, [A], 1, hx, hc, hp, by simp, h⟩
theorem pa2 (hx : Opd T0 fr x A) (hc : CellsA A [A]) (hp : pl[i]? = some (2, 1)) (h : PartsA T0 fr pl r (a0 :: a1 :: A :: s) res) : PartsA T0 fr pl ((i, x) :: r) (a0 :: a1 :: a2 :: s) res := ⟨A, [A], 2, hx, hc, hp, by simp, h⟩
theorem pa3 (hx : Opd T0 fr x A) (hc : CellsA A [A]) (hp : pl[i]? = some (3, 1)) (h : PartsA T0 fr pl r (a0 :: a1 :: a2 :: A :: s) res) : PartsA T0 fr pl ((i, x) :: r) (a0 :: a1 :: a2 :: a3 :: s) res := ⟨A, [A], 3, hx, hc, hp, by simp, h⟩
theorem pa4 (hx : Opd T0 fr x A) (hc : CellsA A [A]) (hp : pl[i]? = some (4, 1)) (h : PartsA T0 fr pl r (a0 :: a1 :: a2 :: a3 :: A :: s) res) : PartsA T0 fr pl ((i, x) :: r) (a0 :: a1 :: a2 :: a3 :: a4 :: s) res := ⟨A, [A], 4, hx, hc, hp, by simp, h⟩
theorem pa5 (hx : Opd T0 fr x A) (hc : CellsA A [A]) (hp : pl[i]? = some (5, 1)) (h : PartsA T0 fr pl r (a0 :: a1 :: a2 :: a3 :: a4 :: A :: s) res) : PartsA T0 fr pl ((i, x) :: r) (a0 :: a1 :: a2 :: a3 :: a4 :: a5 :: s) res := ⟨A, [A], 5, hx, hc, hp, by simp, h⟩
theorem pa6 (hx : Opd T0 fr x A) (hc : CellsA A [A]) (hp : pl[i]? = some (6, 1)) (h : PartsA T0 fr pl r (a0 :: a1 :: a2 :: a3 :: a4 :: a5 :: A :: s) res) : PartsA T0 fr pl ((i, x) :: r) (a0 :: a1 :: a2 :: a3 :: a4 :: a5 :: a6 :: s) res := ⟨A, [A], 6, hx, hc, hp, by simp, h⟩
theorem pa0' (hx : Opd T0 fr x (aggA [B0, B1])) (hp : pl[i]? = some (0, 2)) (h : PartsA T0 fr pl r (B0 :: B1 :: s) res) : PartsA T0 fr pl ((i, x) :: r) (a0 :: a1 :: s) res := ⟨_, _, 0, hx, ca_agg, hp, by simp, h⟩
end
theorem AllRep.setC {G : Gh} {acc l : List AV} {us vs : List Value} {off : Nat} (h : AllRep G acc us) (k : AllRep G l vs) : AllRep G (setC acc off l) (us.take off ++ vs ++ us.drop (off + vs.length)) := by
  unfold Go.Proofs.YtplabpjkkcillaaDoor.setC
  rw [k.len]
  exact ((h.take off).append k).append (h.drop _)
theorem foldl_set : ∀ (vs : List Value) (cs : List Value) (off : Nat), off + vs.length ≤ cs.length → (vs.zipIdx.foldl (fun (cs : Array Value) (c, j) => cs.setIfInBounds (off + j) c) cs.toArray) = (cs.take off ++ vs ++ cs.drop (off + vs.length)).toArray := by
  intro vs cs off h
  have gen : ∀ (vs : List Value) (k : Nat) (cs : List Value), off + k + vs.length ≤ cs.length → ((vs.zipIdx k).foldl (fun (cs : Array Value) (c, j) => cs.setIfInBounds (off + j) c) cs.toArray) = (cs.take (off + k) ++ vs ++ cs.drop (off + k + vs.length)).toArray := by
    intro vs
    induction vs with
    | nil => intro k cs h; simp
    | cons v vs ih =>
      intro k cs h
      simp only [List.zipIdx_cons, List.foldl_cons, List.setIfInBounds_toArray]
      simp only [List.length_cons] at h
      rw [ih (k + 1) (cs.set (off + k) v) (by simp; omega)]
      congr 1
      have hs := list_seg_step cs (off + k) v vs (by omega)
      rw [show off + (k + 1) = off + k + 1 by omega, show off + k + 1 + vs.length = off + k + 1 + vs.length from rfl, hs]
      simp only [List.length_cons]
  have := gen vs 0 cs (by omega)
  simpa using this
theorem fill_rep {G : Gh} {a : Act} (hT : Gh.le T0 G) {place : Nat → Option (Nat × Nat)} {pl : List (Nat × Nat)} (hpl : ∀ i q, pl[i]? = some q → place i = some q) :
    ∀ (ps : List (Nat × Operand)) (acc res : List AV) (cs : List Value), PartsA T0 fr pl ps acc res → (∀ p ∈ ps, p.2 ∈ o.op.operands) → frOn G (reads ops o) fr a.tmps → AllRep G acc cs →
      ∃ ds : List Value, Instr.fill place cs.toArray (ps.map fun (i, x) => (i, a.eval x)) = some ds.toArray ∧ AllRep G res ds
  | [], acc, res, cs, h, _, _, r => ⟨cs, rfl, by rw [h]; exact r⟩
  | (i, x) :: ps, acc, res, cs, h, hm, hf, r => by
    obtain ⟨A, l, off, hx, hc, hp, hn, hr⟩ := h
    have hv := hc G _ (hx.use (o := o) (ops := ops) (hm (i, x) (by simp)) hT hf)
    have hvl : (a.eval x).cells.size = l.length := by have := hv.len; simpa using this
    have hcl := r.len
    obtain ⟨ds, e1, e2⟩ := fill_rep hT hpl ps _ res _ hr (fun p hp' => hm p (by simp [hp'])) hf (r.setC hv (off := off))
    refine ⟨ds, ?_, e2⟩
    rw [← e1]
    simp only [List.map_cons, Instr.fill, hpl i _ hp, hvl]
    have h1 : ¬ (l.length ≠ l.length ∨ off + l.length > cs.toArray.size) := by
      simp only [List.size_toArray, hcl]; omega
    simp only [ne_eq, not_true_eq_false, decide_false, Bool.false_or, List.size_toArray]
    rw [if_neg (by simp [hcl]; omega)]
    congr 1
    have := foldl_set (a.eval x).cells.toList cs off (by simp only [Array.length_toList, hvl, hcl]; exact hn)
    rw [← this]
    rw [← Array.foldl_toList, Array.toList_zipIdx]
theorem ay_build {t : TypeId} {parts : Array (Nat × Operand)} {Z res : List AV} {pl : List (Nat × Nat)} (ho : o.op = .build t parts) (hs : StT P t Z pl) (hp : PartsA T0 fr pl parts.toList Z res) : AY P T0 ops o fr M (aggA res) := ay_of fun w0 G F a w st hf => by
  obtain ⟨⟨fs, hu, hpl⟩, zs, hz, rfl⟩ := hs
  obtain ⟨i, hi, hi2⟩ := Option.map_eq_some_iff.1 hz
  obtain ⟨hz1, hz2⟩ := Prod.mk.inj hi2
  have hplaces := run_places (P := P) w fs.toList pl hpl
  obtain ⟨ds, e1, e2⟩ := fill_rep (o := o) (ops := ops) (G := G) (a := a) st.tab (place := fun k => pl.toArray[k]?) (pl := pl) (fun k q h => by simpa using h) parts.toList _ res zs hp
    (fun p hp' => by simp only [ho, Op.operands]; simp; exact ⟨p.1, by simpa using hp'⟩) hf (allRep_va G zs)
  refine ⟨.agg ds.toArray, ?_, .of ⟨ds, rfl, e2⟩⟩
  have hmap : (parts.map fun (i, x) => (i, a.eval x)).toList = parts.toList.map fun (i, x) => (i, a.eval x) := by simp
  have e1' : Instr.fill (fun x => pl[x]?) zs.toArray (parts.toList.map fun (i, x) => (i, a.eval x)) = some ds.toArray := by simpa using e1
  have hrun : (Instr.build t (parts.map fun (i, x) => (i, a.eval x))).run P w = .ok (.agg ds.toArray) w := by
    refine run_build w t _ _ ?_
    unfold Program.built
    simp only [hi, hz1, hu, hpl, hmap, Value.cells]
    simpa using e1'
  simp [execOp, ho, hrun]

theorem run_isAgg_struct {t : TypeId} {fs : Array Field} (h : P.underlying t = some (.struct fs)) (w : World) : (isAgg t).run P w = .ok true w := by simp [isAgg, run_underlying h]
theorem allRep_extract {G : Gh} {l : List AV} {us : List Value} (h : AllRep G l us) (a b : Nat) : AllRep G ((l.take b).drop a) (us.toArray.extract a b).toList := by
  have : (us.toArray.extract a b).toList = (us.take b).drop a := by simp [List.drop_take]
  rw [this]; exact (h.take b).drop a
/-- a field of a struct's value: a plain one ¦ one that is a struct itself -/
theorem ay_field1 {t : TypeId} {x : Operand} {i off : Nat} {l : List AV} {A : AV} {ft : TypeId} (ho : o.op = .field t x i) (hx : Opd T0 fr x (aggA l))
    (hu : Fld P t i off ft) (ha : ∀ w, (isAgg ft).run P w = .ok false w) (hA : l[off]? = some A) : AY P T0 ops o fr M A := ay_of fun w0 G F a w hs hf => by
  obtain ⟨us, h1, h2⟩ := (hx.use (o := o) (ops := ops) (by simp [ho, Op.operands]) hs.tab hf).agg
  obtain ⟨fs, f, h3, h4, rfl, rfl⟩ := hu
  obtain ⟨u, h5, h6⟩ := h2.get _ hA
  exact ⟨u, by simp [execOp, ho, h1, Instr.field, run_underlying h3, h4, asAgg, part, ha, h5], h6⟩
theorem ay_fieldn {t : TypeId} {x : Operand} {i off sz : Nat} {l : List AV} {ft : TypeId} (ho : o.op = .field t x i) (hx : Opd T0 fr x (aggA l))
    (hu : Fld P t i off ft) (ha : ∀ w, (isAgg ft).run P w = .ok true w) (hsize : ∀ w, (sizeOf ft).run P w = .ok sz w) : AY P T0 ops o fr M (aggA ((l.take (off + sz)).drop off)) := ay_of fun w0 G F a w hs hf => by
  obtain ⟨us, h1, h2⟩ := (hx.use (o := o) (ops := ops) (by simp [ho, Op.operands]) hs.tab hf).agg
  obtain ⟨fs, f, h3, h4, rfl, rfl⟩ := hu
  refine ⟨.agg (us.toArray.extract f.offset (f.offset + sz)), ?_, .of ⟨_, by simp, allRep_extract h2 f.offset (f.offset + sz)⟩⟩
  simp only [execOp, ho, h1, Instr.field]
  simp [run_underlying h3, h4, asAgg, part, ha, hsize]

/-! ### immutable slices -/
/-- the element's value -/
structure El {α : Type} (P : Program) (T : Ty α) (e : TypeId) (d : α) (bytes : Nat) (av : α → AV) : Prop where
  info : ∃ z, (P.info? e).map (fun i => (i.zero, i.size, i.bytes)) = some (some z, T.k, bytes) ∧ z.cells.toList = T.enc d
  pos : 0 < T.k
  one : ∀ x, ∀ v ∈ T.enc x, v.oneCell' = true
  /-- it is loaded whole -/
  load : (∀ w, (isAgg e).run P w = .ok true w) ∧ (∀ x, av x = aggA ((T.enc x).map vA)) ∨ (∀ w, (isAgg e).run P w = .ok false w) ∧ T.k = 1 ∧ (∀ x v, T.enc x = [v] → av x = vA v)
theorem El.size {α : Type} {T : Ty α} {e : TypeId} {d : α} {by' : Nat} {av : α → AV} (h : El P T e d by' av) (w : World) : (sizeOf e).run P w = .ok T.k w := by
  obtain ⟨z, hi, _⟩ := h.info
  obtain ⟨i, h1, h2⟩ := Option.map_eq_some_iff.1 hi
  simp only [Prod.mk.injEq] at h2
  simp [sizeOf, typeInfo, h1, h2.2.1]
theorem getElem?_flatMap {α : Type} (T : Ty α) : ∀ (l : List α) (i j : Nat) (x : α), l[i]? = some x → j < T.k → (l.flatMap T.enc)[i * T.k + j]? = (T.enc x)[j]?
  | [], i, j, x, h, _ => by simp at h
  | y :: l, 0, j, x, h, hj => by
    simp at h; subst h
    simp only [List.flatMap_cons, Nat.zero_mul, Nat.zero_add]
    rw [List.getElem?_append_left (by rw [T.len]; exact hj)]
  | y :: l, i + 1, j, x, h, hj => by
    simp only [List.flatMap_cons]
    rw [show (i + 1) * T.k + j = T.k + (i * T.k + j) by rw [Nat.add_mul]; omega, ← T.len y, List.getElem?_append_right (by omega)]
    simp only [Nat.add_sub_cancel_left]
    rw [T.len y]
    exact getElem?_flatMap T l i j x (by simpa using h) hj
theorem ay_len {α : Type} {T : Ty α} {x : Operand} {t e : TypeId} {ts : Array TypeId} {l : List α} (ho : o.op = .call { callee := .builtin .len, args := #[x], argTypes := ts }) (ht : ts[0]? = some t) (hu : P.underlying t = some (.slice e)) (hx : Opd T0 fr x (slA T l)) : AY P T0 ops o fr M (I l.length) := ay_of fun w0 G F a w hs hf => by
  obtain ⟨ad, n, cap, h1, h2, _⟩ := (hx.use (o := o) (ops := ops) (by simp [ho, Op.operands, Call.operands]) hs.tab hf).sl
  subst h2
  exact ⟨_, by simp [execOp, ho, resolve, invoke, builtin, Builtin.len_, ht, h1, run_underlying hu, goInt], Rep.va _ _⟩
theorem ay_len_str {x : Operand} {t : TypeId} {ts : Array TypeId} {s : ByteArray} (ho : o.op = .call { callee := .builtin .len, args := #[x], argTypes := ts }) (ht : ts[0]? = some t) (hu : P.underlying t = some .string) (hx : Opd T0 fr x (vA (.string s))) : AY P T0 ops o fr M (I s.size) := ay_of fun w0 G F a w hs hf => by
  have h1 := (hx.use (o := o) (ops := ops) (by simp [ho, Op.operands, Call.operands]) hs.tab hf).eq
  exact ⟨_, by simp [execOp, ho, resolve, invoke, builtin, Builtin.len_, ht, h1, run_underlying hu, goInt], Rep.va _ _⟩
/-- the address of an element -/
theorem ay_indexAddr {α : Type} {T : Ty α} {x y : Operand} {t e : TypeId} {l : List α} {d : α} {by' : Nat} {av : α → AV} {k : IntKind} {n : Nat} {z : α} (ho : o.op = .indexAddr t x y) (hu : P.underlying t = some (.slice e)) (he : El P T e d by' av) (hx : Opd T0 fr x (slA T l)) (hy : Opd T0 fr y (vA (.int k (n : Int)))) (hn : l[n]? = some z) : AY P T0 ops o fr M (ipA (T.enc z)) := ay_of fun w0 G F a w hs hf => by
  obtain ⟨ad, m, cap, h1, h2, _, _, _, h3⟩ := (hx.use (o := o) (ops := ops) (by simp [ho, Op.operands]) hs.tab hf).sl
  have h4 := (hy.use (o := o) (ops := ops) (by simp [ho, Op.operands]) hs.tab hf).eq
  subst h2
  have hlt : n < l.length := (List.getElem?_eq_some_iff.1 hn).1
  obtain ⟨b, off, rfl, hc⟩ := h3 (by intro h; subst h; simp at hlt)
  refine ⟨.pointer (some ⟨b, off + n * T.k, none⟩), ?_, .of ⟨b, off + n * T.k, rfl, fun j v hv => ?_⟩⟩
  · have hr : 0 ≤ (n : Int) ∧ (n : Int) < (l.length : Int) := by omega
    simp only [execOp, ho, h1, h4]
    simp [Instr.indexAt, asIntOf, run_underlying hu, he.size, hlt, Addr.add_lit]
  · have hj : j < T.k := by rw [← T.len z]; exact (List.getElem?_eq_some_iff.1 hv).1
    rw [Nat.add_assoc]
    exact hc _ v (by rw [getElem?_flatMap T l n j z hn hj]; exact hv)
theorem St.cell {w0 w : World} {G : Gh} {M : List Own} (h : St T0 w0 G M w) {b o : Nat} {v : Value} (e : G b o = some v) : w.cell? ⟨b, o, none⟩ = some v := h.imm _ _ _ e
/-- an element is loaded -/
theorem ay_load_el {α : Type} {T : Ty α} {x : Operand} {e : TypeId} {d z : α} {by' : Nat} {av : α → AV} (ho : o.op = .load e x) (he : El P T e d by' av) (hx : Opd T0 fr x (ipA (T.enc z))) : AY P T0 ops o fr M (av z) := ay_of fun w0 G F a w hs hf => by
  obtain ⟨b, off, h1, h2⟩ := (hx.use (o := o) (ops := ops) (by simp [ho, Op.operands]) hs.tab hf).ip
  rcases he.load with ⟨ha, hv⟩ | ⟨ha, hk, hv⟩
  · refine ⟨.agg (T.enc z).toArray, ?_, by rw [hv]; exact .of ⟨_, rfl, allRep_va _ _⟩⟩
    have hl := run_loadCells_list (P := P) (w := w) ⟨b, off, none⟩ (T.enc z) (fun j v hv => by rw [Addr.add_lit]; exact hs.imm _ _ _ (h2 j v hv))
    rw [T.len] at hl
    simp only [execOp, ho, h1, Instr.loadAt, Instr.sureAddr, loadVar]
    simp [ha, he.size, hl]
  · obtain ⟨v, hz⟩ : ∃ v, T.enc z = [v] := by
      have := T.len z
      rw [hk] at this
      exact List.length_eq_one_iff.1 this
    refine ⟨v, ?_, by rw [hv z v hz]; exact Rep.va _ _⟩
    have hc := hs.imm _ _ _ (h2 0 v (by rw [hz]; rfl))
    simp only [Nat.add_zero] at hc
    simp only [execOp, ho, h1, Instr.loadAt, Instr.sureAddr, loadVar]
    simp [ha, load, Sem.run, hc]
/-- a plain cell is loaded; a field's address -/
theorem ay_load1 {x : Operand} {t : TypeId} {v : Value} {r : List Value} (ho : o.op = .load t x) (ha : ∀ w, (isAgg t).run P w = .ok false w) (hx : Opd T0 fr x (ipA (v :: r))) : AY P T0 ops o fr M (vA v) := ay_of fun w0 G F a w hs hf => by
  obtain ⟨b, off, h1, h2⟩ := (hx.use (o := o) (ops := ops) (by simp [ho, Op.operands]) hs.tab hf).ip
  have hc := hs.imm _ _ _ (h2 0 v rfl)
  simp only [Nat.add_zero] at hc
  refine ⟨v, ?_, Rep.va _ _⟩
  simp only [execOp, ho, h1, Instr.loadAt, Instr.sureAddr, loadVar]
  simp [ha, load, Sem.run, hc]
theorem ay_load1' {x : Operand} {t : TypeId} {v : Value} {cs : List Value} (ho : o.op = .load t x) (ha : ∀ w, (isAgg t).run P w = .ok false w) (hx : Opd T0 fr x (ipA cs)) (hv : cs[0]? = some v) : AY P T0 ops o fr M (vA v) := by
  cases cs with
  | nil => simp at hv
  | cons a r => simp at hv; subst hv; exact ay_load1 ho ha hx
theorem ay_loadn {x : Operand} {t : TypeId} {n : Nat} {cs : List Value} (ho : o.op = .load t x) (ha : ∀ w, (isAgg t).run P w = .ok true w) (hz : ∀ w, (sizeOf t).run P w = .ok n w) (hx : Opd T0 fr x (ipA cs)) (hn : n ≤ cs.length) : AY P T0 ops o fr M (aggA ((cs.take n).map vA)) := ay_of fun w0 G F a w hs hf => by
  obtain ⟨b, off, h1, h2⟩ := (hx.use (o := o) (ops := ops) (by simp [ho, Op.operands]) hs.tab hf).ip
  refine ⟨.agg (cs.take n).toArray, ?_, .of ⟨_, rfl, allRep_va _ _⟩⟩
  have hl := run_loadCells_list (P := P) (w := w) ⟨b, off, none⟩ (cs.take n) (fun j v hv => by
    rw [Addr.add_lit]
    refine hs.imm _ _ _ (h2 j v ?_)
    rw [List.getElem?_take] at hv
    split at hv
    · exact hv
    · cases hv)
  rw [List.length_take, Nat.min_eq_left hn] at hl
  simp only [execOp, ho, h1, Instr.loadAt, Instr.sureAddr, loadVar]
  simp [ha, hz, hl]
theorem ip_drop {cs : List Value} {b off n : Nat} {G : Gh} (h : ∀ j v, cs[j]? = some v → G b (off + j) = some v) : Rep G (ipA (cs.drop n)) (.pointer (some ⟨b, off + n, none⟩)) :=
  .of ⟨b, off + n, rfl, fun j v hv => by rw [Nat.add_assoc]; exact h _ _ (by rw [List.getElem?_drop] at hv; exact hv)⟩
theorem ay_fieldAddr {x : Operand} {t : TypeId} {i off : Nat} {ft : TypeId} {cs : List Value} (ho : o.op = .fieldAddr t x i) (hu : Fld P t i off ft)
    (hsz : ∀ w, ∃ n, (sizeOf ft).run P w = .ok (n + 1) w) (hx : Opd T0 fr x (ipA cs)) : AY P T0 ops o fr M (ipA (cs.drop off)) := ay_of fun w0 G F a w hs hf => by
  obtain ⟨b, of, h1, h2⟩ := (hx.use (o := o) (ops := ops) (by simp [ho, Op.operands]) hs.tab hf).ip
  obtain ⟨fs, f, h3, h4, rfl, rfl⟩ := hu
  obtain ⟨n, h5⟩ := hsz w
  refine ⟨.pointer (some ⟨b, of + f.offset, none⟩), ?_, ip_drop h2⟩
  simp only [execOp, ho, h1, Instr.fieldAt]
  simp [run_underlying h3, h4, Instr.sureAddr, fieldPlace, h5, Addr.add_lit]
/-- an element of an array behind a pointer -/
theorem ay_indexAddr_arr {x y : Operand} {t e : TypeId} {n k' m : Nat} {k : IntKind} {cs : List Value} (ho : o.op = .indexAddr t x y) (hu : P.underlying t = some (.array n e)) (hz : ∀ w, (sizeOf e).run P w = .ok k' w) (hx : Opd T0 fr x (ipA cs)) (hy : Opd T0 fr y (vA (.int k (m : Int)))) (hm : m < n) : AY P T0 ops o fr M (ipA (cs.drop (m * k'))) := ay_of fun w0 G F a w hs hf => by
  obtain ⟨b, of, h1, h2⟩ := (hx.use (o := o) (ops := ops) (by simp [ho, Op.operands]) hs.tab hf).ip
  have h4 := (hy.use (o := o) (ops := ops) (by simp [ho, Op.operands]) hs.tab hf).eq
  refine ⟨.pointer (some ⟨b, of + m * k', none⟩), ?_, ip_drop h2⟩
  have hr : (m : Int) < (n : Int) := by omega
  simp only [execOp, ho, h1, h4]
  simp [Instr.indexAt, asIntOf, run_underlying hu, hz, hm, Instr.sureAddr, Addr.add_lit]
theorem run_buildSlice {t e : TypeId} {n k : Nat} {z : Value} {w : World} {parts : Array (Nat × Value)} {cells : Array Value} (hu : P.underlying t = some (.slice e)) (hsz : (sizeOf e).run P w = .ok k w) (hz : (zeroValue e).run P w = .ok z w) (hn : n * k ≤ 16777216)
    (hf : Instr.fill (fun i => some (i * k, k)) ((Array.range (n * k)).map fun x => z.cells[x % z.cells.size]!) parts.toList = some cells) :
    (Instr.buildSlice t n parts).run P w = .ok (.slice (some ⟨w.heap.size, 0, none⟩) n n) (w.alloc (.cells cells e)) := by
  have hn' : ¬ (2 ^ 24 < n * k) := by omega
  have e0 : ∀ f g : Nat → Value, (Array.range 0).map f = (Array.range 0).map g := fun f g => by apply Array.ext'; simp [Array.toList_range]
  unfold Instr.buildSlice
  simp only [Sem.run_bind, run_underlying hu, Result.andThen_ok, hsz, hn', if_false, gt_iff_lt]
  by_cases h0 : n * k = 0
  · rw [h0] at hf
    rw [e0 _ (fun _ => default)] at hf
    simp only [h0, if_true, Sem.run_pure, Result.andThen_ok]
    simp [newRow, newObj, Sem.run, hf]
  · simp only [h0, if_false, Sem.run_bind, hz, Result.andThen_ok, Sem.run_pure, hf]
    simp [newRow, newObj, Sem.run]
theorem zeros_eq (zc : Array Value) (k : Nat) (h : zc.size = k) : ∀ n : Nat, (List.range (n * k)).map (fun x => zc[x % k]!) = (List.range n).flatMap fun _ => zc.toList
  | 0 => by simp
  | n + 1 => by
    rw [Nat.add_mul, Nat.one_mul, List.range_add, List.map_append, zeros_eq zc k h n, List.range_succ, List.flatMap_append]
    congr 1
    simp only [List.map_map, List.flatMap_cons, List.flatMap_nil, List.append_nil]
    apply List.ext_getElem
    · simp [h]
    · intro i h1 h2
      have hi : i < k := by simpa using h1
      have hm : (n * k + i) % k = i := by rw [Nat.add_comm, Nat.add_mul_mod_self_right, Nat.mod_eq_of_lt hi]
      simp [hm, h, hi]
theorem alloc_sl {α : Type} {T : Ty α} {G : Gh} {w : World} {l : List α} (hl : l.length ≤ maxLen) : Rep (fun b o => if b = w.heap.size then (l.flatMap T.enc).toArray[o]? else G b o) (slcA T l) (.slice (some ⟨w.heap.size, 0, none⟩) l.length l.length) :=
  .of ⟨_, _, rfl, rfl, hl, fun _ => ⟨_, 0, rfl, fun j v hv => by simp only [Nat.zero_add, if_true]; simpa using hv⟩⟩
theorem slc_sl {α : Type} {T : Ty α} {l : List α} {G : Gh} {u : Value} (h : Rep G (slcA T l) u) : Rep G (slA T l) u :=
  let ⟨G0, h0, a, n, e1, e2, e3, r⟩ := h; ⟨G0, h0, a, n, n, e1, e2, Nat.le_refl _, e3, (fun e => by
    rcases Nat.eq_zero_or_pos n with hn | hn
    · exact hn
    · obtain ⟨b, off, hb, _⟩ := r (by intro hl; subst hl; simp at e2; omega)
      rw [e] at hb; cases hb), r⟩
theorem sub_slc {α : Type} {T : Ty α} {l : List α} : Sub (slcA T l) (slA T l) := fun _ _ h => slc_sl h
/-- a literal's own array, immutable from the first -/
theorem ay_buildSlice {α : Type} {T : Ty α} {t e : TypeId} {n : Nat} {parts : Array (Nat × Operand)} (l : List α) {d : α} {by' : Nat} {av : α → AV} (ho : o.op = .buildSlice t n parts) (hu : P.underlying t = some (.slice e)) (he : El P T e d by' av) (hl : l.length = n) (hn : n * T.k ≤ 16777216)
    (hp : ∃ res, PartsA T0 fr ((List.range n).map fun i => (i * T.k, T.k)) parts.toList (((List.range n).flatMap fun _ => T.enc d).map vA) res ∧ res = (l.flatMap T.enc).map vA) :
    AY P T0 ops o fr M (slcA T l) := fun w0 G F a w next Qc hs hf hk _ => by
  obtain ⟨z, hi, hz⟩ := he.info
  obtain ⟨i, h1, h2⟩ := Option.map_eq_some_iff.1 hi
  simp only [Prod.mk.injEq] at h2
  obtain ⟨res, hparts, hres⟩ := hp
  have hzl : z.cells.size = T.k := by rw [← Array.length_toList, hz, T.len]
  have hzeros : ((Array.range (n * T.k)).map fun x => z.cells[x % z.cells.size]!) = ((List.range n).flatMap fun _ => T.enc d).toArray := by
    apply Array.ext'
    simp only [Array.toList_map, Array.toList_range]
    rw [hzl, ← hz]
    exact zeros_eq z.cells T.k hzl n
  obtain ⟨ds, e1, e2⟩ := fill_rep (o := o) (ops := ops) (G := G) (a := a) hs.tab (place := fun i => some (i * T.k, T.k)) (pl := (List.range n).map fun i => (i * T.k, T.k)) (fun i q h => by
    simp only [List.getElem?_map, Option.map_eq_some_iff] at h
    obtain ⟨j, hj, rfl⟩ := h
    obtain ⟨hlt, rfl⟩ := List.getElem?_eq_some_iff.1 hj
    simp) parts.toList _ res _ hparts (fun p hp' => by simp only [ho, Op.operands]; simp; exact ⟨p.1, by simpa using hp'⟩) hf (allRep_va G _)
  subst hres
  obtain rfl := allRep_eq e2
  have hrun : (execOp a.eval o).run P w = .ok (.value (.slice (some ⟨w.heap.size, 0, none⟩) n n)) (w.alloc (.cells (l.flatMap T.enc).toArray e)) := by
    have hmap : (parts.map fun (i, x) => (i, a.eval x)).toList = parts.toList.map fun (i, x) => (i, a.eval x) := by simp
    have hr := run_buildSlice (t := t) (n := n) (parts := parts.map fun (i, x) => (i, a.eval x)) (cells := (l.flatMap T.enc).toArray) hu (he.size w) (z := z) (by simp [zeroValue, typeInfo, h1, h2.1]) hn (by rw [hzeros, hmap]; exact e1)
    simp only [execOp, ho]
    simp only [Sem.run_bind, hr, Result.andThen_ok, Sem.run_pure]
  obtain ⟨s1, s2⟩ := hs.allocG (l.flatMap T.enc).toArray e
  unfold Oper.wp; rw [hrun]
  refine hk (slcA T l) M _ _ _ ⟨rfl, rfl⟩ s2 s1 ?_
  subst hl
  exact alloc_sl (by have := he.pos; unfold maxLen; have : l.length ≤ l.length * T.k := Nat.le_mul_of_pos_right _ he.pos; omega)
theorem AY.sub {A A' : AV} (h : AY P T0 ops o fr M A) (s : Sub A A') : AY P T0 ops o fr M A' := fun w0 G F a w next Qc hs hf hk hp =>
  h w0 G F a w next Qc hs hf (fun A1 M1 G1 u w1 e hl hs1 hu => by obtain ⟨rfl, rfl⟩ := e; exact hk A' _ G1 u w1 ⟨rfl, rfl⟩ hl hs1 (s G1 u hu)) (fun c M1 G1 w1 f => f.elim)
/-- a slice that is read is no longer than an int says -/
theorem aw_len {α : Type} {T : Ty α} {l : List α} {c : Code} (s : Nat) (hs : fr.get s = some (slA T l)) (h : l.length ≤ 9223372036854775807 → AW P T0 N c Q fr M) : AW P T0 N c Q fr M := fun w0 G F a w hc => by
  obtain ⟨u, _, hu⟩ := hc.fr s _ trivial hs
  obtain ⟨_, n, cap, _, e2, e3, e4, _⟩ := hu.sl
  simp only [maxLen] at e4
  exact h (by omega) w0 G F a w hc
end
end Go.Proofs.YtplabpjkkcillaaDoor
