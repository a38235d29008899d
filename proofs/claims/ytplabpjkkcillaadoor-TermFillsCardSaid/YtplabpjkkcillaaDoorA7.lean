/- The logic's seventh part: variables of one's own, closures, naturals. No condition. -/
import Derived.Test.YtplabpjkkcillaaDoorA6
namespace Go.Proofs.YtplabpjkkcillaaDoor
set_option linter.unusedSimpArgs false
set_option linter.unusedVariables false
set_option linter.unusedSectionVars false
set_option maxHeartbeats 4000000
open Go Go.RowKit

def OneA (A : AV) : Prop := ∀ G u, Rep G A u → u.oneCell' = true
theorem one_v {v : Value} (h : v.oneCell' = true) : OneA (vA v) := fun _ _ r => by rw [r.eq]; exact h
theorem one_sl {α : Type} {T : Ty α} {l : List α} : OneA (slA T l) := fun _ _ r => by obtain ⟨a, n, cap, rfl, _⟩ := r.sl; rfl
theorem one_slc {α : Type} {T : Ty α} {l : List α} : OneA (slcA T l) := fun _ _ r => by obtain ⟨_, _, a, n, rfl, _⟩ := r; rfl
def OnesA : List AV → Prop
  | [] => True
  | A :: l => OneA A ∧ OnesA l
theorem ones0 : OnesA [] := trivial
theorem ones1 {A : AV} {l : List AV} (h : OneA A) (k : OnesA l) : OnesA (A :: l) := ⟨h, k⟩
theorem OnesA.all {G : Gh} : ∀ {l us}, OnesA l → AllRep G l us → ∀ v ∈ us, v.oneCell' = true
  | [], [], _, _, _, h => by simp at h
  | _ :: _, _ :: _, h, r, v, hv => by
    rcases List.mem_cons.1 hv with rfl | hv
    · exact h.1 _ _ r.1
    · exact OnesA.all h.2 r.2 v hv

section
variable {P : Program} {T0 : Gh} {N : Fz} {Q : Post} {fr : Fr} {M : List Own} {ops : Array Oper} {o : Oper}

theorem ao_new {e : TypeId} {l : List AV} (hr : ∀ G F (a : Act) (w w0 : World), St T0 w0 G (M ++ F) w → frOn G (reads ops o) fr a.tmps → ∃ cs : List Value, (execOp a.eval o).run P w = .ok (.value (.pointer (some ⟨w.heap.size, 0, none⟩))) (w.alloc (.cells cs.toArray e)) ∧ AllRep G l cs) :
    AO P T0 ops o fr M (fun A M' => ∃ b, A = vA (.pointer (some ⟨b, 0, none⟩)) ∧ M' = varO b e l :: M) (fun _ _ => False) := fun w0 G F a w next Qc hs hf hk _ => by
  obtain ⟨cs, hrun, hrep⟩ := hr G F a w w0 hs hf
  unfold Oper.wp; rw [hrun]
  exact hk _ (varO w.heap.size e l :: M) G _ _ ⟨w.heap.size, rfl, rfl⟩ (Gh.le.refl _) (hs.alloc _ _ rfl ⟨cs, heap_alloc_new w _, hrep⟩) (Rep.va _ _)
theorem ao_box {e : TypeId} {x : Operand} {A : AV} {l : List AV} (ho : o.op = .box e x) (hx : Opd T0 fr x A) (hc : CellsA A l) : AO P T0 ops o fr M (fun A M' => ∃ b, A = vA (.pointer (some ⟨b, 0, none⟩)) ∧ M' = varO b e l :: M) (fun _ _ => False) :=
  ao_new fun G F a w w0 hs hf => ⟨(a.eval x).cells.toList, by
    simp only [execOp, ho, Instr.box, newVar, newRow, newObj]
    simp [Sem.run], hc G _ (hx.use (o := o) (ops := ops) (by simp [ho, Op.operands]) hs.tab hf)⟩
theorem ao_alloc {e : TypeId} {zs : List Value} {z : Value} (ho : o.op = .alloc e) (hz : (P.info? e).map (·.zero) = some (some z)) (hzs : z.cells.toList = zs) : AO P T0 ops o fr M (fun A M' => ∃ b, A = vA (.pointer (some ⟨b, 0, none⟩)) ∧ M' = varO b e (zs.map vA) :: M) (fun _ _ => False) :=
  ao_new fun G F a w w0 hs hf => ⟨zs, by
    obtain ⟨i, h1, h2⟩ := Option.map_eq_some_iff.1 hz
    have hzv : (zeroValue e).run P w = .ok z w := by simp [zeroValue, typeInfo, h1, h2]
    subst hzs
    simp only [execOp, ho, Instr.alloc, newVar, newRow, newObj]
    simp [hzv, Sem.run], allRep_va _ _⟩
/-- a pointer that is known, moved on to a field -/
theorem ay_field_var {x : Operand} {t : TypeId} {i off b of2 : Nat} {ft : TypeId} (ho : o.op = .fieldAddr t x i) (hu : Fld P t i off ft)
    (hsz : ∀ w, ∃ n, (sizeOf ft).run P w = .ok (n + 1) w) (hx : Opd T0 fr x (vA (.pointer (some ⟨b, of2, none⟩)))) : AY P T0 ops o fr M (vA (.pointer (some ⟨b, of2 + off, none⟩))) := ay_of fun w0 G F a w hs hf => by
  have h2 := (hx.use (o := o) (ops := ops) (by simp [ho, Op.operands]) hs.tab hf).eq
  obtain ⟨fs, f, h3, h4, rfl, rfl⟩ := hu
  obtain ⟨m, h5⟩ := hsz w
  refine ⟨_, ?_, Rep.va _ _⟩
  simp only [execOp, ho, h2, Instr.fieldAt]
  simp [run_underlying h3, h4, Instr.sureAddr, fieldPlace, h5, Addr.add_lit]
theorem var_cells {b : Nat} {e : TypeId} {cells : List AV} {G : Gh} {w : World} (h : (varO b e cells).holds G w) : ∃ cs : List Value, w.heap[b]? = some (.cells cs.toArray e (0, 0)) ∧ AllRep G cells cs := h
theorem ay_load_var1 {x : Operand} {t e : TypeId} {b off : Nat} {cells : List AV} {A : AV} (i : Nat) (ho : o.op = .load t x) (ha : ∀ w, (isAgg t).run P w = .ok false w) (hM : M[i]? = some (varO b e cells)) (hx : Opd T0 fr x (vA (.pointer (some ⟨b, off, none⟩)))) (hA : cells[off]? = some A) : AY P T0 ops o fr M A := ay_of fun w0 G F a w hs hf => by
  have h2 := (hx.use (o := o) (ops := ops) (by simp [ho, Op.operands]) hs.tab hf).eq
  obtain ⟨cs, h3, h4⟩ := var_cells (hs.own _ (List.mem_of_getElem? (setAppend (F := F) (m' := varO b e cells) hM).1))
  obtain ⟨u, h5, h6⟩ := h4.get _ hA
  have hc : w.cell? ⟨b, off, none⟩ = some u := by rw [cell_of_row _ _ _ _ _ _ h3]; simpa using h5
  refine ⟨u, ?_, h6⟩
  simp only [execOp, ho, h2, Instr.loadAt, Instr.sureAddr, loadVar]
  simp [ha, load, Sem.run, hc]
theorem ay_load_varn {x : Operand} {t e : TypeId} {b off n : Nat} {cells : List AV} (i : Nat) (ho : o.op = .load t x) (ha : ∀ w, (isAgg t).run P w = .ok true w) (hz : ∀ w, (sizeOf t).run P w = .ok n w) (hM : M[i]? = some (varO b e cells)) (hx : Opd T0 fr x (vA (.pointer (some ⟨b, off, none⟩)))) (hn : off + n ≤ cells.length) : AY P T0 ops o fr M (aggA ((cells.drop off).take n)) := ay_of fun w0 G F a w hs hf => by
  have h2 := (hx.use (o := o) (ops := ops) (by simp [ho, Op.operands]) hs.tab hf).eq
  obtain ⟨cs, h3, h4⟩ := var_cells (hs.own _ (List.mem_of_getElem? (setAppend (F := F) (m' := varO b e cells) hM).1))
  refine ⟨.agg ((cs.drop off).take n).toArray, ?_, .of ⟨_, rfl, (h4.drop off).take n⟩⟩
  have hlen := h4.len
  have hl := run_loadCells_list (P := P) (w := w) ⟨b, off, none⟩ ((cs.drop off).take n) (fun j v hv => by
    rw [Addr.add_lit, cell_of_row _ _ _ _ _ _ h3]
    rw [List.getElem?_take] at hv
    split at hv
    · rw [List.getElem?_drop] at hv; simpa using hv
    · cases hv)
  rw [List.length_take, List.length_drop, Nat.min_eq_left (by omega)] at hl
  simp only [execOp, ho, h2, Instr.loadAt, Instr.sureAddr, loadVar]
  simp [ha, hz, hl]
/-- a variable, or a part of it, is written -/
theorem ao_store_var {x y : Operand} {t e : TypeId} {b off : Nat} {cells l : List AV} {A : AV} (i : Nat) (ho : o.op = .store t x y) (hz : ∀ w, (sizeOf t).run P w = .ok l.length w) (hM : M[i]? = some (varO b e cells)) (hx : Opd T0 fr x (vA (.pointer (some ⟨b, off, none⟩)))) (hy : Opd T0 fr y A) (hc : CellsA A l) (h1 : OnesA l) (hn : off + l.length ≤ cells.length) :
    AO P T0 ops o fr M (fun _ M' => M' = M.set i (varO b e (setC cells off l))) (fun _ _ => False) := fun w0 G F a w next Qc hs hf hk _ => by
  have h2 := (hx.use (o := o) (ops := ops) (by simp [ho, Op.operands]) hs.tab hf).eq
  have hv := hc G _ (hy.use (o := o) (ops := ops) (by simp [ho, Op.operands]) hs.tab hf)
  obtain ⟨hM1, hM2⟩ := setAppend (F := F) (m' := varO b e (setC cells off l)) hM
  obtain ⟨cs, h3, h4⟩ := var_cells (hs.own _ (List.mem_of_getElem? hM1))
  have hlen := h4.len
  have hvl := hv.len
  have hst := run_storeCells_at P b off e (a.eval y).cells.toList 0 cs.toArray w h3 (by simp only [List.size_toArray]; omega) (h1.all hv)
  simp only [Nat.add_zero] at hst
  have hrun : (execOp a.eval o).run P w = .ok .skip (w.setRow b (cs.take off ++ (a.eval y).cells.toList ++ cs.drop (off + (a.eval y).cells.toList.length)).toArray) := by
    have hsz : (a.eval y).cells.size = l.length := by simpa using hvl
    simp only [execOp, ho, h2, Instr.storeAt, Instr.sureAddr, storeVar]
    simp only [Sem.run_bind, hz, Result.andThen_ok, hsz, ne_eq, not_true_eq_false, if_false]
    simp at hst
    simp [hst]
  unfold Oper.wp; rw [hrun]
  refine hk anyA _ G undef _ rfl (Gh.le.refl _) ?_ (Rep.any _ _)
  rw [← hM2]
  refine hs.grown hM1 ⟨rfl, rfl, rfl, by simp, fun k _ hk => setRow_other w b k _ (fun e => hk (by simp [varO, e]))⟩ ?_ (fun b' hb => ⟨.inl hb, ?_⟩)
  · exact ⟨_, setRow_heap w b cs.toArray _ e _ h3, h4.setC hv⟩
  · have hb' : some b = some b' := hb
    obtain rfl := Option.some.inj hb'
    simpa using (Array.getElem?_eq_some_iff.1 h3).1
/-- a closure over variables -/
def OpdVals (T0 : Gh) (fr : Fr) : List Operand → List Value → Prop
  | [], [] => True
  | x :: xs, v :: vs => Opd T0 fr x (vA v) ∧ OpdVals T0 fr xs vs
  | _, _ => False
theorem ov0 : OpdVals T0 fr [] [] := trivial
theorem ov1 {x : Operand} {v : Value} {xs : List Operand} {vs : List Value} (h : Opd T0 fr x (vA v)) (k : OpdVals T0 fr xs vs) : OpdVals T0 fr (x :: xs) (v :: vs) := ⟨h, k⟩
theorem OpdVals.use {G : Gh} {a : Act} (ht : Gh.le T0 G) : ∀ {xs vs}, OpdVals T0 fr xs vs → (∀ x ∈ xs, x ∈ o.op.operands) → frOn G (reads ops o) fr a.tmps → xs.map a.eval = vs
  | [], [], _, _, _ => rfl
  | x :: xs, v :: vs, h, hx, hf => by rw [List.map_cons, (h.1.use (hx x (by simp)) ht hf).eq, OpdVals.use ht h.2 (fun y hy => hx y (by simp [hy])) hf]
theorem ay_func {f : FuncId} {caps : Array Operand} {vs : List Value} (ho : o.op = .makeFunc (.func f) #[] caps) (hc : OpdVals T0 fr caps.toList vs) : AY P T0 ops o fr M (vA (.func (.func f) #[] vs.toArray)) := ay_of fun w0 G F a w hs hf => by
  have h := hc.use (o := o) (ops := ops) hs.tab (fun x hx => by simp [ho, Op.operands]; simpa using hx) hf
  have e : Array.map a.eval caps = vs.toArray := by rw [← h, ← Array.toList_map, Array.toArray_toList]
  refine ⟨_, ?_, Rep.va _ _⟩
  simp only [execOp, ho, e]
  simp [Instr.makeFunc]

/-! ### naturals -/
theorem ay_addn {t t' : TypeId} {x y : Operand} {k : IntKind} {a b : Nat} (ho : o.op = .binOp .add t x y t') (hx : Opd T0 fr x (vA (.int k (a : Int)))) (hy : Opd T0 fr y (vA (.int k (b : Int)))) (hf : Fit k ((a + b : Nat) : Int)) : AY P T0 ops o fr M (vA (.int k ((a + b : Nat) : Int))) := by
  have e : ((a + b : Nat) : Int) = (a : Int) + (b : Int) := Int.natCast_add a b
  rw [e] at hf ⊢; exact ay_add ho hx hy hf
theorem ay_muln {t t' : TypeId} {x y : Operand} {k : IntKind} {a b : Nat} (ho : o.op = .binOp .mul t x y t') (hx : Opd T0 fr x (vA (.int k (a : Int)))) (hy : Opd T0 fr y (vA (.int k (b : Int)))) (hf : Fit k ((a * b : Nat) : Int)) : AY P T0 ops o fr M (vA (.int k ((a * b : Nat) : Int))) := by
  have e : ((a * b : Nat) : Int) = (a : Int) * (b : Int) := Int.natCast_mul a b
  rw [e] at hf ⊢; exact ay_mul ho hx hy hf
theorem ay_subn {t t' : TypeId} {x y : Operand} {k : IntKind} {a b : Nat} (ho : o.op = .binOp .sub t x y t') (hx : Opd T0 fr x (vA (.int k (a : Int)))) (hy : Opd T0 fr y (vA (.int k (b : Int)))) (hb : b ≤ a) (hf : Fit k ((a - b : Nat) : Int)) : AY P T0 ops o fr M (vA (.int k ((a - b : Nat) : Int))) := by
  have e : ((a - b : Nat) : Int) = (a : Int) - (b : Int) := by omega
  rw [e] at hf ⊢; exact ay_sub ho hx hy hf
theorem ay_quon {t t' : TypeId} {x y : Operand} {k : IntKind} {a b : Nat} (ho : o.op = .binOp .quo t x y t') (hx : Opd T0 fr x (vA (.int k (a : Int)))) (hy : Opd T0 fr y (vA (.int k (b : Int)))) (hb : 0 < b) (hf : Fit k ((a / b : Nat) : Int)) : AY P T0 ops o fr M (vA (.int k ((a / b : Nat) : Int))) := by
  have e : ((a / b : Nat) : Int) = (a : Int) / (b : Int) := Int.natCast_ediv a b
  rw [e] at hf ⊢; exact ay_quo ho hx hy (by omega) (by omega) hf
theorem ay_remn {t t' : TypeId} {x y : Operand} {k : IntKind} {a b : Nat} (ho : o.op = .binOp .rem t x y t') (hx : Opd T0 fr x (vA (.int k (a : Int)))) (hy : Opd T0 fr y (vA (.int k (b : Int)))) (hb : 0 < b) : AY P T0 ops o fr M (vA (.int k ((a % b : Nat) : Int))) := by
  have e : ((a % b : Nat) : Int) = (a : Int) % (b : Int) := Int.natCast_emod a b
  rw [e]; exact ay_rem ho hx hy (by omega) (by omega)
/-- what a slot holds may be told otherwise -/
theorem al_re {ops : Array Oper} {l : List Oper} {d : Bool} {s : Nat} {A A' : AV} (e : A = A') (h : AL P T0 N d ops Q l ((s, A') :: fr) M) : AL P T0 N d ops Q l ((s, A) :: fr) M := e ▸ h
theorem aw_re {c : Code} (s : Nat) {A A' : AV} (hs : fr.get s = some A) (e : A = A') (h : AW P T0 N c Q ((s, A') :: fr) M) : AW P T0 N c Q fr M :=
  aw_ent (ent_fr fun x B hx => by
    by_cases he : x = s
    · subst he; rw [get_cons_same] at hx; rw [hs, e]; exact hx
    · rw [get_cons_ne he] at hx; exact hx) h
end
end Go.Proofs.YtplabpjkkcillaaDoor
