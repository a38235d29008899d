/- The logic's further rules: copying, cuts of rows that are owned, results that lie in variables, freezing inside variables, min. No condition. -/
import Derived.Test.YtplabpjkkcillaaDoorAK
import Derived.Laws.CopyRow
import Derived.Lib.MinMax
namespace Go.Proofs.YtplabpjkkcillaaDoor
set_option linter.unusedSimpArgs false
set_option linter.unusedVariables false
set_option linter.unusedSectionVars false
set_option maxHeartbeats 4000000
open Go Go.RowKit

section
variable {P : Program} {T0 : Gh} {N : Fz} {Q : Post} {fr : Fr} {M : List Own} {ops : Array Oper} {o : Oper}

/-! ### what is owned is a slice -/
theorem row_one {α : Type} {T : Ty α} {e : TypeId} {u : Value} {l : List α} {G : Gh} {w : World} (h : (rowO T e u l).holds G w) : u.cells = #[u] ∧ u.oneCell' = true := by
  rcases row_form h with ⟨rfl, _⟩ | ⟨g, cap, rfl, _⟩ <;> exact ⟨rfl, rfl⟩
theorem ay_rowc {α : Type} {T : Ty α} {e : TypeId} {u : Value} {l : List α} {A : AV} (i : Nat) (hM : M[i]? = some (rowO T e u l)) (h : u.cells = #[u] → AY P T0 ops o fr M A) : AY P T0 ops o fr M A := fun w0 G F a w next Qc hs hf hk hp =>
  h (row_one (hs.own _ (List.mem_of_getElem? (setAppend (F := F) (m' := rowO T e u l) hM).1))).1 w0 G F a w next Qc hs hf hk hp
theorem ao_rowc {α : Type} {T : Ty α} {e : TypeId} {u : Value} {l : List α} {K : AV → List Own → Prop} {KP : List PanicEntry → List Own → Prop} (i : Nat) (hM : M[i]? = some (rowO T e u l)) (h : u.cells = #[u] → u.oneCell' = true → AO P T0 ops o fr M K KP) : AO P T0 ops o fr M K KP := fun w0 G F a w next Qc hs hf hk hp =>
  let h1 := row_one (hs.own _ (List.mem_of_getElem? (setAppend (F := F) (m' := rowO T e u l) hM).1))
  h h1.1 h1.2 w0 G F a w next Qc hs hf hk hp
/-- one of what is owned is told first -/
theorem ent_front {m : Own} (i : Nat) (h : M[i]? = some m) : Ent T0 fr M fr (m :: M.eraseIdx i) := fun _ G F _ _ s r => by
  refine ⟨G, Gh.le.refl _, s.perm (List.Perm.append_right F ?_), r⟩
  have hlt := (List.getElem?_eq_some_iff.1 h).1
  have hget : M[i] = m := (List.getElem?_eq_some_iff.1 h).2
  have hsplit : M = M.take i ++ m :: M.drop (i + 1) := by rw [← hget]; simp
  rw [List.eraseIdx_eq_take_drop_succ]
  exact (List.perm_middle.symm).trans (List.Perm.of_eq hsplit.symm)
theorem al_front {l : List Oper} {m : Own} (i : Nat) (h : M[i]? = some m) (k : AL P T0 N false ops Q l fr (m :: M.eraseIdx i)) : AL P T0 N false ops Q l fr M := al_ent (ent_front i h) k
theorem aw_front {c : Code} {m : Own} (i : Nat) (h : M[i]? = some m) (k : AW P T0 N c Q fr (m :: M.eraseIdx i)) : AW P T0 N c Q fr M := aw_ent (ent_front i h) k

/-! ### cuts of what is owned -/
/-- a slice of n things of an owned row, from its place off on -/
def rsA (k : Nat) (u : Value) (off n : Nat) : AV := fun _ v => ∃ g m cap c', u = .slice (some ⟨g, 0, none⟩) m cap ∧ v = .slice (some ⟨g, off * k, none⟩) n c'
theorem Rep.rs {k off n : Nat} {u v : Value} {G : Gh} (h : Rep G (rsA k u off n) v) : ∃ g m cap c', u = .slice (some ⟨g, 0, none⟩) m cap ∧ v = .slice (some ⟨g, off * k, none⟩) n c' := let ⟨_, _, r⟩ := h; r
theorem ay_slice_row {α : Type} {T : Ty α} {t e : TypeId} {x y z : Operand} {l : List α} {d : α} {by' a b : Nat} {k k' : IntKind} {av : α → AV} {u : Value} (i : Nat) (ho : o.op = .slice t x (some y) (some z) none) (hu : P.underlying t = some (.slice e)) (he : El P T e d by' av) (hx : Opd T0 fr x (vA u)) (hM : M[i]? = some (rowO T e u l)) (hy : OpdN T0 fr y k a) (hz : OpdN T0 fr z k' b) (h1 : a < b) (h2 : b ≤ l.length) :
    AY P T0 ops o fr M (rsA T.k u a (b - a)) := ay_of fun w0 G F ac w hs hf => by
  have e1 := (hx.use (o := o) (ops := ops) (by simp [ho, Op.operands]) hs.tab hf).eq
  have e2 := ((show Opd T0 fr y (vA (.int k (a : Int))) from hy).use (o := o) (ops := ops) (by simp [ho, Op.operands]) hs.tab hf).eq
  have e3 := ((show Opd T0 fr z (vA (.int k' (b : Int))) from hz).use (o := o) (ops := ops) (by simp [ho, Op.operands]) hs.tab hf).eq
  have hrow := hs.own _ (List.mem_of_getElem? (setAppend (F := F) (m' := rowO T e u l) hM).1)
  rcases row_form hrow with ⟨rfl, rfl⟩ | ⟨g, cap, rfl, h4, h5⟩
  · simp at h2; omega
  · have hb := run_sliceBounds (P := P) (isS := true) (cap := cap) (len := l.length) (w := w) (lo := a) (hi := b) (vlo := some (.int k (a : Int))) (vhi := some (.int k' (b : Int))) (Nat.le_of_lt h1) (by omega) (.inr ⟨k, rfl⟩) (.inr ⟨k', rfl⟩)
    have hne : ¬ cap = a := by omega
    refine ⟨.slice (some ⟨g, a * T.k, none⟩) (b - a) (cap - a), ?_, .of ⟨g, _, cap, cap - a, rfl, rfl⟩⟩
    simp only [execOp, ho, e1, Option.map_some, e2, e3]
    simp [run_sliceAt_slice _ _ _ _ _ _ (elem_of hu), Instr.slice, run_underlying hu, hb, he.size, hne, Addr.add_lit]
theorem ay_index_sub {α : Type} {T : Ty α} {t e : TypeId} {x y : Operand} {d : α} {by' off n m : Nat} {k : IntKind} {av : α → AV} {u : Value} (ho : o.op = .indexAddr t x y) (hu : P.underlying t = some (.slice e)) (he : El P T e d by' av) (hx : Opd T0 fr x (rsA T.k u off n)) (hy : OpdN T0 fr y k m) (hm : m < n) :
    AY P T0 ops o fr M (rpA u ((off + m) * T.k)) := ay_of fun w0 G F a w hs hf => by
  obtain ⟨g, N', cap, c', h1, h2⟩ := (hx.use (o := o) (ops := ops) (by simp [ho, Op.operands]) hs.tab hf).rs
  have h4 := ((show Opd T0 fr y (vA (.int k (m : Int))) from hy).use (o := o) (ops := ops) (by simp [ho, Op.operands]) hs.tab hf).eq
  refine ⟨.pointer (some ⟨g, (off + m) * T.k, none⟩), ?_, .of ⟨g, N', cap, h1, rfl⟩⟩
  simp only [execOp, ho, h2, h4]
  simp [Instr.indexAt, asIntOf, run_underlying hu, he.size, hm, Addr.add_lit, Nat.add_mul]
theorem ik_sub {α : Type} {T : Ty α} {t e : TypeId} {d : α} {by' off n m : Nat} {av : α → AV} {u : Value} (hu : P.underlying t = some (.slice e)) (he : El P T e d by' av) (hm : m < n) : IxK P T0 M t (rsA T.k u off n) m (rpA u ((off + m) * T.k)) := fun _ _ _ _ _ _ ho hx hy => ay_index_sub ho hu he hx hy hm
theorem nk_sub {t e : TypeId} {k off n : Nat} {u : Value} (hu : P.underlying t = some (.slice e)) : LnK P T0 M t (rsA k u off n) (I n) := fun fr ops o x ts ho ht hx => ay_of fun w0 G F a w hs hf => by
  obtain ⟨g, N', cap, c', h1, h2⟩ := (hx.use (o := o) (ops := ops) (by simp [ho, Op.operands, Call.operands]) hs.tab hf).rs
  exact ⟨_, by simp [execOp, ho, resolve, invoke, builtin, Builtin.len_, ht, h2, run_underlying hu, goInt], Rep.va _ _⟩

/-! ### copying -/
/-- c, laid over l from the place off on -/
def ovr {α : Type} (l : List α) (off : Nat) (c : List α) : List α := l.take off ++ c ++ l.drop (off + c.length)
theorem ovr_len {α : Type} {l : List α} {off : Nat} {c : List α} (h : off + c.length ≤ l.length) : (ovr l off c).length = l.length := by
  simp only [ovr, List.length_append, List.length_take, List.length_drop]; omega
theorem run_copy {α : Type} {T : Ty α} {t e ty : TypeId} {d : α} {by' : Nat} {av : α → AV} {w : World} {cur : Array Value} {et : TypeId} {g p n c' : Nat} {a : Option Addr} {sn sc : Nat} {m : List α} (hu : P.underlying t = some (.slice e)) (he : El P T e d by' av) (hg : w.heap[g]? = some (.cells cur et (0, 0)))
    (hsn : sn = m.length) (hsrc : m ≠ [] → ∃ b off, a = some ⟨b, off, none⟩ ∧ ∀ j v, (m.flatMap T.enc)[j]? = some v → w.cell? ⟨b, off + j, none⟩ = some v) (hfit : p + (m.take n).length * T.k ≤ cur.size) :
    (Builtin.copy_ #[t, t] ty #[.slice (some ⟨g, p, none⟩) n c', .slice a sn sc]).run P w = .ok (goInt (m.take n).length) (w.setRow g (cur.toList.take p ++ (m.take n).flatMap T.enc ++ cur.toList.drop (p + (m.take n).length * T.k)).toArray) := by
  subst hsn
  have hmin : Nat.min m.length n = (m.take n).length := by rw [List.length_take]; exact Nat.min_comm _ _
  have hst := run_storeCells_at P g p et ((m.take n).flatMap T.enc) 0 cur w hg (by rw [flen]; simpa using hfit) (fun v hv => by obtain ⟨x, _, hx⟩ := List.mem_flatMap.1 hv; exact he.one x v hx)
  rw [flen] at hst
  simp only [Nat.add_zero] at hst
  have hcells : (Builtin.firstCells T.k (m.take n).length (.slice a m.length sc)).run P w = .ok ((m.take n).flatMap T.enc).toArray w := by
    by_cases hm : m = []
    · subst hm
      cases a with
      | none => simp [Builtin.firstCells]
      | some a => simp [Builtin.firstCells, loadCells, loadCellsFrom]
    · obtain ⟨b, off, rfl, hc⟩ := hsrc hm
      have hl := run_loadCells_list (P := P) (w := w) ⟨b, off, none⟩ ((m.take n).flatMap T.enc) (fun j v hv => by
        rw [Addr.add_lit]
        refine hc j v ?_
        rw [flatMap_take, List.getElem?_take] at hv
        split at hv
        · exact hv
        · cases hv)
      rw [flen] at hl
      simpa [Builtin.firstCells] using hl
  generalize m.take n = c at *
  simp only [Builtin.copy_]
  simp [run_underlying hu, Builtin.lenOf, he.size, hmin]
  rw [hcells]
  simp [hst]
/-- a copy into a part of an owned row -/
theorem ao_copy {α : Type} {T : Ty α} {t e : TypeId} {x y : Operand} {l m : List α} {d : α} {by' off n : Nat} {av : α → AV} {u : Value} {A : AV} (i : Nat) (ho : o.op = .call { callee := .builtin .copy, args := #[x, y], argTypes := #[t, t] }) (hu : P.underlying t = some (.slice e)) (he : El P T e d by' av) (hx : Opd T0 fr x A) (hM : M[i]? = some (rowO T e u l)) (hA : (A = vA u ∧ off = 0 ∧ n = l.length) ∨ A = rsA T.k u off n) (hn : off + n ≤ l.length)
    (hy : Opd T0 fr y (slA T m)) : AO P T0 ops o fr M (fun A M' => A = I (m.take n).length ∧ M' = M.set i (rowO T e u (ovr l off (m.take n)))) (fun _ _ => False) := fun w0 G F a w next Qc hs hf hk _ => by
  obtain ⟨ad, sn, sc, e1, e2, _, _, _, e6⟩ := (hy.use (o := o) (ops := ops) (by simp [ho, Op.operands, Call.operands]) hs.tab hf).sl
  have hxr := hx.use (o := o) (ops := ops) (by simp [ho, Op.operands, Call.operands]) hs.tab hf
  obtain ⟨hM1, hM2⟩ := setAppend (F := F) (m' := rowO T e u (ovr l off (m.take n))) hM
  have hrow := hs.own _ (List.mem_of_getElem? hM1)
  have hclen : (m.take n).length ≤ n := by rw [List.length_take]; omega
  have hrun0 : ∀ v w', (Builtin.copy_ #[t, t] o.type #[a.eval x, a.eval y]).run P w = .ok v w' → (execOp a.eval o).run P w = .ok (.value v) w' := fun v w' h => by
    simp only [execOp, ho, resolve]
    simp [invoke, builtin, h]
  rcases hrow.2 with ⟨h', h0⟩ | ⟨g, cap, cur, h', _, hg, hnc, hcm, hcs, htake⟩
  · have hl0 : l = [] := List.eq_nil_of_length_eq_zero h0
    rcases hA with ⟨rfl, rfl, rfl⟩ | rfl
    · have hxe := hxr.eq
      subst hl0
      have hr : (Builtin.copy_ #[t, t] o.type #[a.eval x, a.eval y]).run P w = .ok (goInt 0) w := by
        rw [hxe, e1, h']
        cases ad with
        | none => simp [Builtin.copy_, run_underlying hu, Builtin.lenOf, Builtin.firstCells, he.size]
        | some ad => simp [Builtin.copy_, run_underlying hu, Builtin.lenOf, Builtin.firstCells, he.size, loadCells, loadCellsFrom]
      have hrun := hrun0 _ _ hr
      unfold Oper.wp; rw [hrun]
      refine hk (I 0) (M.set i (rowO T e u (ovr [] 0 (m.take 0)))) G _ w ⟨by simp, by simp⟩ (Gh.le.refl _) ?_ (Rep.va _ _)
      have : M.set i (rowO T e u (ovr [] 0 (m.take 0))) = M := by
        have ho2 : ovr ([] : List α) 0 (m.take 0) = [] := by simp [ovr]
        rw [ho2]
        refine List.ext_getElem? fun j => ?_
        rw [List.getElem?_set]
        split
        · rename_i hij; subst hij
          split
          · exact hM.symm
          · rename_i hnl; exact absurd (List.getElem?_eq_some_iff.1 hM).1 hnl
        · rfl
      rw [this]; exact hs
    · obtain ⟨g, N', cap, c', h1, _⟩ := hxr.rs
      rw [h'] at h1; cases h1
  have hx2 : ∃ c', a.eval x = .slice (some ⟨g, off * T.k, none⟩) n c' := by
    rcases hA with ⟨rfl, rfl, rfl⟩ | rfl
    · exact ⟨cap, by rw [hxr.eq, h', Nat.zero_mul]⟩
    · obtain ⟨g', N', cap', c', h1, h2⟩ := hxr.rs
      rw [h'] at h1
      simp only [Value.slice.injEq, Option.some.injEq, Addr.mk.injEq, and_true] at h1
      obtain ⟨rfl, _⟩ := h1
      exact ⟨c', h2⟩
  obtain ⟨c', hx2⟩ := hx2
  have hfit1 : off + (m.take n).length ≤ l.length := by omega
  have hb1 : (off + (m.take n).length) * T.k ≤ l.length * T.k := Nat.mul_le_mul_right _ hfit1
  have hcap : l.length * T.k ≤ cur.size := by rw [hcs]; exact Nat.mul_le_mul_right _ hnc
  have hr := run_copy (P := P) (T := T) (t := t) (ty := o.type) (w := w) (cur := cur) (p := off * T.k) (n := n) (c' := c') (a := ad) (sn := sn) (sc := sc) (m := m) hu he hg e2 (fun hm => let ⟨b, of, f1, f2⟩ := e6 hm; ⟨b, of, f1, fun j v hv => hs.imm _ _ _ (f2 j v hv)⟩) (by rw [Nat.add_mul] at hb1; omega)
  rw [← hx2, ← e1] at hr
  have hrun := hrun0 _ _ hr
  unfold Oper.wp; rw [hrun]
  generalize m.take n = c at *
  refine hk (I (c).length) (M.set i (rowO T e u (ovr l off (c)))) G _ _ ⟨rfl, rfl⟩ (Gh.le.refl _) ?_ (Rep.va _ _)
  rw [← hM2]
  refine hs.grown hM1 ⟨rfl, rfl, rfl, by simp, fun k _ hk => setRow_other w g k _ (fun e => hk (by rw [h']; simp [rowO, Value.ownBlock, e]))⟩ ?_ (fun b hb => ?_)
  · have hlen := ovr_len (c := c) hfit1
    have hE : ((c).flatMap T.enc).length = (c).length * T.k := flen T _
    have hsz : (cur.toList.take (off * T.k) ++ (c).flatMap T.enc ++ cur.toList.drop (off * T.k + (c).length * T.k)).length = cur.size := by
      rw [Nat.add_mul] at hb1
      simp only [List.length_append, List.length_take, List.length_drop, hE, Array.length_toList]; omega
    refine ⟨by rw [flen], .inr ⟨g, cap, _, by rw [hlen]; exact h', Nat.zero_le _, setRow_heap w g cur _ e _ hg, by rw [hlen]; exact hnc, hcm, ?_, ?_⟩⟩
    · rw [← hcs]; simpa using hsz
    · rw [hlen]
      have h1 : (ovr l off (c)).flatMap T.enc = (l.flatMap T.enc).take (off * T.k) ++ (c).flatMap T.enc ++ (l.flatMap T.enc).drop (off * T.k + (c).length * T.k) := by
        rw [ovr, List.flatMap_append, List.flatMap_append, flatMap_take, flatMap_drop, Nat.add_mul]
      rw [h1, ← htake]
      rw [Nat.add_mul] at hb1
      exact take_seg cur.toList _ (off * T.k) _ (l.length * T.k) hE (by omega) (by simpa using hcap)
  · refine ⟨.inl hb, ?_⟩
    have hb' : u.ownBlock = some b := hb
    rw [h'] at hb'
    obtain rfl := Option.some.inj (show some g = some b from hb')
    simpa using (Array.getElem?_eq_some_iff.1 hg).1
theorem ao_copy_row {α : Type} {T : Ty α} {t e : TypeId} {x y : Operand} {l m : List α} {d : α} {by' : Nat} {av : α → AV} {u : Value} (i : Nat) (ho : o.op = .call { callee := .builtin .copy, args := #[x, y], argTypes := #[t, t] }) (hu : P.underlying t = some (.slice e)) (he : El P T e d by' av) (hx : Opd T0 fr x (vA u)) (hM : M[i]? = some (rowO T e u l))
    (hy : Opd T0 fr y (slA T m)) : AO P T0 ops o fr M (fun A M' => A = I (m.take l.length).length ∧ M' = M.set i (rowO T e u (ovr l 0 (m.take l.length)))) (fun _ _ => False) := ao_copy i ho hu he hx hM (.inl ⟨rfl, rfl, rfl⟩) (by omega) hy
theorem ao_copy_sub {α : Type} {T : Ty α} {t e : TypeId} {x y : Operand} {l m : List α} {d : α} {by' off n : Nat} {av : α → AV} {u : Value} (i : Nat) (ho : o.op = .call { callee := .builtin .copy, args := #[x, y], argTypes := #[t, t] }) (hu : P.underlying t = some (.slice e)) (he : El P T e d by' av) (hx : Opd T0 fr x (rsA T.k u off n)) (hM : M[i]? = some (rowO T e u l)) (hn : off + n ≤ l.length)
    (hy : Opd T0 fr y (slA T m)) : AO P T0 ops o fr M (fun A M' => A = I (m.take n).length ∧ M' = M.set i (rowO T e u (ovr l off (m.take n)))) (fun _ _ => False) := ao_copy i ho hu he hx hM (.inr rfl) hn hy

/-! ### min -/
theorem kn_min {ts : Array TypeId} {x y : Operand} {k : IntKind} {a b : Nat} (ho : o.op = .call { callee := .builtin .min, args := #[x, y], argTypes := ts }) (hx : OpdN T0 fr x k a) (hy : OpdN T0 fr y k b) : AY P T0 ops o fr M (vA (.int k ((min a b : Nat) : Int))) := ay_of fun w0 G F ac w hs hf => by
  have e1 := ((show Opd T0 fr x (vA (.int k (a : Int))) from hx).use (o := o) (ops := ops) (by simp [ho, Op.operands, Call.operands]) hs.tab hf).eq
  have e2 := ((show Opd T0 fr y (vA (.int k (b : Int))) from hy).use (o := o) (ops := ops) (by simp [ho, Op.operands, Call.operands]) hs.tab hf).eq
  have hm : min (a : Int) (b : Int) = ((min a b : Nat) : Int) := by omega
  refine ⟨.int k ((min a b : Nat) : Int), ?_, Rep.va _ _⟩
  simp only [execOp, ho, resolve]
  simp [invoke, builtin, e1, e2, Go.Lib.run_min_ints, hm]

/-! ### what is handed back lies in a variable -/
theorem run_loadVarn {t e : TypeId} {b : Nat} {cells : List AV} {G : Gh} {w : World} (ha : ∀ w, (isAgg t).run P w = .ok true w) (hz : ∀ w, (sizeOf t).run P w = .ok cells.length w) (h : (varO b e cells).holds G w) : ∃ u, (loadVar t ⟨b, 0, none⟩).run P w = .ok u w ∧ Rep G (aggA cells) u := by
  obtain ⟨cs, h3, h4⟩ := var_cells h
  have hl := run_loadCells_list (P := P) (w := w) ⟨b, 0, none⟩ cs (fun j v hv => by
    rw [Addr.add_lit, cell_of_row _ _ _ _ _ _ h3]; simpa using hv)
  rw [h4.len] at hl
  refine ⟨.agg cs.toArray, ?_, .of ⟨_, rfl, h4⟩⟩
  simp only [loadVar]
  simp [ha, hz, hl]
theorem resC1 {fn : Func} {s t e : Nat} {b : Nat} {cells : List AV} (i : Nat) (h : fn.results = #[.cell s t]) (hs : fr.get s = some (vA (.pointer (some ⟨b, 0, none⟩)))) (hM : M[i]? = some (varO b e cells)) (ha : ∀ w, (isAgg t).run P w = .ok true w) (hz : ∀ w, (sizeOf t).run P w = .ok cells.length w) : ResA P T0 fn fr M (aggA cells) := fun w0 G F tmps w st hr => by
  obtain ⟨u, h1, h2⟩ := run_loadVarn ha hz (st.own _ (List.mem_of_getElem? (setAppend (F := F) (m' := varO b e cells) hM).1))
  have h3 : tmps.getD s undef = .pointer (some ⟨b, 0, none⟩) := (slot_get hr hs).eq
  refine ⟨u, ?_, h2⟩
  have h5 : tmps[s]?.getD undef = .pointer (some ⟨b, 0, none⟩) := by simpa using h3
  simp only [results, h]
  simp [h5, asAddr, h1]
theorem resC2 {fn : Func} {s t s' e : Nat} {b : Nat} {cells : List AV} {A : AV} (i : Nat) (h : fn.results = #[.cell s t, .tmp s']) (hs : fr.get s = some (vA (.pointer (some ⟨b, 0, none⟩)))) (hs' : fr.get s' = some A) (hM : M[i]? = some (varO b e cells)) (ha : ∀ w, (isAgg t).run P w = .ok true w) (hz : ∀ w, (sizeOf t).run P w = .ok cells.length w) : ResA P T0 fn fr M (tupA [aggA cells, A]) := fun w0 G F tmps w st hr => by
  obtain ⟨u, h1, h2⟩ := run_loadVarn ha hz (st.own _ (List.mem_of_getElem? (setAppend (F := F) (m' := varO b e cells) hM).1))
  have h3 : tmps.getD s undef = .pointer (some ⟨b, 0, none⟩) := (slot_get hr hs).eq
  have h4 := slot_get hr hs'
  refine ⟨.tuple #[u, tmps.getD s' undef], ?_, .of ⟨[_, _], rfl, h2, h4, trivial⟩⟩
  have h5 : tmps[s]?.getD undef = .pointer (some ⟨b, 0, none⟩) := by simpa using h3
  simp only [results, h]
  simp [h5, asAddr, h1]

/-! ### freezing, inside variables too -/
def FzO {α : Type} (u : Value) (T : Ty α) (l : List α) (m m' : Own) : Prop := m = m' ∨ ∃ b e cells cells', m = varO b e cells ∧ m' = varO b e cells' ∧ FzL u T l cells cells'
theorem fzo_keep {α : Type} {u : Value} {T : Ty α} {l : List α} {m : Own} : FzO u T l m m := .inl rfl
theorem fzo_var {α : Type} {u : Value} {T : Ty α} {l : List α} {b : Nat} {e : TypeId} {cells cells' : List AV} (h : FzL u T l cells cells') : FzO u T l (varO b e cells) (varO b e cells') := .inr ⟨b, e, cells, cells', rfl, rfl, h⟩
def FzM {α : Type} (u : Value) (T : Ty α) (l : List α) : List Own → List Own → Prop
  | [], [] => True
  | m :: r, m' :: r' => FzO u T l m m' ∧ FzM u T l r r'
  | _, _ => False
theorem fzm_nil {α : Type} {u : Value} {T : Ty α} {l : List α} : FzM u T l [] [] := trivial
theorem fzm_cons {α : Type} {u : Value} {T : Ty α} {l : List α} {m m' : Own} {r r' : List Own} (h : FzO u T l m m') (k : FzM u T l r r') : FzM u T l (m :: r) (m' :: r') := ⟨h, k⟩
theorem FzO.foot {α : Type} {u : Value} {T : Ty α} {l : List α} {m m' : Own} (h : FzO u T l m m') : m'.foot = m.foot := by
  rcases h with rfl | ⟨b, e, c, c', rfl, rfl, _⟩ <;> rfl
theorem FzO.holds {α : Type} {u : Value} {T : Ty α} {l : List α} {m m' : Own} {G : Gh} {w : World} (hu : Rep G (slA T l) u) (h : FzO u T l m m') (k : m.holds G w) : m'.holds G w := by
  rcases h with rfl | ⟨b, e, c, c', rfl, rfl, h⟩
  · exact k
  · obtain ⟨cs, h1, h2⟩ := k; exact ⟨cs, h1, FzL.rep (Gh.le.refl _) hu h h2⟩
theorem FzM.foots {α : Type} {u : Value} {T : Ty α} {l : List α} : ∀ {r r' : List Own}, FzM u T l r r' → r'.filterMap Own.foot = r.filterMap Own.foot
  | [], [], _ => rfl
  | _ :: _, _ :: _, h => by rw [List.filterMap_cons, List.filterMap_cons, h.1.foot, FzM.foots h.2]
  | [], _ :: _, h => h.elim
  | _ :: _, [], h => h.elim
theorem FzM.mem {α : Type} {u : Value} {T : Ty α} {l : List α} : ∀ {r r' : List Own}, FzM u T l r r' → ∀ m' ∈ r', ∃ m ∈ r, FzO u T l m m'
  | [], [], _, m', h => by simp at h
  | m :: r, x :: r', h, m', hm => by
    rcases List.mem_cons.1 hm with rfl | hm
    · exact ⟨m, by simp, h.1⟩
    · obtain ⟨y, h1, h2⟩ := FzM.mem h.2 m' hm
      exact ⟨y, by simp [h1], h2⟩
  | [], _ :: _, h, _, _ => h.elim
  | _ :: _, [], h, _, _ => h.elim
theorem fzm_app {α : Type} {u : Value} {T : Ty α} {l : List α} : ∀ {r r' : List Own} (F : List Own), FzM u T l r r' → FzM u T l (r ++ F) (r' ++ F)
  | [], [], F, _ => by
    induction F with
    | nil => trivial
    | cons m F ih => exact ⟨.inl rfl, ih⟩
  | _ :: _, _ :: _, F, h => ⟨h.1, fzm_app F h.2⟩
  | [], _ :: _, _, h => h.elim
  | _ :: _, [], _, h => h.elim
theorem St.fz {α : Type} {u : Value} {T : Ty α} {l : List α} {G : Gh} {w0 w : World} {M M' : List Own} (h : St T0 w0 G M w) (hu : Rep G (slA T l) u) (k : FzM u T l M M') : St T0 w0 G M' w :=
  ⟨h.below, h.tab, h.imm, fun m hm => by obtain ⟨x, h1, h2⟩ := k.mem m hm; exact h2.holds hu (h.own x h1), fun m hm b hb => by obtain ⟨x, h1, h2⟩ := k.mem m hm; exact h.foot x h1 b (h2.foot ▸ hb), by rw [k.foots]; exact h.sep⟩
theorem ent_freezeM {α : Type} {T : Ty α} {e : TypeId} {u : Value} {l : List α} {fr' : Fr} {M' : List Own} (i : Nat) (hM : M[i]? = some (rowO T e u l)) (hz : FzFr u T l fr fr') (hm : FzM u T l (M.eraseIdx i) M') : Ent T0 fr M fr' M' := fun w0 G F t w st r => by
  have hlt : i < M.length := (List.getElem?_eq_some_iff.1 hM).1
  obtain ⟨G', h1, h2, h3⟩ := st.freeze (setAppend (F := F) (m' := rowO T e u l) hM).1
  rw [eraseAppend hlt] at h2
  refine ⟨G', h1, h2.fz h3 (fzm_app F hm), fun x B _ e => ?_⟩
  obtain ⟨A, k1, k2⟩ := hz.get x B e
  obtain ⟨v, k3, k4⟩ := r x A trivial k1
  exact ⟨v, k3, k2 G G' v h1 h3 k4⟩
theorem aw_freezeM {α : Type} {T : Ty α} {e : TypeId} {u : Value} {l : List α} {c : Code} {fr' : Fr} {M' : List Own} (i : Nat) (hM : M[i]? = some (rowO T e u l)) (hz : FzFr u T l fr fr') (hm : FzM u T l (M.eraseIdx i) M') (h : AW P T0 N c Q fr' M') : AW P T0 N c Q fr M := aw_ent (ent_freezeM i hM hz hm) h
theorem al_freezeM {α : Type} {T : Ty α} {e : TypeId} {u : Value} {l : List α} {ol : List Oper} {fr' : Fr} {M' : List Own} (i : Nat) (hM : M[i]? = some (rowO T e u l)) (hz : FzFr u T l fr fr') (hm : FzM u T l (M.eraseIdx i) M') (h : AL P T0 N false ops Q ol fr' M') : AL P T0 N false ops Q ol fr M := al_ent (ent_freezeM i hM hz hm) h
end
end Go.Proofs.YtplabpjkkcillaaDoor
