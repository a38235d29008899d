/- The logic's further rules: a literal slice, to be appended to. No condition. -/
import Derived.Test.YtgfmjmfphmjdkaaGreatDoorQ3AQ
namespace Go.Proofs.YtgfmjmfphmjdkaaGreatDoor
set_option linter.unusedSimpArgs false
set_option linter.unusedVariables false
set_option linter.unusedSectionVars false
set_option maxHeartbeats 4000000
open Go Go.RowKit
set_option maxRecDepth 100000
section
variable {P : Program} {T0 : Gh} {N : Fz} {Q : Post} {fr : Fr} {M : List Own} {ops : Array Oper} {o : Oper} {rest : List Oper} {x0 : Nat}
theorem ao_build {α : Type} {T : Ty α} {t e : TypeId} {n : Nat} {parts : Array (Nat × Operand)} (l : List α) {d : α} {by' : Nat} {av : α → AV} (ho : o.op = .buildSlice t n parts) (hu : P.underlying t = some (.slice e)) (he : El P T e d by' av) (hl : l.length = n) (hn : n * T.k ≤ 1000000)
    (hp : ∃ res, PartsA T0 fr ((List.range n).map fun i => (i * T.k, T.k)) parts.toList (((List.range n).flatMap fun _ => T.enc d).map vA) res ∧ res = (l.flatMap T.enc).map vA) :
    AO P T0 ops o fr M (fun A M' => ∃ u, A = vA u ∧ M' = rowO T e u l :: M) (fun _ _ => False) := fun w0 G F a w next Qc hs hf hk _ => by
  obtain ⟨z, hi, hz⟩ := he.info
  obtain ⟨i, h1, h2⟩ := Option.map_eq_some_iff.1 hi
  simp only [Prod.mk.injEq] at h2
  obtain ⟨res, hparts, hres⟩ := hp
  have hzl : z.cells.size = T.k := by rw [← Array.length_toList, hz, T.len]
  have hzeros : ((Array.range (n * T.k)).map fun x => z.cells[x % z.cells.size]!) = ((List.range n).flatMap fun _ => T.enc d).toArray := by
    apply Array.ext'
    simp only [Array.toList_map, Array.toList_range]
    rw [hzl, ← hz]
    exact zeros_eq z.cells T.k hzl n
  obtain ⟨ds, e1, e2⟩ := fill_rep (o := o) (ops := ops) (G := G) (a := a) hs.tab (place := fun i => some (i * T.k, T.k)) (pl := (List.range n).map fun i => (i * T.k, T.k)) (fun i q h => by
    simp only [List.getElem?_map, Option.map_eq_some_iff] at h
    obtain ⟨j, hj, rfl⟩ := h
    obtain ⟨hlt, rfl⟩ := List.getElem?_eq_some_iff.1 hj
    simp) parts.toList _ res _ hparts (fun p hp' => by simp only [ho, Op.operands]; simp; exact ⟨p.1, by simpa using hp'⟩) hf (allRep_va G _)
  subst hres
  obtain rfl := allRep_eq e2
  have hrun : (execOp a.eval o).run P w = .ok (.value (.slice (some ⟨w.heap.size, 0, none⟩) n n)) (w.alloc (.cells (l.flatMap T.enc).toArray e)) := by
    have hmap : (parts.map fun (i, x) => (i, a.eval x)).toList = parts.toList.map fun (i, x) => (i, a.eval x) := by simp
    have hr := run_buildSlice (t := t) (n := n) (parts := parts.map fun (i, x) => (i, a.eval x)) (cells := (l.flatMap T.enc).toArray) hu (he.size w) (z := z) (by simp [zeroValue, typeInfo, h1, h2.1]) (by omega) (by rw [hzeros, hmap]; exact e1)
    simp only [execOp, ho]
    simp only [Sem.run_bind, hr, Result.andThen_ok, Sem.run_pure]
  unfold Oper.wp; rw [hrun]
  refine hk (vA _) _ G _ _ ⟨_, rfl, rfl⟩ (Gh.le.refl _) ?_ (Rep.va _ _)
  subst hl
  have hk1 : l.length ≤ l.length * T.k := Nat.le_mul_of_pos_right _ he.pos
  refine hs.grow_new (World.grownBy_alloc w _ none) ⟨flen T l, .inr ⟨w.heap.size, l.length, (l.flatMap T.enc).toArray, rfl, Nat.zero_le _, heap_alloc_new w _, Nat.le_refl _, by simp only [maxLen]; omega, by simpa using flen T l, by rw [← flen T l]; exact List.take_length⟩⟩ fun b hb => ?_
  have hb' : some w.heap.size = some b := hb
  obtain rfl := Option.some.inj hb'
  exact ⟨Nat.le_refl _, by simp⟩
end
section
variable {T0 : Gh} {N : Fz} {Q : Post} {fr : Fr} {M : List Own} {ops : Array Oper} {o : Oper} {rest : List Oper} {x0 : Nat}
theorem w_build {α : Type} {T : Ty α} {t e : TypeId} {n : Nat} {parts : Array (Nat × Operand)} (l : List α) {d : α} {by' : Nat} {av : α → AV} (h : ∀ u', u'.cells = #[u'] → u'.oneCell' = true → AL Tryz.prog T0 N false ops Q rest ((x0, vA u') :: fr) (rowO T e u' l :: M)) (ho : o.op = .buildSlice t n parts) (hg : o.guard = none) (hd : o.dst = some x0) (hN : Nat.blt x0 N.n = true) (hu : Tryz.prog.underlying t = some (.slice e)) (he : El Tryz.prog T e d by' av) (hl : l.length = n) (hn : n * T.k ≤ 1000000)
    (hp : ∃ res, PartsA T0 fr ((List.range n).map fun i => (i * T.k, T.k)) parts.toList (((List.range n).flatMap fun _ => T.enc d).map vA) res ∧ res = (l.flatMap T.enc).map vA) : AL Tryz.prog T0 N false ops Q (o :: rest) fr M := by
  refine al_es hg (ao_build l ho hu he hl hn hp) hd hN (fun _ _ h => h.elim) ?_
  rintro _ _ ⟨u', rfl, rfl⟩
  exact al_rowc (List.Mem.head _) fun a b => h u' a b
end
end Go.Proofs.YtgfmjmfphmjdkaaGreatDoor
