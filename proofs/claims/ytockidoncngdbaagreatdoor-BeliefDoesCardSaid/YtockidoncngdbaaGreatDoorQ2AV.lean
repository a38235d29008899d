/- The logic's further rules: clear of a part of an owned row. No condition. -/
import Derived.Test.YtockidoncngdbaaGreatDoorQ2AQ
namespace Go.Proofs.YtockidoncngdbaaGreatDoor
set_option linter.unusedSimpArgs false
set_option linter.unusedVariables false
set_option linter.unusedSectionVars false
set_option maxHeartbeats 4000000
open Go Go.RowKit
set_option maxRecDepth 100000
section
variable {P : Program} {T0 : Gh} {N : Fz} {Q : Post} {fr : Fr} {M : List Own} {ops : Array Oper} {o : Oper} {rest : List Oper} {x0 : Nat}
theorem ao_clear {α : Type} {T : Ty α} {t e : TypeId} {x : Operand} {l : List α} {d : α} {by' off n : Nat} {av : α → AV} {u : Value} (i : Nat) (ho : o.op = .call { callee := .builtin .clear, args := #[x], argTypes := #[t] }) (hu : P.underlying t = some (.slice e)) (he : El P T e d by' av) (hx : Opd T0 fr x (rsA T.k u off n)) (hM : M[i]? = some (rowO T e u l)) (hn0 : 0 < n) (hn : off + n ≤ l.length) :
    AO P T0 ops o fr M (fun _ M' => M' = M.set i (rowO T e u (ovr l off (List.replicate n d)))) (fun _ _ => False) := fun w0 G F a w next Qc hs hf hk _ => by
  have hxr := hx.use (o := o) (ops := ops) (by simp [ho, Op.operands, Call.operands]) hs.tab hf
  obtain ⟨hM1, hM2⟩ := setAppend (F := F) (m' := rowO T e u (ovr l off (List.replicate n d))) hM
  have hrow := hs.own _ (List.mem_of_getElem? hM1)
  obtain ⟨g', N', cap', c', h1, h2⟩ := hxr.rs
  rcases hrow.2 with ⟨h0', h0⟩ | ⟨g, cap, cur, h', _, hg, hnc, hcm, hcs, htake⟩
  · rw [h1] at h0'; cases h0'
  rw [h'] at h1
  simp only [Value.slice.injEq, Option.some.injEq, Addr.mk.injEq, and_true] at h1
  obtain ⟨rfl, _⟩ := h1
  obtain ⟨z, hi, hz⟩ := he.info
  obtain ⟨i', hi1, hi2⟩ := Option.map_eq_some_iff.1 hi
  simp only [Prod.mk.injEq] at hi2
  have hzv : ∀ w, (zeroValue e).run P w = .ok z w := fun w => by simp [zeroValue, typeInfo, hi1, hi2.1]
  have hcells : (Builtin.zeroCells z.cells n).toList = (List.replicate n d).flatMap T.enc := by
    have hzk : z.cells.size = T.k := by rw [← Array.length_toList, hz, T.len]
    unfold Builtin.zeroCells
    simp only [Array.toList_map, Array.toList_range]
    rw [hzk, zeros_eq z.cells T.k hzk n, hz]
    exact flatMap_range_rep T d n
  obtain ⟨c, hc⟩ : ∃ c, c = List.replicate n d := ⟨_, rfl⟩
  have hcl : c.length = n := by rw [hc]; simp
  rw [← hc] at hcells hM2 hk
  have hfit1 : off + c.length ≤ l.length := by omega
  have hb1 : (off + c.length) * T.k ≤ l.length * T.k := Nat.mul_le_mul_right _ hfit1
  have hcap : l.length * T.k ≤ cur.size := by rw [hcs]; exact Nat.mul_le_mul_right _ hnc
  have hst := run_storeCells_at P g (off * T.k) e (c.flatMap T.enc) 0 cur w hg (by rw [flen]; rw [Nat.add_mul] at hb1; omega) (fun v hv => by obtain ⟨x, _, hx⟩ := List.mem_flatMap.1 hv; exact he.one x v hx)
  rw [flen] at hst
  simp only [Nat.add_zero] at hst
  have hr : (Builtin.clear_ #[t] o.type #[a.eval x]).run P w = .ok (.tuple #[]) (w.setRow g (cur.toList.take (off * T.k) ++ c.flatMap T.enc ++ cur.toList.drop (off * T.k + c.length * T.k)).toArray) := by
    rw [h2]
    obtain ⟨m, rfl⟩ : ∃ m, n = m + 1 := ⟨n - 1, by omega⟩
    simp [Builtin.clear_, run_underlying hu, hzv, hcells, hst]
  have hrun : (execOp a.eval o).run P w = .ok (.value (.tuple #[])) (w.setRow g (cur.toList.take (off * T.k) ++ c.flatMap T.enc ++ cur.toList.drop (off * T.k + c.length * T.k)).toArray) := by
    simp only [execOp, ho, resolve]
    simp [invoke, builtin, hr]
  unfold Oper.wp; rw [hrun]
  refine hk (vA (.tuple #[])) (M.set i (rowO T e u (ovr l off c))) G _ _ rfl (Gh.le.refl _) ?_ (Rep.va _ _)
  rw [← hM2]
  refine hs.grown hM1 ⟨rfl, rfl, rfl, by simp, fun k _ hk => setRow_other w g k _ (fun e => hk (by rw [h']; simp [rowO, Value.ownBlock, e]))⟩ ?_ (fun b hb => ?_)
  · have hlen := ovr_len (c := c) hfit1
    have hE : ((c).flatMap T.enc).length = (c).length * T.k := flen T _
    have hsz : (cur.toList.take (off * T.k) ++ (c).flatMap T.enc ++ cur.toList.drop (off * T.k + (c).length * T.k)).length = cur.size := by
      rw [Nat.add_mul] at hb1
      simp only [List.length_append, List.length_take, List.length_drop, hE, Array.length_toList]; omega
    refine ⟨by rw [flen], .inr ⟨g, cap, _, by rw [hlen]; exact h', Nat.zero_le _, setRow_heap w g cur _ e _ hg, by rw [hlen]; exact hnc, hcm, ?_, ?_⟩⟩
    · rw [← hcs]; simpa using hsz
    · rw [hlen]
      have h1 : (ovr l off (c)).flatMap T.enc = (l.flatMap T.enc).take (off * T.k) ++ (c).flatMap T.enc ++ (l.flatMap T.enc).drop (off * T.k + (c).length * T.k) := by
        rw [ovr, List.flatMap_append, List.flatMap_append, flatMap_take, flatMap_drop, Nat.add_mul]
      rw [h1, ← htake]
      rw [Nat.add_mul] at hb1
      exact take_seg cur.toList _ (off * T.k) _ (l.length * T.k) hE (by omega) (by simpa using hcap)
  · refine ⟨.inl hb, ?_⟩
    have hb' : u.ownBlock = some b := hb
    rw [h'] at hb'
    obtain rfl := Option.some.inj (show some g = some b from hb')
    simpa using (Array.getElem?_eq_some_iff.1 hg).1
/-- nothing is cleared -/
theorem ao_clear0 {α : Type} {T : Ty α} {t e : TypeId} {x : Operand} (ho : o.op = .call { callee := .builtin .clear, args := #[x], argTypes := #[t] }) (hu : P.underlying t = some (.slice e)) (hx : Opd T0 fr x (slA T [])) :
    AO P T0 ops o fr M (fun _ M' => M' = M) (fun _ _ => False) := fun w0 G F a w next Qc hs hf hk _ => by
  obtain ⟨ad, sn, sc, e1, e2, _⟩ := (hx.use (o := o) (ops := ops) (by simp [ho, Op.operands, Call.operands]) hs.tab hf).sl
  simp only [List.length_nil] at e2
  subst e2
  have hr : (Builtin.clear_ #[t] o.type #[a.eval x]).run P w = .ok (.tuple #[]) w := by
    rw [e1]
    cases ad <;> simp [Builtin.clear_, run_underlying hu]
  have hrun : (execOp a.eval o).run P w = .ok (.value (.tuple #[])) w := by
    simp only [execOp, ho, resolve]
    simp [invoke, builtin, hr]
  unfold Oper.wp; rw [hrun]
  exact hk (vA (.tuple #[])) M G _ w rfl (Gh.le.refl _) hs (Rep.va _ _)
end
section
variable {T0 : Gh} {N : Fz} {Q : Post} {fr : Fr} {M : List Own} {ops : Array Oper} {o : Oper} {rest : List Oper} {x0 : Nat}
theorem w_clr {α : Type} {T : Ty α} {t e : TypeId} {x : Operand} {l : List α} {d : α} {by' off n : Nat} {av : α → AV} {u : Value} {f : Own → List Own} (h : AL Tryz.prog T0 N false ops Q rest fr (f (rowO T e u (ovr l off (List.replicate n d))))) (ho : o.op = .call { callee := .builtin .clear, args := #[x], argTypes := #[t] } := by rfl) (hg : o.guard = none := by rfl) (hd : o.dst = none := by rfl) (hu : Tryz.prog.underlying t = some (.slice e) := by first | exact un_ | fail) (he : El Tryz.prog T e d by' av := by first | exact el_ | fail)
    (hx : Opd T0 fr x (rsA T.k u off n) := by first | exact oo_ | fail) (hU : UpdF (rowO T e u l) M f := by first | exact upf_ | fail) (hn0 : 0 < n := by first | exact gb_ | fail) (hn : off + n ≤ l.length := by first | exact gb_ | fail) : AL Tryz.prog T0 N false ops Q (o :: rest) fr M := by
  obtain ⟨i, k1, k2⟩ := hU.spec
  refine al_en hg (ao_clear i ho hu he hx k1 hn0 hn) hd (fun _ _ h => h.elim) ?_
  rintro _ _ rfl
  rw [k2] at h; exact h
theorem w_clr0 {α : Type} {T : Ty α} {t e : TypeId} {x : Operand} (h : AL Tryz.prog T0 N false ops Q rest fr M) (ho : o.op = .call { callee := .builtin .clear, args := #[x], argTypes := #[t] } := by rfl) (hg : o.guard = none := by rfl) (hd : o.dst = none := by rfl) (hu : Tryz.prog.underlying t = some (.slice e) := by first | exact un_ | fail)
    (hx : Opd T0 fr x (slA T []) := by first | exact oo_ | fail) : AL Tryz.prog T0 N false ops Q (o :: rest) fr M := by
  refine al_en hg (ao_clear0 ho hu hx) hd (fun _ _ h => h.elim) ?_
  rintro _ _ rfl
  exact h
end
end Go.Proofs.YtockidoncngdbaaGreatDoor
