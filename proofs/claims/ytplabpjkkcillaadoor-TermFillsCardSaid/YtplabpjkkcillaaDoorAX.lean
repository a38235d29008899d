/- More rules: loops that turn a variable, greatest and least of two, cuts that leave no room. No condition. -/
import Derived.Test.YtplabpjkkcillaaDoorAN
import Derived.Scope
namespace Go.Proofs.YtplabpjkkcillaaDoor
set_option linter.unusedSimpArgs false
set_option linter.unusedVariables false
set_option linter.unusedSectionVars false
set_option maxHeartbeats 4000000
open Go Go.RowKit
section
variable {P : Program} {T0 : Gh} {N : Fz} {Q : Post} {fr : Fr} {M : List Own} {c : Code} {σ : Type} {ops : Array Oper} {o : Oper}
/-- a variable that is owned turns -/
theorem aw_lv {b : Nat} {e : TypeId} {cells0 : List AV} {f : Own → List Own} (d : σ → Fr) (g : σ → List AV) (inv : σ → Prop) (μ : σ → Nat) (s0 : σ) (h0 : inv s0) (hl : cells0 = g s0)
    (round : ∀ s, inv s → AW P T0 N c (thenA (fun fr' M' => ∃ s', inv s' ∧ μ s' < μ s ∧ Weak fr' (d s' ++ fr) ∧ List.Sublist (f (varO b e (g s'))) M') Q) (d s ++ fr) (f (varO b e (g s)))) (hU : UpdF (varO b e cells0) M f := by first | exact upf_ | fail) (hf0 : Weak fr (d s0) := by first | exact wk_ | fail) : AW P T0 N (.loop c) Q fr M := by
  obtain ⟨i, h1, h2⟩ := hU.spec
  subst hl
  refine aw_fl (fun s => d s ++ fr) (fun s => f (varO b e (g s))) inv μ s0 h0 (weak_in hf0) ?_ round
  rw [h2, set_same h1]; exact List.Sublist.refl _
theorem ay_maxi {ts : Array TypeId} {x y : Operand} {k : IntKind} {a b : Int} (ho : o.op = .call { callee := .builtin .max, args := #[x, y], argTypes := ts }) (hx : Opd T0 fr x (vA (.int k a))) (hy : Opd T0 fr y (vA (.int k b))) : AY P T0 ops o fr M (vA (.int k (max a b))) := ay_of fun w0 G F ac w hs hf => by
  have e1 := (hx.use (o := o) (ops := ops) (by simp [ho, Op.operands, Call.operands]) hs.tab hf).eq
  have e2 := (hy.use (o := o) (ops := ops) (by simp [ho, Op.operands, Call.operands]) hs.tab hf).eq
  refine ⟨.int k (max a b), ?_, Rep.va _ _⟩
  simp only [execOp, ho, resolve]
  simp [invoke, builtin, e1, e2, Go.Lib.run_max_ints]
theorem ay_mini {ts : Array TypeId} {x y : Operand} {k : IntKind} {a b : Int} (ho : o.op = .call { callee := .builtin .min, args := #[x, y], argTypes := ts }) (hx : Opd T0 fr x (vA (.int k a))) (hy : Opd T0 fr y (vA (.int k b))) : AY P T0 ops o fr M (vA (.int k (min a b))) := ay_of fun w0 G F ac w hs hf => by
  have e1 := (hx.use (o := o) (ops := ops) (by simp [ho, Op.operands, Call.operands]) hs.tab hf).eq
  have e2 := (hy.use (o := o) (ops := ops) (by simp [ho, Op.operands, Call.operands]) hs.tab hf).eq
  refine ⟨.int k (min a b), ?_, Rep.va _ _⟩
  simp only [execOp, ho, resolve]
  simp [invoke, builtin, e1, e2, Go.Lib.run_min_ints]
/-- x[lo:hi:hi] -/
theorem ay_slice3 {α : Type} {T : Ty α} {t e : TypeId} {x y z : Operand} {lo : Option Operand} {l : List α} {d : α} {by' a b : Nat} {k k' : IntKind} {av : α → AV} (ho : o.op = .slice t x lo (some y) (some z)) (hu : P.underlying t = some (.slice e)) (he : El P T e d by' av) (hx : Opd T0 fr x (slA T l)) (hlo : loOf lo a T0 fr) (hy : OpdN T0 fr y k b) (hz : OpdN T0 fr z k' b) (h1 : a ≤ b) (h2 : b ≤ l.length) :
    AY P T0 ops o fr M (slcA T ((l.drop a).take (b - a))) := ay_of fun w0 G F ac w hs hf => by
  obtain ⟨ad, n, cap, e1, e2, e3, e4, e5, e6⟩ := (hx.use (o := o) (ops := ops) (by simp [ho, Op.operands]) hs.tab hf).sl
  have hl : ((lo.map ac.eval) = none ∧ a = 0) ∨ ∃ k, (lo.map ac.eval) = some (.int k (a : Int)) := by
    cases lo with
    | none => exact .inl ⟨rfl, hlo⟩
    | some y => obtain ⟨k, hk⟩ := hlo; exact .inr ⟨k, by rw [Option.map_some, (hk.use (o := o) (ops := ops) (by simp [ho, Op.operands]) hs.tab hf).eq]⟩
  have e7 := ((show Opd T0 fr y (vA (.int k (b : Int))) from hy).use (o := o) (ops := ops) (by simp [ho, Op.operands]) hs.tab hf).eq
  have e8 := ((show Opd T0 fr z (vA (.int k' (b : Int))) from hz).use (o := o) (ops := ops) (by simp [ho, Op.operands]) hs.tab hf).eq
  have hb : (Instr.sliceBounds true n cap (lo.map ac.eval) (some (.int k (b : Int))) (some (.int k' (b : Int)))).run P w = .ok (a, b, b) w := by
    rcases hl with ⟨h, rfl⟩ | ⟨k, h⟩ <;> rw [h] <;> simp [Instr.sliceBounds, run_sliceBound, h1, show b ≤ cap by omega]
  refine ⟨.slice (if b = a then ad else ad.map (·.add (a * T.k))) (b - a) (b - a), ?_, .of ⟨_, _, rfl, by simp; omega, by omega, cut_sl e6 e2 h1 (by omega) (by omega)⟩⟩
  simp only [execOp, ho, e1]
  simp [run_sliceAt_slice _ _ _ _ _ _ (elem_of hu), Instr.slice, run_underlying hu, hb, he.size, e7, e8]
/-- a scope that is gone through without a jump -/
theorem aw_scope {c : Code} (hg : ∀ l fr M, ¬ Q (.goto l) fr M) (h : AW P T0 N c Q fr M) : AW P T0 N (.scope c) Q fr M := fun w0 G F a w hc =>
  wp_scope_straight (wp_mono (h w0 G F a w hc) fun e a' w' q => by
    cases e with
    | goto l => obtain ⟨fr', M', G', q1, _⟩ := q; exact absurd q1 (hg l fr' M')
    | _ => exact q)
theorem aw_label {l : Nat} (h : Q .normal fr M) : AW P T0 N (.label l) Q fr M := fun _ _ _ _ _ hc => wp_label ⟨fr, M, _, h, Gh.le.refl _, hc⟩
/-! ### what is handed back, some of it in variables -/
inductive ResL (P : Program) (M : List Own) (fr : Fr) : List ResultVar → List AV → Prop
  | nil : ResL P M fr [] []
  | tmp {t : Nat} {A : AV} {r : List ResultVar} {l : List AV} (h : fr.get t = some A) (k : ResL P M fr r l) : ResL P M fr (.tmp t :: r) (A :: l)
  | agg {s t e b n : Nat} {cells : List AV} {r : List ResultVar} {l : List AV} (ha : ∀ w, (isAgg t).run P w = .ok true w) (hs : fr.get s = some (vA (.pointer (some ⟨b, 0, none⟩)))) (hM : varO b e cells ∈ M) (hz : ∀ w, (sizeOf t).run P w = .ok n w) (hl : cells.length = n) (k : ResL P M fr r l) : ResL P M fr (.cell s t :: r) (aggA cells :: l)
  | one {s t e b : Nat} {A : AV} {r : List ResultVar} {l : List AV} (ha : ∀ w, (isAgg t).run P w = .ok false w) (hs : fr.get s = some (vA (.pointer (some ⟨b, 0, none⟩)))) (hM : varO b e [A] ∈ M) (k : ResL P M fr r l) : ResL P M fr (.cell s t :: r) (A :: l)
def rvOf (tmps : Array Value) : ResultVar → Sem Value
  | .tmp t => pure (tmps.getD t undef)
  | .cell a t => do loadVar t (← asAddr (tmps.getD a undef))
theorem results_rv (fn : Func) (tmps : Array Value) : results fn tmps = (do let vs ← fn.results.mapM (rvOf tmps); pure (if h : vs.size = 1 then vs[0] else .tuple vs)) := by
  have h : (fun (r : ResultVar) => match r with | .tmp t => (pure (tmps.getD t undef) : Sem Value) | .cell a t => (do loadVar t (← asAddr (tmps.getD a undef)))) = rvOf tmps := by
    funext r; cases r <;> rfl
  rw [← h]; rfl
theorem run_loadVar1 {t e : TypeId} {b : Nat} {u : Value} {w : World} (ha : ∀ w, (isAgg t).run P w = .ok false w) (h : w.heap[b]? = some (.cells #[u] e (0, 0))) : (loadVar t ⟨b, 0, none⟩).run P w = .ok u w := by
  have hc : w.cell? ⟨b, 0, none⟩ = some u := (cell_of_row _ _ _ _ _ _ h).trans rfl
  simp only [loadVar]
  simp [ha, load, Sem.run, hc]
theorem ResL.run {T0 : Gh} {w0 : World} {G : Gh} {F : List Own} {tmps : Array Value} {w : World} (st : St T0 w0 G (M ++ F) w) (hr : frRel G fr tmps) : ∀ {rs : List ResultVar} {l : List AV}, ResL P M fr rs l →
    ∃ us, (rs.mapM (rvOf tmps)).run P w = .ok us w ∧ AllRep G l us := by
  intro rs l h
  induction h with
  | nil => exact ⟨[], by simp, trivial⟩
  | tmp h k ih =>
    obtain ⟨us, h1, h2⟩ := ih
    exact ⟨_ :: us, by simp only [List.mapM_cons, rvOf, Sem.run_bind, Sem.run_pure, Result.andThen_ok, h1], slot_get hr h, h2⟩
  | agg ha hs hM hz hl k ih =>
    obtain ⟨us, h1, h2⟩ := ih
    obtain ⟨u, h3, h4⟩ := run_loadVarn ha (by rw [hl]; exact hz) (st.own _ (List.mem_append_left F hM))
    have h5 := (slot_get hr hs).eq
    refine ⟨u :: us, ?_, h4, h2⟩
    simp only [List.mapM_cons, rvOf, Sem.run_bind, h5, asAddr, Sem.run_pure, Result.andThen_ok, h3, h1]
  | one ha hs hM k ih =>
    obtain ⟨us, h1, h2⟩ := ih
    obtain ⟨cs, h3, h4⟩ := st.own _ (List.mem_append_left F hM)
    obtain ⟨u, rfl⟩ : ∃ u, cs = [u] := List.length_eq_one_iff.1 h4.len
    have h5 := (slot_get hr hs).eq
    refine ⟨u :: us, ?_, h4.1, h2⟩
    have h6 := run_loadVar1 ha h3
    simp only [List.mapM_cons, rvOf, Sem.run_bind, h5, asAddr, Sem.run_pure, Result.andThen_ok, h6, h1]
theorem resL {T0 : Gh} {fn : Func} {rs : List ResultVar} {l : List AV} (h : fn.results.toList = rs) (k : ResL P M fr rs l) (hl : Nat.beq l.length 1 = false) : ResA P T0 fn fr M (tupA l) := fun w0 G F tmps w st hr => by
  obtain ⟨us, h1, h2⟩ := k.run st hr
  have hn : us.toArray.size ≠ 1 := fun e => by
    have e2 : l.length = 1 := by rw [← h2.len]; simpa using e
    rw [e2] at hl; simp at hl
  refine ⟨.tuple us.toArray, ?_, .of ⟨us, rfl, h2⟩⟩
  have h' : fn.results = rs.toArray := by rw [← h]
  rw [results_rv, h', List.mapM_toArray]
  simp only [Sem.run_bind, map_eq_pure_bind, bind_assoc, Sem.run_pure, h1, Result.andThen_ok, dif_neg hn, pure_bind]
end
theorem rl_ {T0 : Gh} {fr : Fr} {M : List Own} {fn : Func} {A : AV} (h : ResA Tryd.prog T0 fn fr M A := by
  first
  | exact rs_
  | (apply resL rfl
     (case k => (repeat' (first
       | exact ResL.nil
       | (apply ResL.tmp; rfl)
       | (apply ResL.agg; exact agg_; rfl; exact mem_; exact sz_; rfl)
       | (apply ResL.one; exact agg_; rfl; exact mem_))))
     (case hl => rfl)
     done)
  | fail) : ResA Tryd.prog T0 fn fr M A := h
end Go.Proofs.YtplabpjkkcillaaDoor
