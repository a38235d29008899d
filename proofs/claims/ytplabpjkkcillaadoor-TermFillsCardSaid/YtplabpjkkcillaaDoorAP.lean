/- Rules: pointers that are there, interfaces, panics, calls that may panic, maps. No condition. -/
import Derived.Test.YtplabpjkkcillaaDoorAX
import Derived.MapKept
import Derived.WalkSmall
namespace Go.Proofs.YtplabpjkkcillaaDoor
set_option linter.unusedSimpArgs false
set_option linter.unusedVariables false
set_option linter.unusedSectionVars false
set_option maxHeartbeats 4000000
open Go Go.RowKit Go.MapKept
theorem get_in {α : Type} [Inhabited α] {l : List α} {i : Nat} (h : i < l.length) : l[i]? = some (l[i]!) := by simp [h]
section
variable {P : Program} {T0 : Gh} {N : Fz} {Q : Post} {fr : Fr} {M M' : List Own} {ops : Array Oper} {o : Oper} {rest : List Oper} {x0 : Nat}
theorem ay_nilp {x : Operand} {a : Addr} (ho : o.op = .nilCheck x) (hx : Opd T0 fr x (vA (.pointer (some a)))) : AY P T0 ops o fr M (vA (.pointer (some a))) := ay_of fun w0 G F ac w hs hf => ⟨.pointer (some a), by
  have h1 := (hx.use (o := o) (ops := ops) (by simp [ho, Op.operands]) hs.tab hf).eq
  simp [execOp, ho, h1], Rep.va _ _⟩
theorem ay_iface {x : Operand} {t : TypeId} {k : IntKind} {v : Value} (ho : o.op = .makeInterface t x) (hd : P.underlying t = some (.int k)) (hx : Opd T0 fr x (vA v)) : AY P T0 ops o fr M (vA (.iface t v)) := ay_of fun w0 G F ac w hs hf => ⟨.iface t v, by
  have h1 := (hx.use (o := o) (ops := ops) (by simp [ho, Op.operands]) hs.tab hf).eq
  simp [execOp, ho, h1, Instr.makeInterface, run_underlying hd], Rep.va _ _⟩
theorem al_panic {x : Operand} {t : TypeId} {v : Value} (hg : o.guard = none) (hd : o.dst = none) (ho : o.op = .panic x) (hx : Opd T0 fr x (vA (.iface t v))) (h : Q (.panic [{ v := .iface t v, recovered := false }]) fr M) : AL P T0 N false ops Q (o :: rest) fr M := by
  refine al_en (K := fun _ _ => False) (KP := fun c M' => c = [{ v := .iface t v, recovered := false }] ∧ M' = M) hg (fun w0 G F a w next Qc hs hf hk hp => ?_) hd ?_ (fun _ _ h => h.elim)
  · have h1 := (hx.use (o := o) (ops := ops) (by simp [ho, Op.operands]) hs.tab hf).eq
    have hrun : (execOp a.eval o).run P w = .halt (.panic (.iface t v)) w := by simp [execOp, ho, h1, run_panic_iface]
    unfold Oper.wp; rw [hrun]
    exact hp _ M G w ⟨rfl, rfl⟩ (Gh.le.refl _) hs
  · rintro c M' ⟨rfl, rfl⟩; exact h
/-- a call whose contract owns the first m and may panic -/
theorem al_call1p {f : FuncId} {args : Array Operand} {ts : Array TypeId} {As : List AV} {m : Own} {K : AV → List Own → Prop} {KP : List PanicEntry → List Own → Prop} (hg : o.guard = none) (hd : o.dst = some x0) (hN : Nat.blt x0 N.n = true) (ho : o.op = .call { callee := .value (.func f), args := args, argTypes := ts }) (ha : OpdAll T0 fr args.toList As) (c : AF P T0 f As [m] K KP) (hM : Pick m M M')
    (hp : ∀ ch M1, KP ch M1 → Q (.panic ch) fr (M1 ++ M')) (h : ∀ A M1, K A M1 → AL P T0 N false ops Q rest ((x0, A) :: fr) (M1 ++ M')) : AL P T0 N false ops Q (o :: rest) fr M := by
  refine al_ent (ent_perm2 hM.perm) ?_
  refine al_es hg (ao_call ho ha c rfl) hd hN (fun ch M2 h => by obtain ⟨M1, rfl, k⟩ := h; exact hp ch M1 k) ?_
  rintro A _ ⟨M1, rfl, k⟩
  exact h A M1 k
theorem rq_p {fn : Func} {K : AV → List Own → Prop} {KP : List PanicEntry → List Own → Prop} {c : List PanicEntry} (h : KP c M) : retQ P T0 fn K KP (.panic c) fr M := h

/-! ### maps -/
/-- a map that is ours: its entries, and its clock -/
def mapO (b : Nat) (es : List MapEntry) (clock : Nat) : Own where
  foot := some b
  holds := fun _ w => w.heap[b]? = some (.map es.toArray clock)
  mono := fun _ h => h
  loc := fun h k => (h _ rfl).trans k
theorem al_makeMap {t : TypeId} (hg : o.guard = none) (hd : o.dst = some x0) (hN : Nat.blt x0 N.n = true) (ho : o.op = .makeMap t none) (h : ∀ b, AL P T0 N false ops Q rest ((x0, vA (.map (some b))) :: fr) (mapO b [] 0 :: M)) : AL P T0 N false ops Q (o :: rest) fr M := by
  refine al_es (K := fun A M' => ∃ b, A = vA (.map (some b)) ∧ M' = mapO b [] 0 :: M) (KP := fun _ _ => False) hg (fun w0 G F a w next Qc hs hf hk hp => ?_) hd hN (fun _ _ h => h.elim) ?_
  · have hrun : (execOp a.eval o).run P w = .ok (.value (.map (some w.heap.size))) (w.alloc (.map #[] 0)) := by
      simp only [execOp, ho, Option.map_none, Sem.run_bind, show (Instr.makeMap t none).run P w = .ok (.map (some w.heap.size)) (w.alloc (.map #[] 0)) from rfl, Result.andThen_ok, Sem.run_pure]
    unfold Oper.wp; rw [hrun]
    exact hk _ (mapO w.heap.size [] 0 :: M) G _ _ ⟨_, rfl, rfl⟩ (Gh.le.refl _) (hs.alloc _ (mapO w.heap.size [] 0) rfl (heap_alloc_new w _)) (Rep.va _ _)
  · rintro _ _ ⟨b, rfl, rfl⟩; exact h b
theorem al_insert {t kt et : TypeId} {d : TypeDesc} {x y z : Operand} {b clock : Nat} {es : List MapEntry} {kv vv : Value} {f : Own → List Own} (hg : o.guard = none) (hd : o.dst = none) (ho : o.op = .insert t x y z) (hu : P.underlying t = some (.map kt et)) (hk0 : P.underlying kt = some d) (hk : IsKey d kv) (hx : Opd T0 fr x (vA (.map (some b)))) (hy : Opd T0 fr y (vA kv)) (hz : Opd T0 fr z (vA vv))
    (hn : Instr.findNow d kv es 0 = some none) (hU : UpdF (mapO b es clock) M f) (h : AL P T0 N false ops Q rest fr (f (mapO b (es ++ [(⟨kv, vv, clock⟩ : MapEntry)]) (clock + 1)))) : AL P T0 N false ops Q (o :: rest) fr M := by
  obtain ⟨i, k1, k2⟩ := hU.spec
  refine al_en (K := fun _ M' => M' = M.set i (mapO b (es ++ [(⟨kv, vv, clock⟩ : MapEntry)]) (clock + 1))) (KP := fun _ _ => False) hg (fun w0 G F a w next Qc hs hf hkk hp => ?_) hd (fun _ _ h => h.elim) ?_
  · have e1 := (hx.use (o := o) (ops := ops) (by simp [ho, Op.operands]) hs.tab hf).eq
    have e2 := (hy.use (o := o) (ops := ops) (by simp [ho, Op.operands]) hs.tab hf).eq
    have e3 := (hz.use (o := o) (ops := ops) (by simp [ho, Op.operands]) hs.tab hf).eq
    obtain ⟨hM1, hM2⟩ := setAppend (F := F) (m' := mapO b (es ++ [(⟨kv, vv, clock⟩ : MapEntry)]) (clock + 1)) k1
    have hh : w.heap[b]? = some (.map es.toArray clock) := hs.own _ (List.mem_of_getElem? hM1)
    have hrun : (execOp a.eval o).run P w = .ok .skip { w with heap := w.heap.setIfInBounds b (.map (es ++ [(⟨kv, vv, clock⟩ : MapEntry)]).toArray (clock + 1)) } := by
      simp only [execOp, ho, e1, e2, e3, Instr.mapUpdate, Sem.run_bind, run_underlying hu, Result.andThen_ok, MapKept.run_getObj_map hh, MapKept.run_checkKey hk0 hk, MapKept.run_findKey (l := es.toArray.toList) hk0 (by simpa using hn), MapKept.run_setObj_map _ hh, Sem.run_pure]
      simp
    unfold Oper.wp; rw [hrun]
    refine hkk anyA _ G undef _ rfl (Gh.le.refl _) ?_ (Rep.any _ _)
    rw [← hM2]
    have hset := heap_set (o' := .map (es ++ [(⟨kv, vv, clock⟩ : MapEntry)]).toArray (clock + 1)) hh
    refine hs.grown hM1 ⟨rfl, rfl, rfl, by simp, fun k _ hk => hset.2 k (fun e => hk (by rw [e]; rfl))⟩ hset.1 (fun b' hb' => ⟨.inl hb', ?_⟩)
    have : b = b' := Option.some.inj hb'
    subst this
    simpa using (Array.getElem?_eq_some_iff.1 hh).1
  · rintro _ _ rfl
    rw [k2] at h; exact h
theorem ay_lookup {t kt et : TypeId} {d : TypeDesc} {x y : Operand} {b clock i : Nat} {es : List MapEntry} {kv vv : Value} (ho : o.op = .lookup t x y false) (hu : P.underlying t = some (.map kt et)) (hk0 : P.underlying kt = some d) (hk : IsKey d kv) (hx : Opd T0 fr x (vA (.map (some b)))) (hy : Opd T0 fr y (vA kv)) (hM : mapO b es clock ∈ M) (hn : Instr.findNow d kv es 0 = some (some (i, vv))) : AY P T0 ops o fr M (vA vv) := ay_of fun w0 G F a w hs hf => by
  have e1 := (hx.use (o := o) (ops := ops) (by simp [ho, Op.operands]) hs.tab hf).eq
  have e2 := (hy.use (o := o) (ops := ops) (by simp [ho, Op.operands]) hs.tab hf).eq
  have hh : w.heap[b]? = some (.map es.toArray clock) := hs.own _ (List.mem_append_left F hM)
  refine ⟨vv, ?_, Rep.va _ _⟩
  simp only [execOp, ho, e1, e2, Instr.lookup, Sem.run_bind, run_underlying hu, Result.andThen_ok, MapKept.run_getObj_map hh, Sem.run_pure, MapKept.run_checkKey hk0 hk, MapKept.run_findKey (l := es.toArray.toList) hk0 (by simpa using hn)]
  simp
end
end Go.Proofs.YtplabpjkkcillaaDoor
