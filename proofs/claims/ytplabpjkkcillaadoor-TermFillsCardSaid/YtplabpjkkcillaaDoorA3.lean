/- The logic's third part: what single operations do: numbers, truth values, structs, immutable slices, calls. No condition. -/
import Derived.Test.YtplabpjkkcillaaDoorA2
import Derived.WalkKit
namespace Go.Proofs.YtplabpjkkcillaaDoor
set_option linter.unusedSimpArgs false
set_option linter.unusedVariables false
set_option linter.unusedSectionVars false
set_option maxHeartbeats 4000000
open Go Go.RowKit

section
variable {P : Program} {T0 : Gh} {N : Fz} {Q : Post} {fr : Fr} {M : List Own} {ops : Array Oper} {o : Oper}

/-- an operand's value -/
def Opd (T0 : Gh) (fr : Fr) (x : Operand) (A : AV) : Prop := ∀ G (a : Act), Gh.le T0 G → (∀ s, x = .tmp s → ∀ B, fr.get s = some B → ∃ u, a.tmps[s]? = some u ∧ Rep G B u) → Rep G A (a.eval x)
theorem reads_of {s : Nat} (h : Operand.tmp s ∈ o.op.operands) : reads ops o s := List.mem_append_left _ (List.mem_filterMap.2 ⟨.tmp s, by simpa using h, rfl⟩)
theorem Opd.use {x : Operand} {A : AV} (h : Opd T0 fr x A) (hx : x ∈ o.op.operands) {G : Gh} {a : Act} (ht : Gh.le T0 G) (hf : frOn G (reads ops o) fr a.tmps) : Rep G A (a.eval x) :=
  h G a ht fun s hs B hb => hf s B (reads_of (hs ▸ hx)) hb
theorem opd_tmp {s : Nat} {A : AV} (h : fr.get s = some A) : Opd T0 fr (.tmp s) A := fun G a _ hf => by
  obtain ⟨u, h1, h2⟩ := hf s rfl A h
  have : a.eval (.tmp s) = u := by simp [Act.eval, h1]
  rw [this]; exact h2
theorem opd_gv {s : Nat} {c : Bool} {A : AV} (h : fr.get s = some (gvA c A)) (hc : c = true) : Opd T0 fr (.tmp s) A := fun G a ht hf => (opd_tmp h G a ht hf).gv.1 hc
theorem opd_const {v : Value} : Opd T0 fr (.const v) (vA v) := fun G _ _ _ => Rep.va G v
theorem opd_func {f : FuncId} : Opd T0 fr (.func f) (vA (.func (.func f) #[] #[])) := fun G _ _ _ => Rep.va G _
def Fr.opd (fr : Fr) : Operand → Option AV
  | .tmp s => fr.get s
  | .const v => some (vA v)
  | .func f => some (vA (.func (.func f) #[] #[]))
  | .global _ => none
theorem od {x : Operand} {A : AV} (h : fr.opd x = some A) : Opd T0 fr x A := by
  cases x with
  | tmp s => exact opd_tmp h
  | const v => obtain rfl := Option.some.inj h; exact opd_const
  | func f => obtain rfl := Option.some.inj h; exact opd_func
  | global g => cases h
theorem odl {x : Operand} {k : IntKind} {n : Nat} {A : AV} (h : fr.opd x = some A) (e : A = vA (.int k (OfNat.ofNat n))) : Opd T0 fr x (vA (.int k ((OfNat.ofNat n : Nat) : Int))) := od (h.trans (congrArg some e))
theorem og {x : Operand} {c : Bool} {A : AV} (h : fr.opd x = some (gvA c A)) (hc : c = true) : Opd T0 fr x A := fun G a ht hf => (od h G a ht hf).gv.1 hc
theorem opd_glob {g : Nat} {cs : List Value} (h : ∀ j v, cs[j]? = some v → T0 g j = some v) : Opd T0 fr (.global g) (ipA cs) := fun G _ ht _ => .of ⟨g, 0, rfl, fun j v hv => by rw [Nat.zero_add]; exact ht _ _ _ (h j v hv)⟩
theorem Opd.imp {x : Operand} {A A' : AV} (h : Opd T0 fr x A) (k : ∀ G u, Rep G A u → Rep G A' u) : Opd T0 fr x A' := fun G a ht hf => k G _ (h G a ht hf)

/-- a quiet operation that runs to a value in the world that it got -/
theorem ay_of {A : AV} (h : ∀ w0 G F (a : Act) w, St T0 w0 G (M ++ F) w → frOn G (reads ops o) fr a.tmps → ∃ u, (execOp a.eval o).run P w = .ok (.value u) w ∧ Rep G A u) : AY P T0 ops o fr M A := fun w0 G F a w next Qc hs hf hk _ => by
  obtain ⟨u, h1, h2⟩ := h w0 G F a w hs hf
  unfold Oper.wp; rw [h1]
  exact hk A M G u w ⟨rfl, rfl⟩ (Gh.le.refl _) hs h2

theorem ay_move {x : Operand} {A : AV} (ho : o.op = .move x) (hx : Opd T0 fr x A) : AY P T0 ops o fr M A := ay_of fun w0 G F a w hs hf =>
  ⟨a.eval x, by simp [execOp, ho], hx.use (by simp [ho, Op.operands]) hs.tab hf⟩
theorem ay_assign {x : Operand} {A : AV} (ho : o.op = .assign x) (hx : Opd T0 fr x A) : AY P T0 ops o fr M A := ay_of fun w0 G F a w hs hf =>
  ⟨a.eval x, by simp [execOp, ho], hx.use (by simp [ho, Op.operands]) hs.tab hf⟩
theorem ay_pick {c x y : Operand} {b : Bool} {A : AV} (ho : o.op = .pick c x y) (hc : Opd T0 fr c (B b)) (hx : b = true → Opd T0 fr x A) (hy : b = false → Opd T0 fr y A) : AY P T0 ops o fr M A := ay_of fun w0 G F a w hs hf => by
  have h1 := (hc.use (o := o) (ops := ops) (by simp [ho, Op.operands]) hs.tab hf).eq
  cases b with
  | true => exact ⟨a.eval x, by simp [execOp, ho, h1, asBool], (hx rfl).use (o := o) (by simp [ho, Op.operands]) hs.tab hf⟩
  | false => exact ⟨a.eval y, by simp [execOp, ho, h1, asBool], (hy rfl).use (o := o) (by simp [ho, Op.operands]) hs.tab hf⟩
/-- && -/
theorem ay_and {c x : Operand} {b d : Bool} (ho : o.op = .pick c x (.const (.bool false))) (hc : Opd T0 fr c (B b)) (hx : b = true → Opd T0 fr x (B d)) : AY P T0 ops o fr M (B (b && d)) :=
  ay_pick ho hc (fun e => by subst e; exact hx rfl) (fun e => by subst e; exact opd_const)
/-- || -/
theorem ay_or {c y : Operand} {b d : Bool} (ho : o.op = .pick c (.const (.bool true)) y) (hc : Opd T0 fr c (B b)) (hy : b = false → Opd T0 fr y (B d)) : AY P T0 ops o fr M (B (b || d)) :=
  ay_pick ho hc (fun e => by subst e; exact opd_const) (fun e => by subst e; exact hy rfl)
theorem ay_not {t : TypeId} {x : Operand} {b : Bool} (ho : o.op = .unOp .not t x) (hx : Opd T0 fr x (B b)) : AY P T0 ops o fr M (B (!b)) := ay_of fun w0 G F a w hs hf =>
  ⟨_, by simp [execOp, ho, (hx.use (o := o) (ops := ops) (by simp [ho, Op.operands]) hs.tab hf).eq, Op.unary], Rep.va _ _⟩

/-! ### numbers -/
theorem run_eqGuard_int {op : BinOp} {t : TypeId} {x y : Operand} {k k' : IntKind} {a b : Int} {w : World} : (eqGuard op t x y (.int k a) (.int k' b)).run P w = .ok () w := by
  unfold eqGuard; split <;> rfl
theorem ay_cmp {op : BinOp} {t t' : TypeId} {x y : Operand} {k : IntKind} {a b : Int} {c : Bool} (ho : o.op = .binOp op t x y t') (hx : Opd T0 fr x (vA (.int k a))) (hy : Opd T0 fr y (vA (.int k b)))
    (hr : ∀ w, (binOp op t (.int k a) (.int k b)).run P w = .ok (.bool c) w) : AY P T0 ops o fr M (B c) := ay_of fun w0 G F a' w hs hf => by
  have h1 := (hx.use (o := o) (ops := ops) (by simp [ho, Op.operands]) hs.tab hf).eq
  have h2 := (hy.use (o := o) (ops := ops) (by simp [ho, Op.operands]) hs.tab hf).eq
  exact ⟨_, by simp [execOp, ho, h1, h2, run_eqGuard_int, hr], Rep.va _ _⟩
theorem ay_lss {t t' : TypeId} {x y : Operand} {k : IntKind} {a b : Int} (ho : o.op = .binOp .lss t x y t') (hx : Opd T0 fr x (vA (.int k a))) (hy : Opd T0 fr y (vA (.int k b))) : AY P T0 ops o fr M (B (decide (a < b))) := ay_cmp ho hx hy fun w => by simp [binOp, Op.intCmp]
theorem ay_leq {t t' : TypeId} {x y : Operand} {k : IntKind} {a b : Int} (ho : o.op = .binOp .leq t x y t') (hx : Opd T0 fr x (vA (.int k a))) (hy : Opd T0 fr y (vA (.int k b))) : AY P T0 ops o fr M (B (decide (a ≤ b))) := ay_cmp ho hx hy fun w => by simp [binOp, Op.intCmp]
theorem ay_gtr {t t' : TypeId} {x y : Operand} {k : IntKind} {a b : Int} (ho : o.op = .binOp .gtr t x y t') (hx : Opd T0 fr x (vA (.int k a))) (hy : Opd T0 fr y (vA (.int k b))) : AY P T0 ops o fr M (B (decide (b < a))) := ay_cmp ho hx hy fun w => by simp [binOp, Op.intCmp]
theorem ay_geq {t t' : TypeId} {x y : Operand} {k : IntKind} {a b : Int} (ho : o.op = .binOp .geq t x y t') (hx : Opd T0 fr x (vA (.int k a))) (hy : Opd T0 fr y (vA (.int k b))) : AY P T0 ops o fr M (B (decide (b ≤ a))) := ay_cmp ho hx hy fun w => by simp [binOp, Op.intCmp]
theorem ay_eql {t t' : TypeId} {x y : Operand} {k : IntKind} {a b : Int} (ho : o.op = .binOp .eql t x y t') (hx : Opd T0 fr x (vA (.int k a))) (hy : Opd T0 fr y (vA (.int k b))) : AY P T0 ops o fr M (B (decide (a = b))) := ay_cmp ho hx hy fun w => by simp [binOp, Op.intCmp]; rfl
theorem ay_neq {t t' : TypeId} {x y : Operand} {k : IntKind} {a b : Int} (ho : o.op = .binOp .neq t x y t') (hx : Opd T0 fr x (vA (.int k a))) (hy : Opd T0 fr y (vA (.int k b))) : AY P T0 ops o fr M (B (!decide (a = b))) := ay_cmp ho hx hy fun w => by simp [binOp, Op.intCmp]; rfl
theorem ay_int {op : BinOp} {t t' : TypeId} {x y : Operand} {k k2 : IntKind} {a b : Int} {r : Value} (ho : o.op = .binOp op t x y t') (hx : Opd T0 fr x (vA (.int k a))) (hy : Opd T0 fr y (vA (.int k2 b)))
    (hr : ∀ w, (binOp op t (.int k a) (.int k2 b)).run P w = .ok r w) : AY P T0 ops o fr M (vA r) := ay_of fun w0 G F a' w hs hf => by
  have h1 := (hx.use (o := o) (ops := ops) (by simp [ho, Op.operands]) hs.tab hf).eq
  have h2 := (hy.use (o := o) (ops := ops) (by simp [ho, Op.operands]) hs.tab hf).eq
  exact ⟨_, by simp [execOp, ho, h1, h2, run_eqGuard_int, hr], Rep.va _ _⟩
/-- what fits its kind -/
def Fit (k : IntKind) (n : Int) : Prop := k.wrap n = n
theorem fit64 {n : Int} (h1 : -9223372036854775808 ≤ n) (h2 : n ≤ 9223372036854775807) : Fit .i64 n := IntWalk.i64_in n ⟨h1, h2⟩
theorem fit32 {n : Int} (h1 : -2147483648 ≤ n) (h2 : n ≤ 2147483647) : Fit .i32 n := by
  unfold Fit IntKind.wrap; simp [IntKind.bits, IntKind.signed]; omega
theorem fit8 {n : Int} (h1 : 0 ≤ n) (h2 : n ≤ 255) : Fit .u8 n := by
  unfold Fit IntKind.wrap; simp [IntKind.bits, IntKind.signed]; omega
theorem ay_add {t t' : TypeId} {x y : Operand} {k : IntKind} {a b : Int} (ho : o.op = .binOp .add t x y t') (hx : Opd T0 fr x (vA (.int k a))) (hy : Opd T0 fr y (vA (.int k b))) (hf : Fit k (a + b)) : AY P T0 ops o fr M (vA (.int k (a + b))) := ay_int ho hx hy fun w => by simp [binOp, Op.intArith, show k.wrap (a + b) = a + b from hf]
theorem ay_sub {t t' : TypeId} {x y : Operand} {k : IntKind} {a b : Int} (ho : o.op = .binOp .sub t x y t') (hx : Opd T0 fr x (vA (.int k a))) (hy : Opd T0 fr y (vA (.int k b))) (hf : Fit k (a - b)) : AY P T0 ops o fr M (vA (.int k (a - b))) := ay_int ho hx hy fun w => by simp [binOp, Op.intArith, show k.wrap (a - b) = a - b from hf]
theorem ay_mul {t t' : TypeId} {x y : Operand} {k : IntKind} {a b : Int} (ho : o.op = .binOp .mul t x y t') (hx : Opd T0 fr x (vA (.int k a))) (hy : Opd T0 fr y (vA (.int k b))) (hf : Fit k (a * b)) : AY P T0 ops o fr M (vA (.int k (a * b))) := ay_int ho hx hy fun w => by simp [binOp, Op.intArith, show k.wrap (a * b) = a * b from hf]
theorem ay_addw {t t' : TypeId} {x y : Operand} {k : IntKind} {a b : Int} (ho : o.op = .binOp .add t x y t') (hx : Opd T0 fr x (vA (.int k a))) (hy : Opd T0 fr y (vA (.int k b))) : AY P T0 ops o fr M (vA (.int k (k.wrap (a + b)))) := ay_int ho hx hy fun w => by simp [binOp, Op.intArith]
theorem ay_subw {t t' : TypeId} {x y : Operand} {k : IntKind} {a b : Int} (ho : o.op = .binOp .sub t x y t') (hx : Opd T0 fr x (vA (.int k a))) (hy : Opd T0 fr y (vA (.int k b))) : AY P T0 ops o fr M (vA (.int k (k.wrap (a - b)))) := ay_int ho hx hy fun w => by simp [binOp, Op.intArith]
theorem ay_mulw {t t' : TypeId} {x y : Operand} {k : IntKind} {a b : Int} (ho : o.op = .binOp .mul t x y t') (hx : Opd T0 fr x (vA (.int k a))) (hy : Opd T0 fr y (vA (.int k b))) : AY P T0 ops o fr M (vA (.int k (k.wrap (a * b)))) := ay_int ho hx hy fun w => by simp [binOp, Op.intArith]
theorem ay_quo {t t' : TypeId} {x y : Operand} {k : IntKind} {a b : Int} (ho : o.op = .binOp .quo t x y t') (hx : Opd T0 fr x (vA (.int k a))) (hy : Opd T0 fr y (vA (.int k b))) (ha : 0 ≤ a) (hb : 0 < b) (hf : Fit k (a / b)) : AY P T0 ops o fr M (vA (.int k (a / b))) := ay_int ho hx hy fun w => by
  have e : a.tdiv b = a / b := Int.tdiv_eq_ediv_of_nonneg ha
  simp [binOp, Op.intDiv, Int.ne_of_gt hb, e, show k.wrap (a / b) = a / b from hf]
theorem ay_rem {t t' : TypeId} {x y : Operand} {k : IntKind} {a b : Int} (ho : o.op = .binOp .rem t x y t') (hx : Opd T0 fr x (vA (.int k a))) (hy : Opd T0 fr y (vA (.int k b))) (ha : 0 ≤ a) (hb : 0 < b) : AY P T0 ops o fr M (vA (.int k (a % b))) := ay_int ho hx hy fun w => by
  have e : a.tmod b = a % b := Int.tmod_eq_emod_of_nonneg ha
  simp [binOp, Op.intDiv, Int.ne_of_gt hb, e]
theorem ay_bits {op : BinOp} {t t' : TypeId} {x y : Operand} {k : IntKind} {a b r : Int} (ho : o.op = .binOp op t x y t') (hx : Opd T0 fr x (vA (.int k a))) (hy : Opd T0 fr y (vA (.int k b)))
    (hr : ∀ w, (binOp op t (.int k a) (.int k b)).run P w = .ok (.int k r) w) : AY P T0 ops o fr M (vA (.int k r)) := ay_int ho hx hy hr
theorem ay_neg {t : TypeId} {x : Operand} {k : IntKind} {a : Int} (ho : o.op = .unOp .neg t x) (hx : Opd T0 fr x (vA (.int k a))) (hf : Fit k (-a)) : AY P T0 ops o fr M (vA (.int k (-a))) := ay_of fun w0 G F a' w hs hf' =>
  ⟨_, by simp [execOp, ho, (hx.use (o := o) (ops := ops) (by simp [ho, Op.operands]) hs.tab hf').eq, Op.unary, Op.intArith, show k.wrap (-a) = -a from hf], Rep.va _ _⟩
theorem ay_conv {s d : TypeId} {x : Operand} {k k' : IntKind} {a : Int} {ts : TypeDesc} (ho : o.op = .convert s d x) (hs' : P.underlying s = some ts) (hd : P.underlying d = some (.int k')) (hx : Opd T0 fr x (vA (.int k a))) (hf : Fit k' a) : AY P T0 ops o fr M (vA (.int k' a)) := ay_of fun w0 G F a' w hs hf' =>
  ⟨_, by
    have h1 := (hx.use (o := o) (ops := ops) (by simp [ho, Op.operands]) hs.tab hf').eq
    simp [execOp, ho, h1, convert, run_underlying hs', run_underlying hd, Conv.intToInt, show k'.wrap a = a from hf], Rep.va _ _⟩
theorem ay_convw {s d : TypeId} {x : Operand} {k k' : IntKind} {a : Int} {ts : TypeDesc} (ho : o.op = .convert s d x) (hs' : P.underlying s = some ts) (hd : P.underlying d = some (.int k')) (hx : Opd T0 fr x (vA (.int k a))) : AY P T0 ops o fr M (vA (.int k' (k'.wrap a))) := ay_of fun w0 G F a' w hs hf' =>
  ⟨_, by
    have h1 := (hx.use (o := o) (ops := ops) (by simp [ho, Op.operands]) hs.tab hf').eq
    simp [execOp, ho, h1, convert, run_underlying hs', run_underlying hd, Conv.intToInt], Rep.va _ _⟩

theorem ay_eqlb {t t' : TypeId} {x y : Operand} {a b : Bool} (ho : o.op = .binOp .eql t x y t') (hu : P.underlying t = some .bool) (hx : Opd T0 fr x (B a)) (hy : Opd T0 fr y (B b)) : AY P T0 ops o fr M (B (a == b)) := ay_of fun w0 G F a' w hs hf => by
  have h1 := (hx.use (o := o) (ops := ops) (by simp [ho, Op.operands]) hs.tab hf).eq
  have h2 := (hy.use (o := o) (ops := ops) (by simp [ho, Op.operands]) hs.tab hf).eq
  have h3 : (eqGuard .eql t x y (.bool a) (.bool b)).run P w = .ok () w := by unfold eqGuard; split <;> rfl
  have h4 : (Op.equal t (.bool a) (.bool b)).run P w = .ok (a == b) w := run_equalIn_bool w 9999 t a b hu
  have h5 : (binOp .eql t (.bool a) (.bool b)).run P w = .ok (.bool (a == b)) w := by
    simp only [binOp, Sem.run_bind, h4, Result.andThen_ok, Sem.run_pure]
  refine ⟨_, ?_, Rep.va _ _⟩
  simp only [execOp, ho, h1, h2, Sem.run_bind, h3, h5, Result.andThen_ok, Sem.run_pure]
theorem ay_neqb {t t' : TypeId} {x y : Operand} {a b : Bool} (ho : o.op = .binOp .neq t x y t') (hu : P.underlying t = some .bool) (hx : Opd T0 fr x (B a)) (hy : Opd T0 fr y (B b)) : AY P T0 ops o fr M (B (!(a == b))) := ay_of fun w0 G F a' w hs hf => by
  have h1 := (hx.use (o := o) (ops := ops) (by simp [ho, Op.operands]) hs.tab hf).eq
  have h2 := (hy.use (o := o) (ops := ops) (by simp [ho, Op.operands]) hs.tab hf).eq
  have h3 : (eqGuard .neq t x y (.bool a) (.bool b)).run P w = .ok () w := by unfold eqGuard; split <;> rfl
  have h4 : (Op.equal t (.bool a) (.bool b)).run P w = .ok (a == b) w := run_equalIn_bool w 9999 t a b hu
  have h5 : (binOp .neq t (.bool a) (.bool b)).run P w = .ok (.bool (!(a == b))) w := by
    simp only [binOp, Sem.run_bind, h4, Result.andThen_ok, Sem.run_pure]
  refine ⟨_, ?_, Rep.va _ _⟩
  simp only [execOp, ho, h1, h2, Sem.run_bind, h3, h5, Result.andThen_ok, Sem.run_pure]
/-! ### strings -/
def S (l : List UInt8) : AV := vA (.string ⟨l.toArray⟩)
theorem ay_str {op : BinOp} {t t' : TypeId} {x y : Operand} {a b : ByteArray} {r : Value} (ho : o.op = .binOp op t x y t') (hx : Opd T0 fr x (vA (.string a))) (hy : Opd T0 fr y (vA (.string b)))
    (hr : ∀ w, (Op.stringOp op a b).run P w = .ok r w) : AY P T0 ops o fr M (vA r) := ay_of fun w0 G F a' w hs hf => by
  have h1 := (hx.use (o := o) (ops := ops) (by simp [ho, Op.operands]) hs.tab hf).eq
  have h2 := (hy.use (o := o) (ops := ops) (by simp [ho, Op.operands]) hs.tab hf).eq
  have h3 : (eqGuard op t x y (.string a) (.string b)).run P w = .ok () w := by unfold eqGuard; split <;> rfl
  have h4 : ∀ op, binOp op t (.string a) (.string b) = Op.stringOp op a b := fun op => by cases op <;> rfl
  exact ⟨_, by simp [execOp, ho, h1, h2, h3, h4, hr], Rep.va _ _⟩

/-! ### tuples -/
theorem ay_extract {x : Operand} {i : Nat} {l : List AV} {A : AV} (ho : o.op = .extract x i) (hx : Opd T0 fr x (tupA l)) (hi : l[i]? = some A) : AY P T0 ops o fr M A := ay_of fun w0 G F a w hs hf => by
  obtain ⟨us, h1, h2⟩ := (hx.use (o := o) (ops := ops) (by simp [ho, Op.operands]) hs.tab hf).tup
  obtain ⟨u, h3, h4⟩ := h2.get i hi
  exact ⟨u, by simp [execOp, ho, h1, Instr.extract, h3], h4⟩

/-! ### calls of Go functions -/
def OpdAll (T0 : Gh) (fr : Fr) : List Operand → List AV → Prop
  | [], [] => True
  | x :: xs, A :: l => Opd T0 fr x A ∧ OpdAll T0 fr xs l
  | _, _ => False
theorem OpdAll.use {G : Gh} {a : Act} (ht : Gh.le T0 G) : ∀ {xs l}, OpdAll T0 fr xs l → (∀ x ∈ xs, x ∈ o.op.operands) → frOn G (reads ops o) fr a.tmps → AllRep G l (xs.map a.eval)
  | [], [], _, _, _ => trivial
  | x :: xs, A :: l, h, hx, hf => ⟨h.1.use (hx x (by simp)) ht hf, OpdAll.use ht h.2 (fun y hy => hx y (by simp [hy])) hf⟩
theorem opds0 : OpdAll T0 fr [] [] := trivial
theorem opds1 {x : Operand} {A : AV} {xs : List Operand} {l : List AV} (h : Opd T0 fr x A) (r : OpdAll T0 fr xs l) : OpdAll T0 fr (x :: xs) (A :: l) := ⟨h, r⟩
theorem run_callFunc {f : FuncId} (h : Callable P f) (args : Array Value) (w : World) : (callFunc f args).run P w = .ok (.enter f args) w := by
  obtain ⟨fn, h1, h2, h3⟩ := h
  have h4 : fn.name ≠ "runtime.NumGoroutine" := by simpa using h2
  have h5 : fn.body ≠ none := fun e => by rw [e] at h3; cases h3
  simp [callFunc, h1, h4, h5]
theorem ao_call {f : FuncId} {args : Array Operand} {ts : Array TypeId} {As : List AV} {M1 : List Own} {M2 : List Own} {K : AV → List Own → Prop} {KP : List PanicEntry → List Own → Prop}
    (ho : o.op = .call { callee := .value (.func f), args := args, argTypes := ts }) (ha : OpdAll T0 fr args.toList As) (c : AF P T0 f As M1 K KP) (hM : M = M1 ++ M2) :
    AO P T0 ops o fr M (fun A M' => ∃ M1', M' = M1' ++ M2 ∧ K A M1') (fun ch M' => ∃ M1', M' = M1' ++ M2 ∧ KP ch M1') := fun w0 G F a w next Qc hs hf hk hp => by
  subst hM
  have hr : AllRep G As (args.toList.map a.eval) := ha.use (o := o) (ops := ops) hs.tab (fun x hx => by simp [ho, Op.operands, Call.operands]; exact .inr (by simpa using hx)) hf
  have hrun : (execOp a.eval o).run P w = .ok (.enter f (args.toList.map a.eval).toArray) w := by
    have e : Array.map a.eval args = (args.toList.map a.eval).toArray := by rw [← Array.toList_map, Array.toArray_toList]
    simp only [execOp, ho, resolve]
    simp [Deferred.ofValue, Act.eval, invoke, run_callFunc c.able, e]
  unfold Oper.wp; rw [hrun, Oper.upon_enter]
  rw [List.append_assoc] at hs
  refine (c.calls w0 G (M2 ++ F) w _ hs hr).mono ?_
  rintro e w' (⟨u, A, M', G', rfl, q, hu, hl, hs'⟩ | ⟨ch, M', G', rfl, q, hl, hs'⟩)
  · exact hk A (M' ++ M2) G' u w' ⟨M', rfl, q⟩ hl (by rw [List.append_assoc]; exact hs') hu
  · exact hp ch (M' ++ M2) G' w' ⟨M', rfl, q⟩ hl (by rw [List.append_assoc]; exact hs')
/-- a pure one, met quietly -/
theorem ay_call {M : List Own} {f : FuncId} {args : Array Operand} {ts : Array TypeId} {As : List AV} {A : AV} (ho : o.op = .call { callee := .value (.func f), args := args, argTypes := ts }) (ha : OpdAll T0 fr args.toList As) (c : AP P T0 f As A) : AY P T0 ops o fr M A := fun w0 G F a w next Qc hs hf hk _ =>
  ao_call (M := M) (M1 := []) ho ha c (M2 := M) rfl w0 G F a w next Qc hs hf (fun A' M' G' u w' h hl hs' hu => by
    obtain ⟨M1, h1, h2, h3⟩ := h
    subst h3; subst h1
    exact hk A _ G' u w' ⟨rfl, rfl⟩ hl hs' (h2 _ _ hu)) (fun _ _ _ _ ⟨_, _, f⟩ => f.elim)
/-- a function value whose captured things are known -/
theorem ao_callv {x : Operand} {f : FuncId} {caps : List Value} {args : Array Operand} {ts : Array TypeId} {As Cs : List AV} {M1 : List Own} {M2 : List Own} {K : AV → List Own → Prop} {KP : List PanicEntry → List Own → Prop}
    (ho : o.op = .call { callee := .value x, args := args, argTypes := ts }) (hx : Opd T0 fr x (vA (.func (.func f) #[] caps.toArray))) (hcs : ∀ G, AllRep G Cs caps) (ha : OpdAll T0 fr args.toList As) (c : AF P T0 f (As ++ Cs) M1 K KP) (hM : M = M1 ++ M2) :
    AO P T0 ops o fr M (fun A M' => ∃ M1', M' = M1' ++ M2 ∧ K A M1') (fun ch M' => ∃ M1', M' = M1' ++ M2 ∧ KP ch M1') := fun w0 G F a w next Qc hs hf hk hp => by
  subst hM
  have hr : AllRep G As (args.toList.map a.eval) := ha.use (o := o) (ops := ops) hs.tab (fun x hx => by simp [ho, Op.operands, Call.operands]; exact .inr (by simpa using hx)) hf
  have h1 := (hx.use (o := o) (ops := ops) (by simp [ho, Op.operands, Call.operands]) hs.tab hf).eq
  have hrun : (execOp a.eval o).run P w = .ok (.enter f (args.toList.map a.eval ++ caps).toArray) w := by
    have e : Array.map a.eval args ++ caps.toArray = (args.toList.map a.eval ++ caps).toArray := by rw [← Array.toList_map, ← List.toArray_appendList, Array.toArray_toList]; simp
    simp only [execOp, ho, resolve]
    simp [Deferred.ofValue, h1, invoke, run_callFunc c.able, e]
  unfold Oper.wp; rw [hrun, Oper.upon_enter]
  rw [List.append_assoc] at hs
  refine (c.calls w0 G (M2 ++ F) w _ hs (hr.append (hcs G))).mono ?_
  rintro e w' (⟨u, A, M', G', rfl, q, hu, hl, hs'⟩ | ⟨ch, M', G', rfl, q, hl, hs'⟩)
  · exact hk A (M' ++ M2) G' u w' ⟨M', rfl, q⟩ hl (by rw [List.append_assoc]; exact hs') hu
  · exact hp ch (M' ++ M2) G' w' ⟨M', rfl, q⟩ hl (by rw [List.append_assoc]; exact hs')
end
end Go.Proofs.YtplabpjkkcillaaDoor
