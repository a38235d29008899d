/- The logic's steps that write, told by what is owned and not by its place; each step as one rule. No condition. -/
import Derived.Test.YtplabpjkkcillaaDoorAG
namespace Go.Proofs.YtplabpjkkcillaaDoor
set_option linter.unusedSimpArgs false
set_option linter.unusedVariables false
set_option linter.unusedSectionVars false
set_option maxHeartbeats 4000000
open Go Go.RowKit

/-- m is one of them; f puts another one in its place -/
inductive UpdF (m : Own) : List Own → (Own → List Own) → Prop
  | here {s : List Own} : UpdF m (m :: s) (fun m' => m' :: s)
  | next {a : Own} {s : List Own} {f : Own → List Own} (h : UpdF m s f) : UpdF m (a :: s) (fun m' => a :: f m')
theorem UpdF.spec {m : Own} {M : List Own} {f : Own → List Own} (h : UpdF m M f) : ∃ i, M[i]? = some m ∧ ∀ m', f m' = M.set i m' := by
  induction h with
  | here => exact ⟨0, rfl, fun _ => rfl⟩
  | next h ih => obtain ⟨i, h1, h2⟩ := ih; exact ⟨i + 1, by simpa using h1, fun m' => congrArg (List.cons _) (h2 m')⟩
/-- n cells from the place off on -/
inductive SubC : List AV → Nat → Nat → List AV → Prop
  | nil {s : List AV} : SubC s 0 0 []
  | here {a : AV} {s r : List AV} {n : Nat} (h : SubC s 0 n r) : SubC (a :: s) 0 (n + 1) (a :: r)
  | next {a : AV} {s r : List AV} {off n : Nat} (h : SubC s off n r) : SubC (a :: s) (off + 1) n r
theorem SubC.spec {s r : List AV} {off n : Nat} (h : SubC s off n r) : (s.drop off).take n = r ∧ off + n ≤ s.length ∧ (s.take (off + n)).drop off = r := by
  induction h with
  | nil => simp
  | here h ih => obtain ⟨h1, h2, h3⟩ := ih; refine ⟨by simpa using h1, by simp only [List.length_cons]; omega, ?_⟩; simp at h3 ⊢; exact h3
  | next h ih => obtain ⟨h1, h2, h3⟩ := ih; refine ⟨by simpa using h1, by simp only [List.length_cons]; omega, ?_⟩
                 rw [Nat.add_right_comm]; simpa using h3
/-- m is one of them, and these are the others -/
inductive Pick (m : Own) : List Own → List Own → Prop
  | here {s : List Own} : Pick m (m :: s) s
  | next {a : Own} {s r : List Own} (h : Pick m s r) : Pick m (a :: s) (a :: r)
theorem Pick.spec {m : Own} {M M' : List Own} (h : Pick m M M') : ∃ i, M[i]? = some m ∧ M' = M.eraseIdx i := by
  induction h with
  | here => exact ⟨0, rfl, rfl⟩
  | next h ih => obtain ⟨i, h1, h2⟩ := ih; exact ⟨i + 1, by simpa using h1, by rw [h2]; rfl⟩
theorem Pick.perm {m : Own} {M M' : List Own} (h : Pick m M M') : List.Perm (m :: M') M := by
  induction h with
  | here => exact List.Perm.refl _
  | next h ih => exact (List.Perm.swap _ _ _).trans (ih.cons _)

section
variable {P : Program} {T0 : Gh} {N : Fz} {Q : Post} {fr : Fr} {M M' : List Own} {ops : Array Oper} {o : Oper} {rest : List Oper} {x0 : Nat}

/-! ### reading -/
theorem mk_len {α : Type} {T : Ty α} {t e e' : TypeId} {l : List α} {u : Value} (hu : P.underlying t = some (.slice e')) (hM : rowO T e u l ∈ M) : LnK P T0 M t (vA u) (I l.length) := let ⟨i, h⟩ := List.getElem?_of_mem hM; nk_row i hu h
theorem mk_ix {α : Type} {T : Ty α} {t e : TypeId} {l : List α} {d : α} {by' n : Nat} {av : α → AV} {u : Value} (hu : P.underlying t = some (.slice e)) (he : El P T e d by' av) (hM : rowO T e u l ∈ M) (hn : n < l.length) : IxK P T0 M t (vA u) n (rpA u (n * T.k)) := let ⟨i, h⟩ := List.getElem?_of_mem hM; ik_row i hu he h hn
theorem mk_v1 {t e : TypeId} {b off : Nat} {cells : List AV} {A : AV} (ha : ∀ w, (isAgg t).run P w = .ok false w) (hM : varO b e cells ∈ M) (hA : cells[off]? = some A) : LdK P T0 M t (vA (.pointer (some ⟨b, off, none⟩))) A := let ⟨i, h⟩ := List.getElem?_of_mem hM; lk_v1 i ha h hA
theorem mk_vn {t e : TypeId} {b off n : Nat} {cells l : List AV} (ha : ∀ w, (isAgg t).run P w = .ok true w) (hz : ∀ w, (sizeOf t).run P w = .ok n w) (hM : varO b e cells ∈ M) (hl : SubC cells off n l) : LdK P T0 M t (vA (.pointer (some ⟨b, off, none⟩))) (aggA l) := by
  obtain ⟨i, h⟩ := List.getElem?_of_mem hM
  obtain ⟨h1, h2, _⟩ := hl.spec
  rw [← h1]
  exact lk_vn i ha hz h (Nat.ble_eq_true_of_le h2)
theorem mdk_n {t : TypeId} {i off sz : Nat} {l r : List AV} {ft : TypeId} (hu : Fld P t i off ft) (ha : ∀ w, (isAgg ft).run P w = .ok true w) (hsize : ∀ w, (sizeOf ft).run P w = .ok sz w) (hl : SubC l off sz r) : FdK P T0 M t i l (aggA r) := by
  rw [← hl.spec.2.2]; exact dk_n hu ha hsize
theorem mk_r {α : Type} {T : Ty α} {e : TypeId} {l : List α} {d z : α} {by' : Nat} {av : α → AV} {n : Nat} {u : Value} (he : El P T e d by' av) (hM : rowO T e u l ∈ M) (hz : l[n]? = some z) : LdK P T0 M e (rpA u (n * T.k)) (av z) := let ⟨i, h⟩ := List.getElem?_of_mem hM; lk_r i he h hz
theorem mk_r1 {α : Type} {T : Ty α} {t e : TypeId} {l : List α} {off n : Nat} {z : α} {u v : Value} (ha : ∀ w, (isAgg t).run P w = .ok false w) (hM : rowO T e u l ∈ M) (hz : l[n]? = some z) (hv : (T.enc z)[off]? = some v) : LdK P T0 M t (rpA u (n * T.k + off)) (vA v) := let ⟨i, h⟩ := List.getElem?_of_mem hM; lk_r1 i ha h hz hv
theorem my_slice {α : Type} {T : Ty α} {t e : TypeId} {x y z : Operand} {l : List α} {d : α} {by' a b : Nat} {k k' : IntKind} {av : α → AV} {u : Value} (ho : o.op = .slice t x (some y) (some z) none) (hu : P.underlying t = some (.slice e)) (he : El P T e d by' av) (hx : Opd T0 fr x (vA u)) (hM : rowO T e u l ∈ M) (hy : OpdN T0 fr y k a) (hz : OpdN T0 fr z k' b) (h1 : a < b) (h2 : b ≤ l.length) :
    AY P T0 ops o fr M (rsA T.k u a (b - a)) := let ⟨i, h⟩ := List.getElem?_of_mem hM; ay_slice_row i ho hu he hx h hy hz h1 h2
theorem resM1 {fn : Func} {s t e : Nat} {b n : Nat} {cells : List AV} (h : fn.results = #[.cell s t]) (hs : fr.get s = some (vA (.pointer (some ⟨b, 0, none⟩)))) (hM : varO b e cells ∈ M) (ha : ∀ w, (isAgg t).run P w = .ok true w) (hz : ∀ w, (sizeOf t).run P w = .ok n w) (hl : cells.length = n) : ResA P T0 fn fr M (aggA cells) := let ⟨i, k⟩ := List.getElem?_of_mem hM; resC1 i h hs k ha (by rw [hl]; exact hz)
theorem resM2 {fn : Func} {s t s' e : Nat} {b n : Nat} {cells : List AV} {A : AV} (h : fn.results = #[.cell s t, .tmp s']) (hs : fr.get s = some (vA (.pointer (some ⟨b, 0, none⟩)))) (hs' : fr.get s' = some A) (hM : varO b e cells ∈ M) (ha : ∀ w, (isAgg t).run P w = .ok true w) (hz : ∀ w, (sizeOf t).run P w = .ok n w) (hl : cells.length = n) : ResA P T0 fn fr M (tupA [aggA cells, A]) := let ⟨i, k⟩ := List.getElem?_of_mem hM; resC2 i h hs hs' k ha (by rw [hl]; exact hz)
theorem ent_perm2 (p : List.Perm M' M) : Ent T0 fr M fr M' := fun _ G F _ _ s r => ⟨G, Gh.le.refl _, s.perm (p.append_right F), r⟩
theorem al_rowc {α : Type} {T : Ty α} {e : TypeId} {u : Value} {l : List α} {ol : List Oper} (hM : rowO T e u l ∈ M) (h : u.cells = #[u] → u.oneCell' = true → AL P T0 N false ops Q ol fr M) : AL P T0 N false ops Q ol fr M := by
  have e : ∀ p : u.cells = #[u] ∧ u.oneCell' = true, AL P T0 N false ops Q ol fr M := fun p => h p.1 p.2
  simp only [AL, Bool.false_eq_true, if_false] at e ⊢
  exact fun w0 G F a w hc => e (row_one (hc.st.own _ (List.mem_append_left F hM))) w0 G F a w hc
theorem aw_rowc {α : Type} {T : Ty α} {e : TypeId} {u : Value} {l : List α} {c : Code} (hM : rowO T e u l ∈ M) (h : u.cells = #[u] → u.oneCell' = true → AW P T0 N c Q fr M) : AW P T0 N c Q fr M := fun w0 G F a w hc => by
  have h1 := row_one (hc.st.own _ (List.mem_append_left F hM))
  exact h h1.1 h1.2 w0 G F a w hc

/-! ### writing -/
theorem al_store_var {t e : TypeId} {x y : Operand} {b off n : Nat} {cells cells' l : List AV} {A : AV} {f : Own → List Own} (hg : o.guard = none) (hd : o.dst = none) (ho : o.op = .store t x y) (hz : ∀ w, (sizeOf t).run P w = .ok n w) (hx : Opd T0 fr x (vA (.pointer (some ⟨b, off, none⟩)))) (hy : Opd T0 fr y A) (hc : CellsA A l) (hl : l.length = n) (h1 : OnesA l) (hU : UpdF (varO b e cells) M f) (hs : SetC cells off l cells')
    (h : AL P T0 N false ops Q rest fr (f (varO b e cells'))) : AL P T0 N false ops Q (o :: rest) fr M := by
  obtain ⟨i, k1, k2⟩ := hU.spec
  obtain ⟨k3, k4⟩ := hs.spec
  subst hl; subst k4
  refine al_en hg (ao_store_var i ho hz k1 hx hy hc h1 k3) hd (fun _ _ h => h.elim) ?_
  rintro _ _ rfl
  rw [k2] at h; exact h
theorem al_store_row {α : Type} {T : Ty α} {e : TypeId} {x y : Operand} {l : List α} {d z : α} {by' : Nat} {av : α → AV} {n : Nat} {u : Value} {A : AV} {f : Own → List Own} (hg : o.guard = none) (hd : o.dst = none) (ho : o.op = .store e x y) (he : El P T e d by' av) (hx : Opd T0 fr x (rpA u (n * T.k))) (hy : Opd T0 fr y A) (hU : UpdF (rowO T e u l) M f) (hn : n < l.length) (hc : CellsA A ((T.enc z).map vA))
    (h : AL P T0 N false ops Q rest fr (f (rowO T e u (l.set n z)))) : AL P T0 N false ops Q (o :: rest) fr M := by
  obtain ⟨i, k1, k2⟩ := hU.spec
  refine al_en hg (ao_store_row i ho he k1 hx hn hy hc) hd (fun _ _ h => h.elim) ?_
  rintro _ _ rfl
  rw [k2] at h; exact h
theorem al_append {α : Type} {T : Ty α} {t e : TypeId} {x y : Operand} {l m : List α} {d : α} {by' : Nat} {av : α → AV} {u : Value} {f : Own → List Own} (hg : o.guard = none) (hd : o.dst = some x0) (hN : Nat.blt x0 N.n = true) (ho : o.op = .call { callee := .builtin .append, args := #[x, y], argTypes := #[t, t] }) (hu : P.underlying t = some (.slice e)) (he : El P T e d by' av) (hx : Opd T0 fr x (vA u)) (hy : Opd T0 fr y (slA T m))
    (hU : UpdF (rowO T e u l) M f) (hn : (l.length + m.length) * by' ≤ 140737488355328) (hm : l.length + m.length ≤ maxLen) (h : ∀ u', u'.cells = #[u'] → u'.oneCell' = true → AL P T0 N false ops Q rest ((x0, vA u') :: fr) (f (rowO T e u' (l ++ m)))) : AL P T0 N false ops Q (o :: rest) fr M := by
  obtain ⟨i, k1, k2⟩ := hU.spec
  refine al_es hg (ao_append i ho hu he hx k1 hy hn hm) hd hN (fun _ _ h => h.elim) ?_
  rintro _ _ ⟨u', rfl, rfl⟩
  have hi : i < M.length := (List.getElem?_eq_some_iff.1 k1).1
  refine al_rowc (T := T) (e := e) (u := u') (l := l ++ m) (List.mem_of_getElem? (i := i) (by rw [List.getElem?_set]; simp [hi])) fun a b => ?_
  have := h u' a b
  rw [k2] at this; exact this
theorem al_make {α : Type} {T : Ty α} {t e : TypeId} {x y : Operand} {n : Nat} {d : α} {by' : Nat} {av : α → AV} {k k' : IntKind} (hg : o.guard = none) (hd : o.dst = some x0) (hN : Nat.blt x0 N.n = true) (ho : o.op = .makeSlice t x y) (hu : P.underlying t = some (.slice e)) (he : El P T e d by' av) (hx : OpdN T0 fr x k n) (hy : OpdN T0 fr y k' n)
    (hn : by' * n ≤ 140737488355328) (hm : n ≤ maxLen) (h : ∀ u', u'.cells = #[u'] → u'.oneCell' = true → AL P T0 N false ops Q rest ((x0, vA u') :: fr) (rowO T e u' (List.replicate n d) :: M)) : AL P T0 N false ops Q (o :: rest) fr M := by
  refine al_es hg (ao_make ho hu he hx hy hn hm) hd hN (fun _ _ h => h.elim) ?_
  rintro _ _ ⟨u', rfl, rfl⟩
  exact al_rowc (List.Mem.head _) fun a b => h u' a b
theorem al_empty {α : Type} {T : Ty α} {t e : TypeId} {d : α} {by' : Nat} {av : α → AV} (hg : o.guard = none) (hd : o.dst = some x0) (hN : Nat.blt x0 N.n = true) (ho : o.op = .buildSlice t 0 #[]) (hu : P.underlying t = some (.slice e)) (he : El P T e d by' av) (h : ∀ u', u'.cells = #[u'] → u'.oneCell' = true → AL P T0 N false ops Q rest ((x0, vA u') :: fr) (rowO T e u' [] :: M)) : AL P T0 N false ops Q (o :: rest) fr M := by
  refine al_es hg (ao_empty ho hu he) hd hN (fun _ _ h => h.elim) ?_
  rintro _ _ ⟨u', rfl, rfl⟩
  exact al_rowc (List.Mem.head _) fun a b => h u' a b
theorem al_alloc {e : TypeId} {zs : List Value} {z : Value} {Z : List AV} (hg : o.guard = none) (hd : o.dst = some x0) (hN : Nat.blt x0 N.n = true) (ho : o.op = .alloc e) (hz : (P.info? e).map (·.zero) = some (some z) ∧ z.cells.toList = zs ∧ Z = zs.map vA) (h : ∀ b, AL P T0 N false ops Q rest ((x0, vA (.pointer (some ⟨b, 0, none⟩))) :: fr) (varO b e Z :: M)) : AL P T0 N false ops Q (o :: rest) fr M := by
  obtain ⟨h1, h2, rfl⟩ := hz
  refine al_es hg (ao_alloc ho h1 h2) hd hN (fun _ _ h => h.elim) ?_
  rintro _ _ ⟨b, rfl, rfl⟩
  exact h b
theorem al_box {e : TypeId} {x : Operand} {A : AV} {l : List AV} (hg : o.guard = none) (hd : o.dst = some x0) (hN : Nat.blt x0 N.n = true) (ho : o.op = .box e x) (hx : Opd T0 fr x A) (hc : CellsA A l) (h : ∀ b, AL P T0 N false ops Q rest ((x0, vA (.pointer (some ⟨b, 0, none⟩))) :: fr) (varO b e l :: M)) : AL P T0 N false ops Q (o :: rest) fr M := by
  refine al_es hg (ao_box ho hx hc) hd hN (fun _ _ h => h.elim) ?_
  rintro _ _ ⟨b, rfl, rfl⟩
  exact h b
theorem al_copy_row {α : Type} {T : Ty α} {t e : TypeId} {x y : Operand} {l m : List α} {d : α} {by' : Nat} {av : α → AV} {u : Value} {f : Own → List Own} (hg : o.guard = none) (hd : o.dst = some x0) (hN : Nat.blt x0 N.n = true) (ho : o.op = .call { callee := .builtin .copy, args := #[x, y], argTypes := #[t, t] }) (hu : P.underlying t = some (.slice e)) (he : El P T e d by' av) (hx : Opd T0 fr x (vA u)) (hy : Opd T0 fr y (slA T m)) (hU : UpdF (rowO T e u l) M f)
    (h : AL P T0 N false ops Q rest ((x0, I (m.take l.length).length) :: fr) (f (rowO T e u (ovr l 0 (m.take l.length))))) : AL P T0 N false ops Q (o :: rest) fr M := by
  obtain ⟨i, k1, k2⟩ := hU.spec
  refine al_es hg (ao_copy_row i ho hu he hx k1 hy) hd hN (fun _ _ h => h.elim) ?_
  rintro _ _ ⟨rfl, rfl⟩
  rw [k2] at h; exact h
theorem al_copy_sub {α : Type} {T : Ty α} {t e : TypeId} {x y : Operand} {l m : List α} {d : α} {by' off n : Nat} {av : α → AV} {u : Value} {f : Own → List Own} (hg : o.guard = none) (hd : o.dst = some x0) (hN : Nat.blt x0 N.n = true) (ho : o.op = .call { callee := .builtin .copy, args := #[x, y], argTypes := #[t, t] }) (hu : P.underlying t = some (.slice e)) (he : El P T e d by' av) (hx : Opd T0 fr x (rsA T.k u off n)) (hy : Opd T0 fr y (slA T m)) (hU : UpdF (rowO T e u l) M f) (hn : off + n ≤ l.length)
    (h : AL P T0 N false ops Q rest ((x0, I (m.take n).length) :: fr) (f (rowO T e u (ovr l off (m.take n))))) : AL P T0 N false ops Q (o :: rest) fr M := by
  obtain ⟨i, k1, k2⟩ := hU.spec
  refine al_es hg (ao_copy_sub i ho hu he hx k1 hn hy) hd hN (fun _ _ h => h.elim) ?_
  rintro _ _ ⟨rfl, rfl⟩
  rw [k2] at h; exact h
/-- a call whose contract owns the first m ¦ owns nothing beforehand -/
theorem al_call1 {f : FuncId} {args : Array Operand} {ts : Array TypeId} {As : List AV} {m : Own} {K : AV → List Own → Prop} (hg : o.guard = none) (hd : o.dst = some x0) (hN : Nat.blt x0 N.n = true) (ho : o.op = .call { callee := .value (.func f), args := args, argTypes := ts }) (ha : OpdAll T0 fr args.toList As) (c : AF P T0 f As [m] K) (hM : Pick m M M')
    (h : ∀ A M1, K A M1 → AL P T0 N false ops Q rest ((x0, A) :: fr) (M1 ++ M')) : AL P T0 N false ops Q (o :: rest) fr M := by
  refine al_ent (ent_perm2 hM.perm) ?_
  refine al_es hg (ao_call ho ha c rfl) hd hN (fun _ _ h => by obtain ⟨_, _, h⟩ := h; exact h.elim) ?_
  rintro A _ ⟨M1, rfl, k⟩
  exact h A M1 k
theorem al_call1n {f : FuncId} {args : Array Operand} {ts : Array TypeId} {As : List AV} {m : Own} {K : AV → List Own → Prop} (hg : o.guard = none) (hd : o.dst = none) (ho : o.op = .call { callee := .value (.func f), args := args, argTypes := ts }) (ha : OpdAll T0 fr args.toList As) (c : AF P T0 f As [m] K) (hM : Pick m M M')
    (h : ∀ A M1, K A M1 → AL P T0 N false ops Q rest fr (M1 ++ M')) : AL P T0 N false ops Q (o :: rest) fr M := by
  refine al_ent (ent_perm2 hM.perm) ?_
  refine al_en hg (ao_call ho ha c rfl) hd (fun _ _ h => by obtain ⟨_, _, h⟩ := h; exact h.elim) ?_
  rintro A _ ⟨M1, rfl, k⟩
  exact h A M1 k
theorem al_call0 {f : FuncId} {args : Array Operand} {ts : Array TypeId} {As : List AV} {K : AV → List Own → Prop} (hg : o.guard = none) (hd : o.dst = some x0) (hN : Nat.blt x0 N.n = true) (ho : o.op = .call { callee := .value (.func f), args := args, argTypes := ts }) (ha : OpdAll T0 fr args.toList As) (c : AF P T0 f As [] K)
    (h : ∀ A M1, K A M1 → AL P T0 N false ops Q rest ((x0, A) :: fr) (M1 ++ M)) : AL P T0 N false ops Q (o :: rest) fr M := by
  refine al_es hg (ao_call (M1 := []) ho ha c rfl) hd hN (fun _ _ h => by obtain ⟨_, _, h⟩ := h; exact h.elim) ?_
  rintro A _ ⟨M1, rfl, k⟩
  exact h A M1 k
/-- freezing, told by what is frozen -/
theorem aw_fz {α : Type} {T : Ty α} {e : TypeId} {u : Value} {l : List α} {c : Code} {fr' : Fr} {M1 M2 : List Own} (hM : Pick (rowO T e u l) M M1) (hz : FzFr u T l fr fr') (hm : FzM u T l M1 M2) (h : AW P T0 N c Q fr' M2) : AW P T0 N c Q fr M := by
  obtain ⟨i, h1, h2⟩ := hM.spec
  subst h2
  exact aw_freezeM i h1 hz hm h
theorem al_fz {α : Type} {T : Ty α} {e : TypeId} {u : Value} {l : List α} {ol : List Oper} {fr' : Fr} {M1 M2 : List Own} (hM : Pick (rowO T e u l) M M1) (hz : FzFr u T l fr fr') (hm : FzM u T l M1 M2) (h : AL P T0 N false ops Q ol fr' M2) : AL P T0 N false ops Q ol fr M := by
  obtain ⟨i, h1, h2⟩ := hM.spec
  subst h2
  exact al_freezeM i h1 hz hm h
/-- a loop: of what is owned at a round's end, just this is kept -/
theorem aw_fl {c : Code} {σ : Type} (fs : σ → Fr) (ms : σ → List Own) (inv : σ → Prop) (μ : σ → Nat) (s0 : σ) (h0 : inv s0) (hf0 : Weak fr (fs s0)) (hm0 : List.Sublist (ms s0) M)
    (round : ∀ s, inv s → AW P T0 N c (thenA (fun fr' M' => ∃ s', inv s' ∧ μ s' < μ s ∧ Weak fr' (fs s') ∧ List.Sublist (ms s') M') Q) (fs s) (ms s)) : AW P T0 N (.loop c) Q fr M := by
  refine aw_loop (fun n fr M => ∃ s, inv s ∧ n = μ s ∧ Weak fr (fs s) ∧ List.Sublist (ms s) M) (μ s0) ⟨s0, h0, rfl, hf0, hm0⟩ ?_
  rintro n fr M ⟨s, h1, rfl, h2, h3⟩
  refine aw_ent (ent_drop h3) (aw_weak h2 (AW.mono (round s h1) fun e fr' M' q => ?_))
  cases e with
  | normal => obtain ⟨s', a1, a2, a3, a4⟩ := q; exact ⟨μ s', a2, s', a1, rfl, a3, a4⟩
  | _ => exact q
theorem aw_fl2 {c : Code} {σ τ : Type} (fs : σ → τ → Fr) (ms : σ → τ → List Own) (inv : σ → τ → Prop) (μ : σ → τ → Nat) (s0 : σ) (t0 : τ) (h0 : inv s0 t0) (hf0 : Weak fr (fs s0 t0)) (hm0 : List.Sublist (ms s0 t0) M)
    (round : ∀ s t, inv s t → AW P T0 N c (thenA (fun fr' M' => ∃ s' t', inv s' t' ∧ μ s' t' < μ s t ∧ Weak fr' (fs s' t') ∧ List.Sublist (ms s' t') M') Q) (fs s t) (ms s t)) : AW P T0 N (.loop c) Q fr M :=
  aw_fl (fun x : σ × τ => fs x.1 x.2) (fun x => ms x.1 x.2) (fun x => inv x.1 x.2) (fun x => μ x.1 x.2) (s0, t0) h0 hf0 hm0 fun x hx => AW.mono (round x.1 x.2 hx) fun e fr' M' q => by
    cases e with
    | normal => obtain ⟨s', t', a⟩ := q; exact ⟨(s', t'), a⟩
    | _ => exact q
/-- a contract that hands back a row of its own, within a value: frozen -/
theorem AF.frz1 {α : Type} {T : Ty α} {e : TypeId} {f : FuncId} {As : List AV} {l : List α} {F : Value → AV} {A' : AV} {M0 : List Own} (h : AF P T0 f As M0 (fun A M' => ∃ u, A = F u ∧ M' = [rowO T e u l])) (hz : ∀ u, FzA u T l (F u) A') : AF P T0 f As M0 (fun A M' => Sub A A' ∧ M' = []) :=
  h.freeze fun A M' q => by
    obtain ⟨u, rfl, rfl⟩ := q
    exact ⟨α, T, e, u, l, 0, A', rfl, hz u, Sub.refl _, rfl⟩
end
end Go.Proofs.YtplabpjkkcillaaDoor
