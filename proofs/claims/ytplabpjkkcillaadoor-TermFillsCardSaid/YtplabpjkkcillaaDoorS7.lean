/- Layer 6 (scan): the deferred function of the program's Next: it recovers. No condition. -/
import Derived.Test.YtplabpjkkcillaaDoorS6
import Derived.Recover
import Derived.Defers
namespace Go.Proofs.YtplabpjkkcillaaDoor
set_option linter.unusedSimpArgs false
set_option linter.unusedVariables false
set_option linter.unusedSectionVars false
set_option maxHeartbeats 4000000
open Go Go.RowKit
set_option maxRecDepth 100000
section
variable {P : Program} {T0 : Gh} {N : Fz} {Q : Post} {fr : Fr} {M : List Own} {ops : Array Oper} {o : Oper}
theorem frRel_nil {G : Gh} {t : Array Value} : frRel G [] t := fun s A _ e => by simp [Fr.get] at e
theorem frRel_cons {G : Gh} {fr : Fr} {t : Array Value} {s : Nat} {A : AV} {u : Value} (h : t[s]? = some u) (hr : Rep G A u) (k : frRel G fr t) : frRel G ((s, A) :: fr) t := fun x B _ e => by
  by_cases hx : x = s
  · subst hx; rw [get_cons_same] at e; obtain rfl := Option.some.inj e; exact ⟨u, h, hr⟩
  · rw [get_cons_ne hx] at e; exact k x B trivial e
theorem wpS_AW {c : Code} {a : Act} {cs : List Frame} {w w0 : World} {G : Gh} {F : List Own} {R : Exit → Act → List Frame → World → Prop} (h : AW P T0 N c Q fr M) (hc : Con T0 N w0 G F fr M a w) (hq : ∀ e a' w', cQ T0 N w0 G F Q e a' w' → R e a' cs w') : c.wpS P R a cs w := wpS_of_wp (wp_mono (h w0 G F a w hc) hq)
theorem wp_AW {c : Code} {a : Act} {w w0 : World} {G : Gh} {F : List Own} {R : Exit → Act → World → Prop} (h : AW P T0 N c Q fr M) (hc : Con T0 N w0 G F fr M a w) (hq : ∀ e a' w', cQ T0 N w0 G F Q e a' w' → R e a' w') : c.wp P R a w := wp_mono (h w0 G F a w hc) hq
theorem wp_via {c next : Code} {a : Act} {w w0 : World} {G : Gh} {F : List Own} {R : Exit → Act → World → Prop} (KK : Fr → List Own → Prop) (h : AW P T0 N c (thenA KK fun _ _ _ => False) fr M) (hc : Con T0 N w0 G F fr M a w)
    (hk : ∀ fr' M' G' a' w', KK fr' M' → Gh.le G G' → Con T0 N w0 G' F fr' M' a' w' → next.wp P R a' w') : (Code.seq c next).wp P R a w :=
  wp_seq (wp_mono (h w0 G F a w hc) fun e a' w' q => by
    obtain ⟨fr', M', G', q1, q2, q3⟩ := q
    cases e with
    | normal => exact hk fr' M' G' a' w' q1 q2 q3
    | _ => exact q1.elim)
theorem Con.weak {fr' : Fr} {M' : List Own} {a : Act} {w w0 : World} {G : Gh} {F : List Own} (h : Con T0 N w0 G F fr M a w) (hw : Weak fr fr') (hs : List.Sublist M' M) : Con T0 N w0 G F fr' M' a w :=
  ⟨h.st.sub (hs.append (List.Sublist.refl F)), hw G _ h.fr, h.size, h.defers⟩
theorem ay_bin {op : BinOp} {t t' : TypeId} {x y : Operand} {a b r : Value} (ho : o.op = .binOp op t x y t') (hx : Opd T0 fr x (vA a)) (hy : Opd T0 fr y (vA b)) (hr : ∀ w, (do eqGuard op t x y a b; binOp op t a b : Sem Value).run P w = .ok r w) : AY P T0 ops o fr M (vA r) := ay_of fun w0 G F ac w hs hf => by
  have e1 := (hx.use (o := o) (ops := ops) (by simp [ho, Op.operands]) hs.tab hf).eq
  have e2 := (hy.use (o := o) (ops := ops) (by simp [ho, Op.operands]) hs.tab hf).eq
  refine ⟨r, ?_, Rep.va _ _⟩
  simp only [execOp, ho, e1, e2]
  rw [Sem.run_bind, hr]; rfl
theorem ay_tass {x : Operand} {t u : TypeId} {k : IntKind} {v : Value} (ho : o.op = .typeAssert x t u true) (hu : P.underlying u = some (.int k)) (hx : Opd T0 fr x (vA (.iface u v))) : AY P T0 ops o fr M (tupA [vA v, B true]) := ay_of fun w0 G F ac w hs hf => by
  have e1 := (hx.use (o := o) (ops := ops) (by simp [ho, Op.operands]) hs.tab hf).eq
  refine ⟨.tuple #[v, .bool true], ?_, .of ⟨[_, _], rfl, Rep.va _ _, Rep.va _ _, trivial⟩⟩
  simp [execOp, ho, e1, Instr.typeAssert, run_underlying hu]
end
abbrev cmdO (b : Nat) (c : Cmd) : Own := varO b 23 [I c.1, I c.2.1, I c.2.2.1, R c.2.2.2]
abbrev strO (b : Nat) (l : List UInt8) : Own := varO b 9 [SA l]
abbrev numO (b : Nat) (n : Int) : Own := varO b 24 [I n]
variable {T0 : Gh}
attribute [local irreducible] thenA inBlockA AW AL AO QY varO rowO rsA Opd OpdN vA gvA tupA aggA slA slcA ipA rpA EqK LnK IxK LdK FaK FdK
/-- of a function that panics -/
theorem d_panic (e : Int) (he : e = 2 ∨ e = 3) {w0 : World} {G : Gh} {F : List Own} {w : World} {b2 b3 b4 : Nat} {c : Cmd} {l : List UInt8} {n : Int} (hs : St T0 w0 G ([numO b4 n, strO b3 l, cmdO b2 c] ++ F) w) :
    CallsD Tryd.prog 40 #[.pointer (some ⟨b2, 0, none⟩), .pointer (some ⟨b3, 0, none⟩), .pointer (some ⟨b4, 0, none⟩)] (.panicking (errP e)) w fun en u' w' =>
      (∃ v, en = .returned v) ∧ u' = .panicking [{ v := .iface 24 (.int .i64 e), recovered := true }] ∧ ∃ G', Gh.le G G' ∧ St T0 w0 G' ([numO b4 e, strO b3 [], cmdO b2 (0, 0, 0, 0)] ++ F) w' := by
  refine callsD_of_wpS Tryd.func40 rfl fun c₀ cs hu => ?_
  apply wpS_seq
  apply wpS_region
  simp [wpOpsS, go_sem, recoverD, hu, Tryd.ntmps40, Exit.thenS]
  refine wpS_AW (T0 := T0) (N := ⟨21, []⟩) (w0 := w0) (G := G) (F := F) (fr := [(0, ptA b2), (1, ptA b3), (2, ptA b4), (3, vA (.iface 24 (.int .i64 e)))]) (M := [numO b4 n, strO b3 l, cmdO b2 c]) (Q := fun ex _ M' => ex = .normal ∧ List.Sublist [numO b4 e, strO b3 [], cmdO b2 (0, 0, 0, 0)] M') ?_ ?_ ?_
  · rcases he with rfl | rfl
    all_goals
      repeat' (first
      | fail
      | refine s_y ?_
        | refine c_ ?_
        | (refine aw_if ?_ ?_ <;> intro hb <;> try (exfalso; first | assumption | omega | (simp only [or_self, and_self, not_true_eq_false, not_false_eq_true, or_false, false_or, and_false, false_and, true_and, and_true] at hb; first | done | omega)))
        | refine s_call ?_ (c := by first | fail | fail)
        | refine s_op ?_ (hy := by first | (apply ay_bin rfl; (case hx => exact oo_); (case hy => exact oo_); (case hr => intro w; simp [eqGuard, binOp, Op.equal, Op.equalIn, go_sem]; rfl)) | (apply ay_tass rfl un_; exact oo_; done) | fail)
        | refine s_yg ?_
        | refine s_callg ?_ (c := by intro hk hk2; first | fail | fail)
        | refine s_opg ?_ (hy := by intro hk hk2; first | (apply ay_bin rfl; (case hx => exact oo_); (case hy => exact oo_); (case hr => intro w; simp [eqGuard, binOp, Op.equal, Op.equalIn, go_sem]; rfl)) | (apply ay_tass rfl un_; exact oo_; done) | fail)
        | refine s_skip ?_
        | ((first | refine w_alloc ?_ | refine w_box ?_) <;> intro bb)
        | ((first | refine w_emp ?_ | refine w_make ?_ | refine w_app ?_) <;> intro u hu1 hu2)
        | refine w_stv ?_ | refine w_str ?_ | refine w_cpr ?_ | refine w_cps ?_
        | refine al_last (by kernel_rfl) ?_
      | fail)
    all_goals first | exact ⟨rfl, sl_⟩ | (exfalso; omega)
  · refine ⟨hs, ?_, ?_, rfl⟩
    · refine frRel_cons (u := .pointer (some ⟨b2, 0, none⟩)) ?_ (Rep.va _ _) (frRel_cons (u := .pointer (some ⟨b3, 0, none⟩)) ?_ (Rep.va _ _) (frRel_cons (u := .pointer (some ⟨b4, 0, none⟩)) ?_ (Rep.va _ _) (frRel_cons (u := .iface 24 (.int .i64 e)) ?_ (Rep.va _ _) frRel_nil)))
      all_goals simp [Act.put, Array.getElem?_append, Array.getElem?_setIfInBounds]
    · simp
  · rintro ex a' w' ⟨fr', M', G', ⟨rfl, hsub⟩, hl, hc⟩
    have hres : (results Tryd.f40 a'.tmps).run Tryd.prog w' = .ok (.tuple #[]) w' := by simp [results, Tryd.results40]
    have hst := hc.st.sub (hsub.append (List.Sublist.refl F))
    have hdf : a'.defers = [] := hc.defers
    clear hc hsub
    exact ⟨hdf, _, rfl, .tuple #[], hres, ⟨_, rfl⟩, rfl, G', hl, hst⟩
/-- of a function that returns -/
theorem d_idle {w : World} {p2 p3 p4 : Value} : CallsD Tryd.prog 40 #[p2, p3, p4] .returning w fun en u' w' => (∃ v, en = .returned v) ∧ u' = .returning ∧ w' = w := by
  refine callsD_of_wpS Tryd.func40 rfl fun c₀ cs hu => ?_
  apply wpS_seq
  apply wpS_region
  simp [wpOpsS, go_sem, recoverD, hu, Tryd.ntmps40, Exit.thenS]
  apply wpS_seq
  apply wpS_region
  simp [wpOpsS, go_sem, eqGuard, binOp, Op.equal, Op.equalIn, Exit.thenS]
  refine wpS_cond (t := false) (by simp [Act.eval, Act.put, Array.replicate]) ?_
  simp only [Bool.false_eq_true, if_false]
  refine wpS_of_wp (wp_skip ?_)
  cases c₀
  simp_all [bodyPostS, Act.put, results, Tryd.results40]
end Go.Proofs.YtplabpjkkcillaaDoor
