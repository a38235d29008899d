/- The logic's steps, each as one rule that finds its own side conditions. No condition. -/
import Derived.Test.YtplabpjkkcillaaDoorTy
namespace Go.Proofs.YtplabpjkkcillaaDoor
set_option linter.unusedSimpArgs false
set_option linter.unusedVariables false
set_option linter.unusedSectionVars false
set_option maxHeartbeats 4000000
open Go Go.RowKit
section
variable {P : Program} {T0 : Gh} {N : Fz} {Q : Post} {fr : Fr} {M M' : List Own} {ops : Array Oper} {o : Oper} {rest : List Oper} {x0 : Nat}

/-! ### a condition, told plainly -/
structure Nice (c : Bool) (p q : Prop) : Prop where
  t : c = true → p
  f : c = false → q
theorem nice_t : Nice true True False := ⟨fun _ => trivial, fun h => (nomatch h)⟩
theorem nice_f : Nice false False True := ⟨fun h => (nomatch h), fun _ => trivial⟩
theorem nice_d {p : Prop} [Decidable p] : Nice (decide p) p (¬ p) := ⟨of_decide_eq_true, of_decide_eq_false⟩
theorem nice_not {c : Bool} {p q : Prop} (h : Nice c p q) : Nice (!c) q p := ⟨fun e => h.f (by cases c <;> simp_all), fun e => h.t (by cases c <;> simp_all)⟩
theorem nice_and {a b : Bool} {p q p' q' : Prop} (h : Nice a p q) (k : Nice b p' q') : Nice (a && b) (p ∧ p') (q ∨ q') := ⟨fun e => (by cases a <;> cases b <;> first | exact ⟨h.t rfl, k.t rfl⟩ | (cases e)), fun e => by
  cases a
  · exact .inl (h.f rfl)
  · cases b
    · exact .inr (k.f rfl)
    · cases e⟩
theorem nice_or {a b : Bool} {p q p' q' : Prop} (h : Nice a p q) (k : Nice b p' q') : Nice (a || b) (p ∨ p') (q ∧ q') := ⟨fun e => by
  cases a
  · cases b
    · cases e
    · exact .inr (k.t rfl)
  · exact .inl (h.t rfl), fun e => (by cases a <;> cases b <;> first | exact ⟨h.f rfl, k.f rfl⟩ | (cases e))⟩
theorem nice_tand {a : Bool} {p q : Prop} (h : Nice a p q) : Nice (true && a) p q := ⟨fun e => h.t (by simpa using e), fun e => h.f (by simpa using e)⟩
theorem nice_eqt {c : Bool} {p q : Prop} (h : Nice c p q) : Nice (c == true) p q := ⟨fun e => h.t (by simpa using e), fun e => h.f (by simpa using e)⟩
theorem nice_eqf {c : Bool} {p q : Prop} (h : Nice c p q) : Nice (c == false) q p := ⟨fun e => h.f (by simpa using e), fun e => h.t (by simpa using e)⟩
theorem nice_b {c : Bool} : Nice c (c = true) (c = false) := ⟨id, id⟩
theorem nice_ {c : Bool} {p q : Prop} (h : Nice c p q := by
  first
  | (with_reducible repeat' (first
     | exact nice_t
     | exact nice_f
     | exact nice_d
     | apply nice_not
     | apply nice_tand
     | apply nice_and
     | apply nice_or
     | apply nice_eqt
     | apply nice_eqf
     | exact nice_b)
     done)
  | fail) : Nice c p q := h
theorem aw_if {t : Nat} {x y : Code} {c : Bool} {p q : Prop} (ht : p → AW P T0 N x Q fr M) (hf : q → AW P T0 N y Q fr M) (hc : fr.get t = some (B c) := by rfl) (hn : Nice c p q := by first | exact nice_ | fail) : AW P T0 N (.cond (.tmp t) x y) Q fr M := aw_cond hc (fun e => ht (hn.t e)) (fun e => hf (hn.f e))

/-! ### side conditions -/
/-- a list that is told to its end -/
def known {α : Type _} : List α → Bool
  | [] => true
  | _ :: l => known l
theorem hk_ {p : Prop} (h : p := by
  first
  | (first
     | assumption
     | (refine gd ?_ ?_ <;> assumption)
     | (refine gd rfl ?_; assumption)
     | (apply gl; assumption)
     | (refine gd (by apply gl; assumption) ?_; assumption)
     done)
  | fail) : p := h
theorem oo_ {x : Operand} {A : AV} (h : Opd T0 fr x A := by
  first
  | exact od rfl
  | (refine og rfl ?_; exact hk_)
  | fail) : Opd T0 fr x A := h
theorem oog_ {x : Operand} {A : AV} (h : Opd T0 fr x A := by
  first
  | (refine og rfl ?_; exact hk_)
  | exact od rfl
  | fail) : Opd T0 fr x A := h
theorem ol_ {x : Operand} {A : AV} (h : Opd T0 fr x A := by
  first
  | (apply odl rfl; with_reducible rfl)
  | exact od rfl
  | (refine og rfl ?_; exact hk_)
  | fail) : Opd T0 fr x A := h
theorem on_ {x : Operand} {k : IntKind} {n : Nat} (h : OpdN T0 fr x k n := by
  first
  | (apply odln rfl; with_reducible rfl)
  | exact odn rfl
  | (refine ogn rfl ?_; exact hk_)
  | fail) : OpdN T0 fr x k n := h
theorem ong_ {x : Operand} {k : IntKind} {n : Nat} (h : OpdN T0 fr x k n := by
  first
  | (refine ogn rfl ?_; exact hk_)
  | (apply odln rfl; with_reducible rfl)
  | exact odn rfl
  | fail) : OpdN T0 fr x k n := h
theorem os_ {xs : List Operand} {l : List AV} (hb : known xs = true := by rfl) (h : OpdAll T0 fr xs l := by
  first
  | (repeat' (first
     | exact opds0
     | apply opds1 oo_)
     done)
  | fail) : OpdAll T0 fr xs l := h
theorem osg_ {xs : List Operand} {l : List AV} (hb : known xs = true := by rfl) (h : OpdAll T0 fr xs l := by
  first
  | (repeat' (first
     | exact opds0
     | apply opds1 oog_)
     done)
  | fail) : OpdAll T0 fr xs l := h
theorem c_in' {l : List Cell} {i : Nat} (h : i < l.length) : l[i]? = some (l[i]?.getD (0, 0)) := by simp [h]
theorem gb_ {p : Prop} (h : p := by
  first
  | (first
     | omega
     | (simp only [List.length_append, List.length_nil, List.length_cons, List.nil_append, List.length_replicate, List.length_set, List.length_take, List.length_drop]; omega)
     done)
  | fail) : p := h
theorem fit_ {k : IntKind} {n : Int} (h : Fit k n := by
  first
  | (first
     | exact fit64 (by omega) (by omega)
     | exact fit32 (by omega) (by omega)
     | exact fit8 (by omega) (by omega)
     done)
  | fail) : Fit k n := h
theorem wk_ {fr' : Fr} (hb : known fr' = true := by rfl) (h : Weak fr fr' := by
  first
  | (repeat' (first
     | exact weak_nil
     | refine weak_cons rfl ?_)
     done)
  | fail) : Weak fr fr' := h
theorem sl_ {α : Type _} {l m : List α} (hb : known m = true := by rfl) (h : List.Sublist l m := by
  first
  | (repeat' (first
     | exact List.nil_sublist _
     | apply List.Sublist.cons_cons
     | apply List.Sublist.cons)
     done)
  | fail) : List.Sublist l m := h
theorem mem_ {α : Type _} {x : α} {l : List α} (hb : known l = true := by rfl) (h : x ∈ l := by
  first
  | (repeat' (first
     | exact List.Mem.head _
     | apply List.Mem.tail)
     done)
  | fail) : x ∈ l := h
theorem upf_ {m : Own} {f : Own → List Own} (hb : known M = true := by rfl) (h : UpdF m M f := by
  first
  | (repeat' (first
     | exact UpdF.here
     | apply UpdF.next)
     done)
  | fail) : UpdF m M f := h
theorem pick_ {m : Own} (hb : known M = true := by rfl) (h : Pick m M M' := by
  first
  | (repeat' (first
     | exact Pick.here
     | apply Pick.next)
     done)
  | fail) : Pick m M M' := h
theorem setc_ {s l r : List AV} {n : Nat} (hb : known s = true := by rfl) (h : SetC s n l r := by
  first
  | (repeat' (first
     | exact sc_0
     | apply SetC.here
     | apply SetC.next)
     done)
  | fail) : SetC s n l r := h
theorem subc_ {s r : List AV} {off n : Nat} (hb : known s = true := by rfl) (h : SubC s off n r := by
  first
  | (repeat' (first
     | exact SubC.nil
     | apply SubC.here
     | apply SubC.next)
     done)
  | fail) : SubC s off n r := h
theorem cam_ {A : AV} {l : List AV} (h : CellsA A l := by
  first
  | (first
     | exact ca_agg
     | exact ca_v rfl
     | exact ca_v (by assumption)
     | exact ca_sl
     | exact ca_slc
     done)
  | fail) : CellsA A l := h
theorem ca_cellA {c : Cell} : CellsA (cellA c) ((cellT.enc c).map vA) := ca_agg
theorem cae_ {A : AV} {l : List AV} (h : CellsA A l := by
  first
  | (first
     | exact ca_cellA
     | exact ca_cell
     | exact ca_agg
     | exact ca_v (by rfl)
     done)
  | fail) : CellsA A l := h
theorem ones_ {l : List AV} (hb : known l = true := by rfl) (h : OnesA l := by
  first
  | (repeat' (first
     | exact ones0
     | apply ones1
     | exact one_v rfl
     | exact one_v (by assumption)
     | exact one_sl
     | exact one_slc)
     done)
  | fail) : OnesA l := h
theorem px_ {pl : List (Nat × Nat)} {r : List (Nat × Operand)} {acc res : List AV} (hb : known r = true := by rfl) (h : PartsA T0 fr pl r acc res := by
  first
  | (repeat' (first
     | exact pa_nil
     | apply pk oo_ cam_ rfl setc_)
     done)
  | fail) : PartsA T0 fr pl r acc res := h
theorem pxg_ {pl : List (Nat × Nat)} {r : List (Nat × Operand)} {acc res : List AV} (hb : known r = true := by rfl) (h : PartsA T0 fr pl r acc res := by
  first
  | (repeat' (first
     | exact pa_nil
     | apply pk oog_ cam_ rfl setc_)
     done)
  | fail) : PartsA T0 fr pl r acc res := h
theorem fzf_ {α : Type} {u : Value} {T : Ty α} {l : List α} {r r' : Fr} (hb : known r = true := by rfl) (h : FzFr u T l r r' := by
  first
  | (repeat' (first
     | exact fzf_nil
     | apply fzf_cons
     | exact fz_here
     | apply fz_agg
     | apply fz_tup
     | exact fz_keep
     | exact fzl_nil
     | apply fzl_cons)
     done)
  | fail) : FzFr u T l r r' := h
theorem fzm_ {α : Type} {u : Value} {T : Ty α} {l : List α} (hb : known M = true := by rfl) (h : FzM u T l M M' := by
  first
  | (repeat' (first
     | exact fzm_nil
     | apply fzm_cons
     | exact fzo_keep
     | apply fzo_var
     | exact fzl_nil
     | apply fzl_cons
     | exact fz_here
     | exact fz_keep)
     done)
  | fail) : FzM u T l M M' := h
theorem fzmv_ {α : Type} {u : Value} {T : Ty α} {l : List α} (hb : known M = true := by rfl) (h : FzM u T l M M' := by
  first
  | (repeat' (first
     | exact fzm_nil
     | apply fzm_cons
     | apply fzo_var
     | exact fzo_keep
     | exact fzl_nil
     | apply fzl_cons
     | exact fz_here
     | exact fz_keep)
     done)
  | fail) : FzM u T l M M' := h
theorem fza_ {α : Type} {T : Ty α} {l : List α} {F : Value → AV} {A' : AV} (h : ∀ u, FzA u T l (F u) A' := by
  first
  | (intro u
     repeat' (first
     | exact fz_here
     | apply fz_agg
     | apply fz_tup
     | exact fzl_nil
     | apply fzl_cons
     | exact fz_keep)
     done)
  | fail) : ∀ u, FzA u T l (F u) A' := h
theorem rs_ {fn : Func} {A : AV} (h : ResA Tryd.prog T0 fn fr M A := by
  first
  | (first
     | exact res1 rfl rfl
     | exact res2 rfl rfl rfl
     | exact res3 rfl rfl rfl rfl
     | exact res0 rfl
     | ((first
         | apply resM1 rfl rfl
         | apply resM2 rfl rfl rfl) <;> (repeat' (first
           | exact List.Mem.head _
           | apply List.Mem.tail
           | exact agg_
           | exact sz_
           | rfl)); done)
     done)
  | fail) : ResA Tryd.prog T0 fn fr M A := h
theorem ge_ {α : Type} {l : List α} {i : Nat} {c : α} (h : l[i]? = some c := by
  first
  | (first
     | assumption
     | exact c_in gb_
     | exact List.getElem?_eq_getElem gb_
     | exact get_in gb_
     | exact rfl
     done)
  | fail) : l[i]? = some c := h

theorem sub_ {A A' : AV} (h : Sub A A' := by
  first
  | (first
     | exact Sub.refl _
     | exact sub_slc
     | (refine sub_tup ?_
        repeat' (first
        | exact subl0
        | refine subl1 (by first | exact Sub.refl _ | exact sub_slc) ?_))
     done)
  | fail) : Sub A A' := h

/-! ### an operation that is quiet -/
theorem QY.sub {A A' : AV} (h : QY P T0 ops o fr M A) (s : Sub A A') : QY P T0 ops o fr M A' := fun w0 G F a w hs hf =>
  let ⟨h1, h2⟩ := h w0 G F a w hs hf
  ⟨fun hw next Qc k => h1 hw next Qc fun G' u w' hl hs' hu => k G' u w' hl hs' (s _ _ hu), fun hw => s _ _ (h2 hw)⟩
/-- it is carried out just if k -/
def GK (P : Program) (T0 : Gh) (ops : Array Oper) (o : Oper) (fr : Fr) (k : Bool) : Prop := ∀ (M : List Own) (A : AV), (k = true → AY P T0 ops o fr M A) → QY P T0 ops o fr M (gvA k A)
theorem sub_gvt {A : AV} : Sub A (gvA true A) := fun _ _ h => .of ⟨fun _ => h, fun e => (nomatch e)⟩
theorem gvt_sub {A : AV} : Sub (gvA true A) A := fun _ _ h => h.gv.1 rfl
theorem gk_plain (hg : o.guard = none) : GK P T0 ops o fr true := fun _ _ h => (qy_plain hg (h rfl)).sub sub_gvt
theorem gk_run {g t : Nat} {want k c : Bool} (hg : o.guard = some (g, want)) (ht : (ops[g]?).bind (·.dst) = some t) (hs : GuardIs fr t k c) (hc : (k && (c == want)) = true) : GK P T0 ops o fr true := fun _ _ h => (qy_run hg ht hs hc (h rfl)).sub sub_gvt
theorem gk_gv {g t : Nat} {want k c : Bool} (hg : o.guard = some (g, want)) (ht : (ops[g]?).bind (·.dst) = some t) (hs : GuardIs fr t k c) : GK P T0 ops o fr (k && (c == want)) := fun _ _ h => qy_gv hg ht hs h
theorem gk_ {k : Bool} (h : GK P T0 ops o fr k := by
  first
  | (first
     | exact gk_plain rfl
     | exact gk_run rfl rfl (guard_b rfl) rfl
     | exact gk_gv rfl rfl (guard_b rfl)
     | exact gk_gv rfl rfl (guard_gv rfl)
     done)
  | fail) : GK P T0 ops o fr k := h
inductive OutK : Bool → AV → AV → Prop
  | t {A : AV} : OutK true A A
  | g {k : Bool} {A : AV} : OutK k A (gvA k A)
theorem OutK.qy {k : Bool} {A A' : AV} (h : OutK k A A') (q : QY P T0 ops o fr M (gvA k A)) : QY P T0 ops o fr M A' := by
  cases h
  · exact q.sub gvt_sub
  · exact q
theorem out_ {k : Bool} {A A' : AV} (h : OutK k A A' := by
  first
  | (first
     | exact OutK.t
     | exact OutK.g
     done)
  | fail) : OutK k A A' := h
theorem al_k {d : Bool} {A A' : AV} {k : Bool} (hg : GK P T0 ops o fr k) (hy : k = true → AY P T0 ops o fr M A) (hA : OutK k A A') (hx : o.dst = some x0) (hd : Nat.blt x0 N.n = true) (h : AL P T0 N d ops Q rest ((x0, A') :: fr) M) : AL P T0 N d ops Q (o :: rest) fr M := al_y (hA.qy (hg M A hy)) hx hd h
theorem s_skip {d : Bool} (h : AL P T0 N d ops Q rest ((x0, anyA) :: fr) M) (hs : QY P T0 ops o fr M anyA := by first | exact qy_skip rfl rfl (guard_b rfl) rfl | fail) (hx : o.dst = some x0 := by rfl) (hd : Nat.blt x0 N.n = true := by rfl) : AL P T0 N d ops Q (o :: rest) fr M := al_y hs hx hd h
end

section
variable {T0 : Gh} {N : Fz} {Q : Post} {fr : Fr} {M M' : List Own} {ops : Array Oper} {o : Oper} {rest : List Oper} {x0 : Nat}
/-! ### what an operation rests on -/
theorem lt_ {a b : Nat} (h : a < b := by
  first
  | exact gb_
  | fail) : a < b := h
theorem le_ {a b : Nat} (h : a ≤ b := by
  first
  | exact gb_
  | fail) : a ≤ b := h
theorem ilt_ {a b : Int} (h : a < b := by
  first
  | omega
  | fail) : a < b := h
theorem ile_ {a b : Int} (h : a ≤ b := by
  first
  | omega
  | fail) : a ≤ b := h
theorem lo_ {x : Option Operand} {n : Nat} (h : loOf x n T0 fr := by
  first
  | exact lo_none
  | (apply lo_k; exact on_)
  | fail) : loOf x n T0 fr := h
theorem hi_ {x : Option Operand} {n m : Nat} (h : hiOf x n m T0 fr := by
  first
  | exact hi_none
  | (apply hi_k; exact on_)
  | fail) : hiOf x n m T0 fr := h
theorem oop_ {b v : Bool} {x : Operand} {A : AV} (h : b = v → Opd T0 fr x A := by
  first
  | (intro hp
     exact oog_)
  | fail) : b = v → Opd T0 fr x A := h
theorem log_ {x : Option Operand} {n : Nat} (h : loOf x n T0 fr := by
  first
  | exact lo_none
  | (apply lo_k; exact ong_)
  | fail) : loOf x n T0 fr := h
theorem hig_ {x : Option Operand} {n m : Nat} (h : hiOf x n m T0 fr := by
  first
  | exact hi_none
  | (apply hi_k; exact ong_)
  | fail) : hiOf x n m T0 fr := h
theorem ld_ {t : TypeId} {A R : AV} (h : LdK Tryd.prog T0 M t A R := by
  first
  | exact lk_el el_
  | exact lk_1 agg_
  | (apply v1_; exact mem_; rfl)
  | (apply vn_; exact mem_; exact subc_)
  | (apply mk_r el_; exact mem_; exact ge_)
  | (apply r1_; exact mem_; exact ge_; rfl)
  | fail) : LdK Tryd.prog T0 M t A R := h
theorem ix_ {t : TypeId} {A R : AV} {n : Nat} (h : IxK Tryd.prog T0 M t A n R := by
  first
  | (apply ik_sl un_ el_; exact ge_)
  | (apply mk_ix un_ el_; exact mem_; exact lt_)
  | (apply ik_sub un_ el_; exact lt_)
  | fail) : IxK Tryd.prog T0 M t A n R := h
theorem fa_ {t i : Nat} {A R : AV} (h : FaK Tryd.prog T0 M t i A R := by
  first
  | exact ak_ip fl_ sp_
  | exact ak_var fl_ sp_
  | exact ak_row fl_ sp_
  | fail) : FaK Tryd.prog T0 M t i A R := h
theorem fd_ {t i : Nat} {l : List AV} {R : AV} (h : FdK Tryd.prog T0 M t i l R := by
  first
  | exact dk_1 fl_ agg_ rfl
  | (apply fn_; exact subc_)
  | fail) : FdK Tryd.prog T0 M t i l R := h
theorem ln_ {t : TypeId} {A R : AV} (h : LnK Tryd.prog T0 M t A R := by
  first
  | exact nk_sl un_
  | (apply mk_len un_; exact mem_)
  | exact nk_sub un_
  | exact nk_str un_
  | fail) : LnK Tryd.prog T0 M t A R := h
theorem eq_ {t : TypeId} {A A' : AV} {b : Bool} (h : EqK Tryd.prog t A A' b := by
  first
  | exact ek_int
  | exact ek_bool un_
  | exact ek_cell
  | exact ek_str
  | exact ek_cmd
  | fail) : EqK Tryd.prog t A A' b := h
theorem y_ {A : AV} (h : AY Tryd.prog T0 ops o fr M A := by
  first
  | (apply ay_move rfl; exact oo_)
  | (apply ay_assign rfl; exact oo_)
  | (apply k_ld rfl; exact oo_; exact ld_)
  | (apply k_fd rfl; exact oo_; exact fd_)
  | (apply k_fa rfl; exact oo_; exact fa_)
  | (apply k_ix rfl; exact oo_; exact on_; exact ix_)
  | (apply k_len rfl; exact oo_; exact ln_)
  | (apply ay_lss rfl; exact oo_; exact oo_)
  | (apply ay_leq rfl; exact oo_; exact oo_)
  | (apply ay_gtr rfl; exact oo_; exact oo_)
  | (apply ay_geq rfl; exact oo_; exact oo_)
  | (apply k_eql rfl; exact oo_; exact oo_; exact eq_)
  | (apply k_neq rfl; exact oo_; exact oo_; exact eq_)
  | (apply ay_not rfl; exact oo_)
  | (apply ay_and rfl; exact oo_; exact oop_)
  | (apply ay_or rfl; exact oo_; exact oop_)
  | (apply ay_build rfl st_; exact px_; done)
  | (apply ay_extract rfl; exact oo_; rfl)
  | (apply ay_slice rfl un_ el_; exact oo_; exact lo_; exact hi_; exact le_; exact le_; done)
  | (apply bs_cell1 rfl un_; exact oo_; done)
  | (apply bs_cell2 rfl un_; exact oo_; exact oo_; done)
  | (apply kn_add rfl; exact on_; exact on_; exact fit_)
  | (apply kn_sub rfl; exact on_; exact on_; exact le_; exact fit_)
  | (apply kn_mul rfl; exact on_; exact on_; exact fit_)
  | (apply kn_quo rfl; exact on_; exact on_; exact lt_; exact fit_)
  | (apply kn_rem rfl; exact on_; exact on_; exact lt_)
  | (apply kn_min rfl; exact on_; exact on_)
  | (apply my_slice rfl un_ el_; exact oo_; exact mem_; exact on_; exact on_; exact lt_; exact le_; done)
  | (apply ay_idx_str rfl un_; exact oo_; exact on_; exact ge_; done)
  | (apply ay_cut_str rfl un_; exact oo_; exact lo_; exact hi_; exact le_; exact le_; done)
  | (apply ay_cat rfl; exact oo_; exact oo_; exact le_)
  | (apply ay_conv rfl un_ un_; exact oo_; exact fit_; done)
  | (apply ay_conv_sign rfl un_ un_; exact oo_; done)
  | (apply ay_conv_bytes rfl un_ un_ un_; exact oo_; done)
  | (apply ay_neg rfl; exact oo_; exact fit_)
  | (apply ay_add rfl; exact oo_; exact oo_; exact fit_)
  | (apply ay_sub rfl; exact oo_; exact oo_; exact fit_)
  | (apply ay_mul rfl; exact oo_; exact oo_; exact fit_)
  | (apply ay_quo rfl; exact oo_; exact oo_; exact ile_; exact ilt_; exact fit_)
  | (apply ay_rem rfl; exact oo_; exact oo_; exact ile_; exact ilt_)
  | fail) : AY Tryd.prog T0 ops o fr M A := h
theorem yg_ {A : AV} (h : AY Tryd.prog T0 ops o fr M A := by
  first
  | (apply ay_move rfl; exact oog_)
  | (apply ay_assign rfl; exact oog_)
  | (apply k_ld rfl; exact oog_; exact ld_)
  | (apply k_fd rfl; exact oog_; exact fd_)
  | (apply k_fa rfl; exact oog_; exact fa_)
  | (apply k_ix rfl; exact oog_; exact ong_; exact ix_)
  | (apply k_len rfl; exact oog_; exact ln_)
  | (apply ay_lss rfl; exact oog_; exact oog_)
  | (apply ay_leq rfl; exact oog_; exact oog_)
  | (apply ay_gtr rfl; exact oog_; exact oog_)
  | (apply ay_geq rfl; exact oog_; exact oog_)
  | (apply k_eql rfl; exact oog_; exact oog_; exact eq_)
  | (apply k_neq rfl; exact oog_; exact oog_; exact eq_)
  | (apply ay_not rfl; exact oog_)
  | (apply ay_and rfl; exact oog_; exact oop_)
  | (apply ay_or rfl; exact oog_; exact oop_)
  | (apply ay_build rfl st_; exact pxg_; done)
  | (apply ay_extract rfl; exact oog_; rfl)
  | (apply ay_slice rfl un_ el_; exact oog_; exact log_; exact hig_; exact le_; exact le_; done)
  | (apply bs_cell1 rfl un_; exact oog_; done)
  | (apply bs_cell2 rfl un_; exact oog_; exact oog_; done)
  | (apply kn_add rfl; exact ong_; exact ong_; exact fit_)
  | (apply kn_sub rfl; exact ong_; exact ong_; exact le_; exact fit_)
  | (apply kn_mul rfl; exact ong_; exact ong_; exact fit_)
  | (apply kn_quo rfl; exact ong_; exact ong_; exact lt_; exact fit_)
  | (apply kn_rem rfl; exact ong_; exact ong_; exact lt_)
  | (apply kn_min rfl; exact ong_; exact ong_)
  | (apply my_slice rfl un_ el_; exact oog_; exact mem_; exact ong_; exact ong_; exact lt_; exact le_; done)
  | (apply ay_idx_str rfl un_; exact oog_; exact ong_; exact ge_; done)
  | (apply ay_cut_str rfl un_; exact oog_; exact log_; exact hig_; exact le_; exact le_; done)
  | (apply ay_cat rfl; exact oog_; exact oog_; exact le_)
  | (apply ay_conv rfl un_ un_; exact oog_; exact fit_; done)
  | (apply ay_conv_sign rfl un_ un_; exact oog_; done)
  | (apply ay_conv_bytes rfl un_ un_ un_; exact oog_; done)
  | (apply ay_neg rfl; exact oog_; exact fit_)
  | (apply ay_add rfl; exact oog_; exact oog_; exact fit_)
  | (apply ay_sub rfl; exact oog_; exact oog_; exact fit_)
  | (apply ay_mul rfl; exact oog_; exact oog_; exact fit_)
  | (apply ay_quo rfl; exact oog_; exact oog_; exact ile_; exact ilt_; exact fit_)
  | (apply ay_rem rfl; exact oog_; exact oog_; exact ile_; exact ilt_)
  | fail) : AY Tryd.prog T0 ops o fr M A := h
theorem gk1_ (h : GK Tryd.prog T0 ops o fr true := by
  first
  | exact gk_plain rfl
  | exact gk_run rfl rfl (guard_b rfl) rfl
  | fail) : GK Tryd.prog T0 ops o fr true := h
theorem al_1 {d : Bool} {A : AV} (hg : GK Tryd.prog T0 ops o fr true) (hy : AY Tryd.prog T0 ops o fr M A) (hx : o.dst = some x0) (hd : Nat.blt x0 N.n = true) (h : AL Tryd.prog T0 N d ops Q rest ((x0, A) :: fr) M) : AL Tryd.prog T0 N d ops Q (o :: rest) fr M := al_k hg (fun _ => hy) OutK.t hx hd h
theorem s_y {d : Bool} {A : AV} (h : AL Tryd.prog T0 N d ops Q rest ((x0, A) :: fr) M) (hg : GK Tryd.prog T0 ops o fr true := by first | exact gk1_ | fail) (hy : AY Tryd.prog T0 ops o fr M A := by first | exact y_ | fail) (hx : o.dst = some x0 := by rfl) (hd : Nat.blt x0 N.n = true := by rfl) : AL Tryd.prog T0 N d ops Q (o :: rest) fr M := al_1 hg hy hx hd h
/-- one that is told by its own rule -/
theorem s_op {d : Bool} {A : AV} (h : AL Tryd.prog T0 N d ops Q rest ((x0, A) :: fr) M) (hg : GK Tryd.prog T0 ops o fr true := by first | exact gk1_ | fail) (hy : AY Tryd.prog T0 ops o fr M A) (hx : o.dst = some x0 := by rfl) (hd : Nat.blt x0 N.n = true := by rfl) : AL Tryd.prog T0 N d ops Q (o :: rest) fr M := al_1 hg hy hx hd h
/-- a call -/
theorem s_call {d : Bool} {A : AV} {f : FuncId} {args : Array Operand} {ts : Array TypeId} {As : List AV} (h : AL Tryd.prog T0 N d ops Q rest ((x0, A) :: fr) M) (ho : o.op = .call { callee := .value (.func f), args := args, argTypes := ts } := by rfl) (hg : GK Tryd.prog T0 ops o fr true := by first | exact gk1_ | fail) (ha : OpdAll T0 fr args.toList As := by first | exact os_ | fail) (c : AP Tryd.prog T0 f As A) (hx : o.dst = some x0 := by rfl) (hd : Nat.blt x0 N.n = true := by rfl) : AL Tryd.prog T0 N d ops Q (o :: rest) fr M := al_1 hg (ay_call ho ha c) hx hd h
/-- the same under a guard that is not known -/
theorem s_yg {d : Bool} {A : AV} {k : Bool} {p q : Prop} (h : AL Tryd.prog T0 N d ops Q rest ((x0, gvA k A) :: fr) M) (hg : GK Tryd.prog T0 ops o fr k := by first | exact gk_ | fail) (hn : Nice k p q := by first | exact nice_ | fail) (hy : k = true → p → AY Tryd.prog T0 ops o fr M A := by
  first
  | (intro hk hk2
     exact yg_)
  | fail) (hx : o.dst = some x0 := by rfl) (hd : Nat.blt x0 N.n = true := by rfl) : AL Tryd.prog T0 N d ops Q (o :: rest) fr M := al_k hg (fun e => hy e (hn.t e)) OutK.g hx hd h
theorem s_opg {d : Bool} {A : AV} {k : Bool} {p q : Prop} (h : AL Tryd.prog T0 N d ops Q rest ((x0, gvA k A) :: fr) M) (hg : GK Tryd.prog T0 ops o fr k := by first | exact gk_ | fail) (hn : Nice k p q := by first | exact nice_ | fail) (hy : k = true → p → AY Tryd.prog T0 ops o fr M A) (hx : o.dst = some x0 := by rfl) (hd : Nat.blt x0 N.n = true := by rfl) : AL Tryd.prog T0 N d ops Q (o :: rest) fr M := al_k hg (fun e => hy e (hn.t e)) OutK.g hx hd h
theorem s_callg {d : Bool} {A : AV} {k : Bool} {p q : Prop} {f : FuncId} {args : Array Operand} {ts : Array TypeId} {As : List AV} (h : AL Tryd.prog T0 N d ops Q rest ((x0, gvA k A) :: fr) M) (ho : o.op = .call { callee := .value (.func f), args := args, argTypes := ts } := by rfl) (hg : GK Tryd.prog T0 ops o fr k := by first | exact gk_ | fail) (hn : Nice k p q := by first | exact nice_ | fail) (ha : k = true → OpdAll T0 fr args.toList As := by
  first
  | (intro hk
     exact osg_)
  | fail) (c : k = true → p → AP Tryd.prog T0 f As A) (hx : o.dst = some x0 := by rfl) (hd : Nat.blt x0 N.n = true := by rfl) : AL Tryd.prog T0 N d ops Q (o :: rest) fr M := al_k hg (fun e => ay_call ho (ha e) (c e (hn.t e))) OutK.g hx hd h
/-- are there writings ahead of the last operation? -/
def noisyB : List Oper → Bool
  | [] => false
  | [_] => false
  | o :: l => (match o.op with | .store _ _ _ => true | _ => false) || noisyB l
theorem aw_region1q {id : Nat} {l : List Oper} (hn : noisyB l = false) (hm : Tryd.prog.follows .mixedOrders = true) (hB : Region.lexB .any l.toArray = true) (h : AL Tryd.prog T0 N true l.toArray Q l fr M) : AW Tryd.prog T0 N (.region id l.toArray true) Q fr M := aw_region1 hm hB h
/-- the ways of control -/
theorem c_ {p q : Prop} (h : q) (k : q → p := by
  first
  | (intro hh
     first
     | refine aw_seq ?_
     | refine aw_region0 ?_
     | refine al_nil ?_
     | refine th_n ?_
     | refine th_e ?_
     | refine th_r ?_
     | refine ib_n ?_
     | refine ib_e rfl ?_
     | refine ib_e' rfl ?_
     | refine ib_r ?_
     | refine aw_block ?_
     | refine aw_exit ?_
     | refine aw_ret ?_
     | refine aw_skip ?_
     | (apply aw_region1q (by rfl) (by kernel_rfl) (by kernel_rfl))
     repeat (first
       | refine aw_seq ?_
       | refine aw_region0 ?_
       | refine al_nil ?_
       | refine th_n ?_
       | refine th_e ?_
       | refine th_r ?_
       | refine ib_n ?_
       | refine ib_e rfl ?_
       | refine ib_e' rfl ?_
       | refine ib_r ?_
       | refine aw_block ?_
       | refine aw_exit ?_
       | refine aw_ret ?_
       | refine aw_skip ?_
       | (apply aw_region1q (by rfl) (by kernel_rfl) (by kernel_rfl)))
     exact hh
     done)
  | fail) : p := k h

/-! ### steps that write -/
theorem w_alloc {e : TypeId} {z : Value} {zs : List Value} {Z : List AV} [c : AlC e z zs Z] (h : ∀ b, AL Tryd.prog T0 N false ops Q rest ((x0, vA (.pointer (some ⟨b, 0, none⟩))) :: fr) (varO b e Z :: M)) (ho : o.op = .alloc e := by rfl) (hg : o.guard = none := by rfl) (hd : o.dst = some x0 := by rfl) (hN : Nat.blt x0 N.n = true := by rfl) : AL Tryd.prog T0 N false ops Q (o :: rest) fr M := al_alloc hg hd hN ho c.h h
theorem w_box {e : TypeId} {x : Operand} {A : AV} {l : List AV} (h : ∀ b, AL Tryd.prog T0 N false ops Q rest ((x0, vA (.pointer (some ⟨b, 0, none⟩))) :: fr) (varO b e l :: M)) (ho : o.op = .box e x := by rfl) (hg : o.guard = none := by rfl) (hd : o.dst = some x0 := by rfl) (hN : Nat.blt x0 N.n = true := by rfl) (hx : Opd T0 fr x A := by first | exact oo_ | fail) (hc : CellsA A l := by first | exact cam_ | fail) : AL Tryd.prog T0 N false ops Q (o :: rest) fr M := al_box hg hd hN ho hx hc h
theorem w_stv {t e : TypeId} {x y : Operand} {b off n : Nat} {cells cells' l : List AV} {A : AV} {f : Own → List Own} (h : AL Tryd.prog T0 N false ops Q rest fr (f (varO b e cells'))) (ho : o.op = .store t x y := by rfl) (hg : o.guard = none := by rfl) (hd : o.dst = none := by rfl) (hx : Opd T0 fr x (vA (.pointer (some ⟨b, off, none⟩))) := by first | exact oo_ | fail) (hz : ∀ w, (sizeOf t).run Tryd.prog w = .ok n w := by first | exact sz_ | fail) (hy : Opd T0 fr y A := by first | exact oo_ | fail) (hc : CellsA A l := by first | exact cam_ | fail) (hl : l.length = n := by rfl) (h1 : OnesA l := by first | exact ones_ | fail) (hU : UpdF (varO b e cells) M f := by first | exact upf_ | fail) (hs : SetC cells off l cells' := by first | exact setc_ | fail) : AL Tryd.prog T0 N false ops Q (o :: rest) fr M := al_store_var hg hd ho hz hx hy hc hl h1 hU hs h
theorem w_str {α : Type} {T : Ty α} {e : TypeId} {x y : Operand} {l : List α} {d z : α} {by' : Nat} {av : α → AV} {n : Nat} {u : Value} {A : AV} {f : Own → List Own} (h : AL Tryd.prog T0 N false ops Q rest fr (f (rowO T e u (l.set n z)))) (ho : o.op = .store e x y := by rfl) (hg : o.guard = none := by rfl) (hd : o.dst = none := by rfl) (he : El Tryd.prog T e d by' av := by first | exact el_ | fail) (hx : Opd T0 fr x (rpA u (n * T.k)) := by first | exact oo_ | fail) (hy : Opd T0 fr y A := by first | exact oo_ | fail) (hU : UpdF (rowO T e u l) M f := by first | exact upf_ | fail) (hn : n < l.length := by first | exact gb_ | fail) (hc : CellsA A ((T.enc z).map vA) := by first | exact cae_ | fail) : AL Tryd.prog T0 N false ops Q (o :: rest) fr M := al_store_row hg hd ho he hx hy hU hn hc h
theorem w_emp {α : Type} {T : Ty α} {t e : TypeId} {d : α} {by' : Nat} {av : α → AV} (h : ∀ u', u'.cells = #[u'] → u'.oneCell' = true → AL Tryd.prog T0 N false ops Q rest ((x0, vA u') :: fr) (rowO T e u' [] :: M)) (ho : o.op = .buildSlice t 0 #[] := by rfl) (hg : o.guard = none := by rfl) (hd : o.dst = some x0 := by rfl) (hN : Nat.blt x0 N.n = true := by rfl) (hu : Tryd.prog.underlying t = some (.slice e) := by first | exact un_ | fail) (he : El Tryd.prog T e d by' av := by first | exact el_ | fail) : AL Tryd.prog T0 N false ops Q (o :: rest) fr M := al_empty hg hd hN ho hu he h
theorem w_make {α : Type} {T : Ty α} {t e : TypeId} {x y : Operand} {n : Nat} {d : α} {by' : Nat} {av : α → AV} {k k' : IntKind} (h : ∀ u', u'.cells = #[u'] → u'.oneCell' = true → AL Tryd.prog T0 N false ops Q rest ((x0, vA u') :: fr) (rowO T e u' (List.replicate n d) :: M)) (ho : o.op = .makeSlice t x y := by rfl) (hg : o.guard = none := by rfl) (hd : o.dst = some x0 := by rfl) (hN : Nat.blt x0 N.n = true := by rfl) (hu : Tryd.prog.underlying t = some (.slice e) := by first | exact un_ | fail) (he : El Tryd.prog T e d by' av := by first | exact el_ | fail)
    (hx : OpdN T0 fr x k n := by first | exact on_ | fail) (hy : OpdN T0 fr y k' n := by first | exact on_ | fail) (hn : by' * n ≤ 140737488355328 := by omega) (hm : n ≤ maxLen := by
      first
      | (simp only [maxLen]
         omega
         done)
      | fail) : AL Tryd.prog T0 N false ops Q (o :: rest) fr M := al_make hg hd hN ho hu he hx hy hn hm h
theorem w_app {α : Type} {T : Ty α} {t e : TypeId} {x y : Operand} {l m : List α} {d : α} {by' : Nat} {av : α → AV} {u : Value} {f : Own → List Own} (h : ∀ u', u'.cells = #[u'] → u'.oneCell' = true → AL Tryd.prog T0 N false ops Q rest ((x0, vA u') :: fr) (f (rowO T e u' (l ++ m)))) (ho : o.op = .call { callee := .builtin .append, args := #[x, y], argTypes := #[t, t] } := by rfl) (hg : o.guard = none := by rfl) (hd : o.dst = some x0 := by rfl) (hN : Nat.blt x0 N.n = true := by rfl) (hu : Tryd.prog.underlying t = some (.slice e) := by first | exact un_ | fail) (he : El Tryd.prog T e d by' av := by first | exact el_ | fail)
    (hx : Opd T0 fr x (vA u) := by first | exact oo_ | fail) (hy : Opd T0 fr y (slA T m) := by first | exact oo_ | fail) (hU : UpdF (rowO T e u l) M f := by first | exact upf_ | fail) (hn : (l.length + m.length) * by' ≤ 140737488355328 := by first | exact gb_ | fail) (hm : l.length + m.length ≤ maxLen := by
      first
      | (simp only [maxLen]
         exact gb_
         done)
      | fail) : AL Tryd.prog T0 N false ops Q (o :: rest) fr M := al_append hg hd hN ho hu he hx hy hU hn hm h
theorem w_cpr {α : Type} {T : Ty α} {t e : TypeId} {x y : Operand} {l m : List α} {d : α} {by' : Nat} {av : α → AV} {u : Value} {f : Own → List Own} (h : AL Tryd.prog T0 N false ops Q rest ((x0, I (m.take l.length).length) :: fr) (f (rowO T e u (ovr l 0 (m.take l.length))))) (ho : o.op = .call { callee := .builtin .copy, args := #[x, y], argTypes := #[t, t] } := by rfl) (hg : o.guard = none := by rfl) (hd : o.dst = some x0 := by rfl) (hN : Nat.blt x0 N.n = true := by rfl) (hu : Tryd.prog.underlying t = some (.slice e) := by first | exact un_ | fail) (he : El Tryd.prog T e d by' av := by first | exact el_ | fail)
    (hx : Opd T0 fr x (vA u) := by first | exact oo_ | fail) (hy : Opd T0 fr y (slA T m) := by first | exact oo_ | fail) (hU : UpdF (rowO T e u l) M f := by first | exact upf_ | fail) : AL Tryd.prog T0 N false ops Q (o :: rest) fr M := al_copy_row hg hd hN ho hu he hx hy hU h
theorem w_cps {α : Type} {T : Ty α} {t e : TypeId} {x y : Operand} {l m : List α} {d : α} {by' off n : Nat} {av : α → AV} {u : Value} {f : Own → List Own} (h : AL Tryd.prog T0 N false ops Q rest ((x0, I (m.take n).length) :: fr) (f (rowO T e u (ovr l off (m.take n))))) (ho : o.op = .call { callee := .builtin .copy, args := #[x, y], argTypes := #[t, t] } := by rfl) (hg : o.guard = none := by rfl) (hd : o.dst = some x0 := by rfl) (hN : Nat.blt x0 N.n = true := by rfl) (hu : Tryd.prog.underlying t = some (.slice e) := by first | exact un_ | fail) (he : El Tryd.prog T e d by' av := by first | exact el_ | fail)
    (hx : Opd T0 fr x (rsA T.k u off n) := by first | exact oo_ | fail) (hy : Opd T0 fr y (slA T m) := by first | exact oo_ | fail) (hU : UpdF (rowO T e u l) M f := by first | exact upf_ | fail) (hn : off + n ≤ l.length := by first | exact gb_ | fail) : AL Tryd.prog T0 N false ops Q (o :: rest) fr M := al_copy_sub hg hd hN ho hu he hx hy hU hn h
/-- a call whose contract owns something: nothing beforehand ¦ the thing that is picked -/
theorem w_call0 {f : FuncId} {args : Array Operand} {ts : Array TypeId} {As : List AV} {K : AV → List Own → Prop} (h : ∀ A M1, K A M1 → AL Tryd.prog T0 N false ops Q rest ((x0, A) :: fr) (M1 ++ M)) (ho : o.op = .call { callee := .value (.func f), args := args, argTypes := ts } := by rfl) (hg : o.guard = none := by rfl) (hd : o.dst = some x0 := by rfl) (hN : Nat.blt x0 N.n = true := by rfl) (c : AF Tryd.prog T0 f As [] K) (ha : OpdAll T0 fr args.toList As := by first | exact os_ | fail) : AL Tryd.prog T0 N false ops Q (o :: rest) fr M := al_call0 hg hd hN ho ha c h
theorem w_call1 {f : FuncId} {args : Array Operand} {ts : Array TypeId} {As : List AV} {m : Own} {K : AV → List Own → Prop} (h : ∀ A M1, K A M1 → AL Tryd.prog T0 N false ops Q rest ((x0, A) :: fr) (M1 ++ M')) (ho : o.op = .call { callee := .value (.func f), args := args, argTypes := ts } := by rfl) (hg : o.guard = none := by rfl) (hd : o.dst = some x0 := by rfl) (hN : Nat.blt x0 N.n = true := by rfl) (c : AF Tryd.prog T0 f As [m] K) (ha : OpdAll T0 fr args.toList As := by first | exact os_ | fail) (hM : Pick m M M' := by first | exact pick_ | fail) : AL Tryd.prog T0 N false ops Q (o :: rest) fr M := al_call1 hg hd hN ho ha c hM h
/-- the first that is owned is read only from here on -/
theorem w_frz {α : Type} {T : Ty α} {e : TypeId} {u : Value} {l : List α} {ol : List Oper} {fr' : Fr} {M0 : List Own} (h : AL Tryd.prog T0 N false ops Q ol fr' M) (hb : Nat.ble 1 M0.length = true := by rfl) (hM : M0 = rowO T e u l :: M := by rfl) (hz : FzFr u T l fr fr' := by first | exact fzf_ | fail) : AL Tryd.prog T0 N false ops Q ol fr M0 := by
  subst hM
  exact al_freezeF 0 rfl hz h
/-- some row that is owned is read only from here on -/
theorem w_fzg {α : Type} {T : Ty α} {e : TypeId} {u : Value} {l : List α} {ol : List Oper} {fr' : Fr} {M1 M2 : List Own} (h : AL Tryd.prog T0 N false ops Q ol fr' M2) (hM : Pick (rowO T e u l) M M1 := by first | exact pick_ | fail) (hz : FzFr u T l fr fr' := by first | exact fzf_ | fail) (hm : FzM u T l M1 M2 := by first | exact fzmv_ | fail) : AL Tryd.prog T0 N false ops Q ol fr M := al_fz hM hz hm h
end
end Go.Proofs.YtplabpjkkcillaaDoor
