/- Layer 27 (belief): the library's chunks of a slice, as an iterator; is a belief right, by the program. No condition. -/
import Derived.Test.YtockidoncngdbaaGreatDoorQ2B2
namespace Go.Proofs.YtockidoncngdbaaGreatDoor
set_option linter.unusedSimpArgs false
set_option linter.unusedVariables false
set_option linter.unusedSectionVars false
set_option maxHeartbeats 4000000
open Go Go.RowKit
section
variable {T0 : Gh} {N : Fz} {Q : Post} {fr : Fr} {M : List Own} {ops : Array Oper} {o : Oper} {rest : List Oper} {x0 : Nat}
/-- a function value is made -/
theorem ay_mkfn {P : Program} {f : FuncId} {caps : Array Operand} {As : List AV} (ho : o.op = .makeFunc (.func f) #[] caps) (hx : OpdAll T0 fr caps.toList As) : AY P T0 ops o fr M (fnA f As) := ay_of fun w0 G F a w hs hf => by
  have hr := hx.use (o := o) (ops := ops) hs.tab (fun x hx => by simp only [ho, Op.operands]; simpa using hx) hf
  refine ⟨.func (.func f) #[] (caps.map a.eval), ?_, .of ⟨caps.toList.map a.eval, ?_, hr⟩⟩
  · simp only [execOp, ho, Sem.run_bind, show ∀ (fn : Fn) (first cap : Array Value), (Instr.makeFunc fn first cap).run P w = .ok (.func fn first cap) w from fun _ _ _ => rfl, Result.andThen_ok, Sem.run_pure]
    simp
  · rw [← Array.toList_map, Array.toArray_toList]
theorem s_yi {A : AV} (h : ALi Tryz.prog T0 N ops Q rest ((x0, A) :: fr) M) (hg : GK Tryz.prog T0 ops o fr true := by first | exact gk1_ | fail) (hy : AY Tryz.prog T0 ops o fr M A := by first | exact y_ | fail) (hx : o.dst = some x0 := by rfl) (hd : Nat.blt x0 N.n = true := by rfl) (hn : noDefB [o] = true := by rfl) : ALi Tryz.prog T0 N ops Q (o :: rest) fr M :=
  ali_y (OutK.t.qy (hg M A fun _ => hy)) hx hd hn h
theorem s_opi {A : AV} (h : ALi Tryz.prog T0 N ops Q rest ((x0, A) :: fr) M) (hg : GK Tryz.prog T0 ops o fr true := by first | exact gk1_ | fail) (hy : AY Tryz.prog T0 ops o fr M A) (hx : o.dst = some x0 := by rfl) (hd : Nat.blt x0 N.n = true := by rfl) (hn : noDefB [o] = true := by rfl) : ALi Tryz.prog T0 N ops Q (o :: rest) fr M :=
  ali_y (OutK.t.qy (hg M A fun _ => hy)) hx hd hn h
end
variable {T0 : Gh} [TabS T0]
attribute [local irreducible] thenA inBlockA AW AL AO QY varO rowO rsA Opd OpdN vA gvA tupA aggA slA slcA ipA rpA EqK LnK IxK LdK FaK FdK
set_option maxRecDepth 100000
abbrev bx (b : Nat) : AV := vA (.pointer (some ⟨b, 0, none⟩))
theorem f_chunk (l : List Guess) (n : Nat) (hn : 1 ≤ n) : AF Tryz.prog T0 36 [slA guT l, I n] [] (fun A M' => ∃ b2 b3, A = fnA 58 [bx b2, bx b3] ∧ M' = [varO b3 3 [I n], varO b2 22 [slA guT l]]) := by
  refine af_intro Tryz.func36 rfl (by decide) Tryz.ntmps36 rfl ?_
  repeat' (first
  | fail
  | refine s_y ?_
    | refine c_ ?_
    | (refine aw_if ?_ ?_ <;> intro hb <;> try (exfalso; first | assumption | omega | (simp only [or_self, and_self, not_true_eq_false, not_false_eq_true, or_false, false_or, and_false, false_and, true_and, and_true] at hb; first | done | omega)))
    | refine s_call ?_ (c := by first | fail | fail)
    | refine s_op ?_ (hy := by first | (apply ay_mkfn rfl; exact os_) | fail)
    | refine s_yg ?_
    | refine s_callg ?_ (c := by intro hk hk2; first | fail | fail)
    | refine s_opg ?_ (hy := by intro hk hk2; first | (apply ay_mkfn rfl; exact os_) | fail)
    | refine s_skip ?_
    | ((first | refine w_alloc ?_ | refine w_box ?_) <;> intro bb)
    | ((first | refine w_emp ?_ | refine w_make ?_ | refine w_app ?_) <;> intro u hu1 hu2)
    | refine w_stv ?_ | refine w_str ?_ | refine w_cpr ?_ | refine w_cps ?_
    | refine al_last (by kernel_rfl) ?_
  | fail)
  all_goals first | (exfalso; omega) | skip
  exact ⟨_, _, rl_, List.Sublist.refl _, _, _, rfl, rfl⟩
theorem take_range_map {α : Type} (f : Nat → α) {k h : Nat} (hk : k < h) : ((List.range h).map f).take k ++ f k :: ((List.range h).map f).drop (k + 1) = (List.range h).map f := by
  have e : ((List.range h).map f)[k]? = some (f k) := by simp [hk]
  have hlt : k < ((List.range h).map f).length := by simpa using hk
  have e2 : ((List.range h).map f)[k] = f k := by simp
  rw [← e2, ← List.drop_eq_getElem_cons hlt, List.take_append_drop]
theorem take_succ_map {α : Type} (f : Nat → α) {k h : Nat} (hk : k < h) : ((List.range h).map f).take (k + 1) = ((List.range h).map f).take k ++ [f k] := by
  rw [List.take_add_one]; simp [hk]
theorem x_chunk (l : List Guess) (w h b2 b3 : Nat) (hw1 : 1 ≤ w) (hw : w ≤ 80) (hl : l.length = w * h) (hl2 : l.length ≤ 1920) : IterC Tryz.prog 58 [bx b2, bx b3] [varO b3 3 [I w], varO b2 22 [slA guT l]] (slA guT) ((List.range h).map (rowOf w l)) := by
  refine it_intro Tryz.func58 rfl (by decide) Tryz.ntmps58 rfl rfl fun T1 lo Y X hY => ?_
  refine aw_seq ?_
  repeat' (first
  | refine aw_regionY (id := 4) ?_
    | refine s_yi ?_
    | refine s_opi ?_ (hy := by first | (apply k_ld rfl; exact oo_; exact v1_ (List.Mem.head _) rfl) | (apply k_ld rfl; exact oo_; exact v1_ (List.Mem.tail _ (List.Mem.head _)) rfl) | (apply ay_slice3 rfl un_ el_; exact oo_; exact lo_; exact on_; exact on_; exact le_; exact le_; done) | fail)
    | refine ali_nil ?_
    | refine ali_yield _ _ _ [varO b3 3 [I w], varO b2 22 [slA guT l]] rfl rfl rfl (want_plain rfl) rfl rfl hA hY hf ?_ ?_
  | refine s_y ?_
    | refine c_ ?_
    | (refine aw_if ?_ ?_ <;> intro hb <;> try (exfalso; first | assumption | omega | (simp only [or_self, and_self, not_true_eq_false, not_false_eq_true, or_false, false_or, and_false, false_and, true_and, and_true] at hb; first | done | omega)))
    | refine s_call ?_ (c := by first | fail | fail)
    | refine s_op ?_ (hy := by first | (apply k_ld rfl; exact oo_; exact v1_ (List.Mem.head _) rfl) | (apply k_ld rfl; exact oo_; exact v1_ (List.Mem.tail _ (List.Mem.head _)) rfl) | fail)
    | refine s_yg ?_
    | refine s_callg ?_ (c := by intro hk hk2; first | fail | fail)
    | refine s_opg ?_ (hy := by intro hk hk2; first | (apply k_ld rfl; exact oo_; exact v1_ (List.Mem.head _) rfl) | (apply k_ld rfl; exact oo_; exact v1_ (List.Mem.tail _ (List.Mem.head _)) rfl) | fail)
    | refine s_skip ?_
    | ((first | refine w_alloc ?_ | refine w_box ?_) <;> intro bb)
    | ((first | refine w_emp ?_ | refine w_make ?_ | refine w_app ?_) <;> intro u hu1 hu2)
    | refine w_stv ?_ | refine w_str ?_ | refine w_cpr ?_ | refine w_cps ?_
    | refine al_last (by kernel_rfl) ?_
  | fail)
  refine aw_fl (fun k : Nat => [(0, yA lo), (1, bx b2), (2, bx b3), (4, I (k * w : Nat))]) (fun k => [varO b3 3 [I w], varO b2 22 [slA guT l]] ++ Y (((List.range h).map (rowOf w l)).take k)) (fun k => k ≤ h) (fun k => h - k) 0 (Nat.zero_le _) (by rw [Nat.zero_mul]; exact wk_) (List.Sublist.refl _) ?_
  rintro k h1
  obtain ⟨p, hp⟩ : ∃ p, p = k * w := ⟨_, rfl⟩
  have hp1 : (k + 1) * w = p + w := by rw [Nat.add_mul, Nat.one_mul, hp]
  rw [← hp]
  simp only [List.cons_append, List.nil_append]
  by_cases hlt : k < h
  · have hle : (k + 1) * w ≤ h * w := Nat.mul_le_mul_right _ hlt
    rw [hp1, Nat.mul_comm h w, ← hl] at hle
    have hf := take_range_map (rowOf w l) hlt
    have hlen : ((l.drop p).take (l.length - p)).length = l.length - p := by simp
    have hA : Sub (slcA guT ((l.drop p).take (p + min w ((l.drop p).take (l.length - p)).length - p))) (slA guT (rowOf w l k)) := by
      rw [hlen, show min w (l.length - p) = w by omega, Nat.add_sub_cancel_left, hp]; exact sub_slc
    repeat' (first
    | refine aw_regionY (id := 4) ?_
      | refine s_yi ?_
      | refine s_opi ?_ (hy := by first | (apply k_ld rfl; exact oo_; exact v1_ (List.Mem.head _) rfl) | (apply k_ld rfl; exact oo_; exact v1_ (List.Mem.tail _ (List.Mem.head _)) rfl) | (apply ay_slice3 rfl un_ el_; exact oo_; exact lo_; exact on_; exact on_; exact le_; exact le_; done) | fail)
      | refine ali_nil ?_
      | refine ali_yield _ _ _ [varO b3 3 [I w], varO b2 22 [slA guT l]] rfl rfl rfl (want_plain rfl) rfl rfl hA hY hf ?_ ?_
    | refine aw_seq ?_
      | refine aw_region0 ?_
      | refine al_nil ?_
      | refine th_n ?_
      | refine th_e ?_
      | refine th_r ?_
      | refine ib_n ?_
      | refine ib_e rfl ?_
      | refine ib_e' rfl ?_
      | refine ib_r ?_
      | refine aw_block ?_
      | refine aw_exit ?_
      | refine aw_ret ?_
      | refine aw_skip ?_
      | (apply aw_region1q (by rfl) (by kernel_rfl) (by kernel_rfl))
    | refine s_y ?_
      | refine c_ ?_
      | (refine aw_if ?_ ?_ <;> intro hb <;> try (exfalso; first | assumption | omega | (simp only [or_self, and_self, not_true_eq_false, not_false_eq_true, or_false, false_or, and_false, false_and, true_and, and_true] at hb; first | done | omega)))
      | refine s_call ?_ (c := by first | fail | fail)
      | refine s_op ?_ (hy := by first | (apply k_ld rfl; exact oo_; exact v1_ (List.Mem.head _) rfl) | (apply k_ld rfl; exact oo_; exact v1_ (List.Mem.tail _ (List.Mem.head _)) rfl) | fail)
      | refine s_yg ?_
      | refine s_callg ?_ (c := by intro hk hk2; first | fail | fail)
      | refine s_opg ?_ (hy := by intro hk hk2; first | (apply k_ld rfl; exact oo_; exact v1_ (List.Mem.head _) rfl) | (apply k_ld rfl; exact oo_; exact v1_ (List.Mem.tail _ (List.Mem.head _)) rfl) | fail)
      | refine s_skip ?_
      | ((first | refine w_alloc ?_ | refine w_box ?_) <;> intro bb)
      | ((first | refine w_emp ?_ | refine w_make ?_ | refine w_app ?_) <;> intro u hu1 hu2)
      | refine w_stv ?_ | refine w_str ?_ | refine w_cpr ?_ | refine w_cps ?_
      | refine al_last (by kernel_rfl) ?_
    | refine w_fzg ?_
    | fail)
    all_goals first | (exfalso; omega) | (exfalso; simp at hb; done) | skip
    · exact ⟨k + 1, by omega, by omega, by rw [hp1]; exact wk_, by rw [take_succ_map _ hlt]; exact List.Sublist.refl _⟩
    · exact .inr ⟨_, _, List.take_append_drop (k + 1) _, by rw [take_succ_map _ hlt]; exact List.Sublist.cons _ (List.Sublist.cons _ (List.Sublist.refl _))⟩
  · have hke : k = h := by omega
    have hpe : p = l.length := by rw [hp, hke, hl, Nat.mul_comm]
    repeat' (first
    | refine aw_regionY (id := 4) ?_
      | refine s_yi ?_
      | refine s_opi ?_ (hy := by first | (apply k_ld rfl; exact oo_; exact v1_ (List.Mem.head _) rfl) | (apply k_ld rfl; exact oo_; exact v1_ (List.Mem.tail _ (List.Mem.head _)) rfl) | (apply ay_slice3 rfl un_ el_; exact oo_; exact lo_; exact on_; exact on_; exact le_; exact le_; done) | fail)
      | refine ali_nil ?_
      | refine ali_yield _ _ _ [varO b3 3 [I w], varO b2 22 [slA guT l]] rfl rfl rfl (want_plain rfl) rfl rfl hA hY hf ?_ ?_
    | refine s_y ?_
      | refine c_ ?_
      | (refine aw_if ?_ ?_ <;> intro hb <;> try (exfalso; first | assumption | omega | (simp only [or_self, and_self, not_true_eq_false, not_false_eq_true, or_false, false_or, and_false, false_and, true_and, and_true] at hb; first | done | omega)))
      | refine s_call ?_ (c := by first | fail | fail)
      | refine s_op ?_ (hy := by first | (apply k_ld rfl; exact oo_; exact v1_ (List.Mem.head _) rfl) | (apply k_ld rfl; exact oo_; exact v1_ (List.Mem.tail _ (List.Mem.head _)) rfl) | fail)
      | refine s_yg ?_
      | refine s_callg ?_ (c := by intro hk hk2; first | fail | fail)
      | refine s_opg ?_ (hy := by intro hk hk2; first | (apply k_ld rfl; exact oo_; exact v1_ (List.Mem.head _) rfl) | (apply k_ld rfl; exact oo_; exact v1_ (List.Mem.tail _ (List.Mem.head _)) rfl) | fail)
      | refine s_skip ?_
      | ((first | refine w_alloc ?_ | refine w_box ?_) <;> intro bb)
      | ((first | refine w_emp ?_ | refine w_make ?_ | refine w_app ?_) <;> intro u hu1 hu2)
      | refine w_stv ?_ | refine w_str ?_ | refine w_cpr ?_ | refine w_cps ?_
      | refine al_last (by kernel_rfl) ?_
    | fail)
    all_goals first | (exfalso; omega) | skip
    exact .inl (by rw [List.take_of_length_le (by simp; omega)]; exact List.Sublist.cons _ (List.Sublist.cons _ (List.Sublist.refl _)))
end Go.Proofs.YtockidoncngdbaaGreatDoor
