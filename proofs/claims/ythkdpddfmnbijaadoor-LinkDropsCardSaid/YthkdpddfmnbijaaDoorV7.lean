/- Layer 5 (vt): the laws of sums, and of short bytes. No condition. -/
import Derived.Test.YthkdpddfmnbijaaDoorV6
namespace Go.Proofs.YthkdpddfmnbijaaDoor
set_option linter.unusedSimpArgs false
set_option linter.unusedVariables false
set_option maxHeartbeats 4000000
open Go Go.RowKit
set_option maxRecDepth 100000
theorem costM_app (a b : List Cmd) : costM (a ++ b) = costM a + costM b := by simp [costM]
theorem padsM_app (a b : List Cmd) : padsM (a ++ b) = padsM a + padsM b := by simp [padsM]
theorem costM_one (c : Cmd) : costM [c] = lenC c := by simp [costM]
theorem padsM_one (c : Cmd) : padsM [c] = padC c := by simp [padsM]
section
variable {T0 : Gh} {N : Nat} {Q : Post} {fr : Fr} {M M' : List Own} {ops : Array Oper} {o : Oper} {rest : List Oper} {x0 : Nat}
theorem bs_cmd1 {t : TypeId} {x : Operand} {k a b r : Int} (ho : o.op = .buildSlice t 1 #[(0, x)]) (hu : Tryd.prog.underlying t = some (.slice 23)) (hx : Opd T0 fr x (aggA [I k, I a, I b, R r])) : AY Tryd.prog T0 ops o fr M (slA cmdT [(k, a, b, r)]) :=
  AY.sub (ay_buildSlice (T := cmdT) [(k, a, b, r)] ho hu el_cmd rfl (by decide) ⟨_, pk hx ca_agg rfl (.here (.here (.here (.here sc_0)))) pa_nil, rfl⟩) sub_slc
end
/-- ahead of a region that draws its order a row is made read only -/
theorem aw_fzd {P : Program} {T0 : Gh} {N : Nat} {Q : Post} {fr fr' : Fr} {M M1 M2 : List Own} {α : Type} {T : Ty α} {e : TypeId} {u : Value} {l : List α} {id : Nat} {ops : Array Oper} (hM : Pick (rowO T e u l) M M1) (hz : FzFr u T l fr fr') (hm : FzM u T l M1 M2) (h : AW P T0 N (.region id ops true) Q fr' M2) : AW P T0 N (.region id ops true) Q fr M := aw_fz hM hz hm h
attribute [local irreducible] thenA inBlockA AW AL AO QY varO rowO rsA Opd OpdN vA gvA tupA aggA slA slcA ipA rpA EqK LnK IxK LdK FaK FdK
theorem l_VtSums (a b : List Cmd) (c : Cmd) : AP Tryd.prog tab0 7 [slA cmdT a, slA cmdT b, cmdA c] (B true) := by
  obtain ⟨ck, ca, cb, cr⟩ := c
  show AP Tryd.prog tab0 _ [slA cmdT a, slA cmdT b, aggA [I ck, I ca, I cb, R cr]] _
  have hp := padC_le (ck, ca, cb, cr)
  have b1 := costM_le a
  have b2 := costM_le b
  have b3 : (putR' (ck, ca, cb, cr)).1.length ≤ 8 := lenC_le _
  have b4 := padsM_le a
  have b5 := padsM_le b
  have b6 : padsM [(ck, ca, cb, cr)] = padC (ck, ca, cb, cr) := padsM_one _
  have e1 := costM_app
  have e2 := padsM_app
  refine af_intro Tryd.func7 rfl (by decide) Tryd.ntmps7 rfl ?_
  repeat' (first
  | (apply aw_fzd; (case hM => exact pick_); (case hz => exact fzf_); (case hm => exact fzmv_))
  | refine aw_seq ?_
    | refine aw_region0 ?_
    | refine al_nil ?_
    | refine th_n ?_
    | refine th_e ?_
    | refine th_r ?_
    | refine ib_n ?_
    | refine ib_e rfl ?_
    | refine ib_e' rfl ?_
    | refine ib_r ?_
    | refine aw_block ?_
    | refine aw_exit ?_
    | refine aw_ret ?_
    | refine aw_skip ?_
    | (apply aw_region1q (by rfl) (by kernel_rfl) (by kernel_rfl))
  | refine s_y ?_
    | refine c_ ?_
    | (refine aw_if ?_ ?_ <;> intro hb <;> try (exfalso; first | assumption | omega))
    | refine s_call ?_ (c := by first | exact f_told | exact f_vtPut (ck, ca, cb, cr) | exact f_vtCost _ gb_ | exact f_vtPads _ gb_ | exact f_vtIs _ | fail)
    | refine s_op ?_ (hy := by first | (apply bs_cmd1 rfl un_; exact oo_; done) | (apply bs_cmd1 rfl un_; exact oog_; done) | fail)
    | refine s_yg ?_
    | refine s_callg ?_ (c := by intro hk hk2; first | exact f_told | exact f_vtPut (ck, ca, cb, cr) | exact f_vtCost _ gb_ | exact f_vtPads _ gb_ | exact f_vtIs _ | fail)
    | refine s_opg ?_ (hy := by intro hk hk2; first | (apply bs_cmd1 rfl un_; exact oo_; done) | (apply bs_cmd1 rfl un_; exact oog_; done) | fail)
    | refine s_skip ?_
    | ((first | refine w_alloc ?_ | refine w_box ?_) <;> intro bb)
    | ((first | refine w_emp ?_ | refine w_make ?_ | refine w_app ?_) <;> intro u hu1 hu2)
    | refine w_stv ?_ | refine w_str ?_ | refine w_cpr ?_ | refine w_cps ?_
    | refine al_last (by kernel_rfl) ?_
  | refine w_fzg ?_
  | fail)
  all_goals first | exact ⟨_, [], rs_, List.nil_sublist _, Sub.refl _, rfl⟩ | skip
  refine ⟨_, [], rs_, List.nil_sublist _, Sub.eq (congrArg B ?_), rfl⟩
  have b7 : lenC (ck, ca, cb, cr) = (putR' (ck, ca, cb, cr)).1.length := rfl
  simp only [List.nil_append, e1, e2, costM_one, b6, b7]
  simp
  omega
end Go.Proofs.YthkdpddfmnbijaaDoor
