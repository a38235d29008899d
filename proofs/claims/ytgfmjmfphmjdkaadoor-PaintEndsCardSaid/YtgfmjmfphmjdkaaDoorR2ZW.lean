/- Several texts in one: see the comment ahead of each. No condition. -/
import Derived.Test.YtgfmjmfphmjdkaaDoorR2ZB
/- Layers 1 and 2 (signs, wide): each function of the program and of the references yields what its model says. No condition. -/
namespace Go.Proofs.YtgfmjmfphmjdkaaDoor
set_option linter.unusedSimpArgs false
set_option linter.unusedVariables false
set_option linter.unusedSectionVars false
set_option maxHeartbeats 4000000
section
open Go Go.RowKit
variable {T0 : Gh}
attribute [local irreducible] thenA inBlockA AW AL AO QY varO rowO rsA Opd OpdN vA gvA tupA aggA slA slcA ipA rpA EqK LnK IxK LdK FaK FdK
set_option maxRecDepth 100000
theorem AP.to {f : FuncId} {As : List AV} {A A' : AV} (h : AP Tryd.prog T0 f As A) (e : A = A') : AP Tryd.prog T0 f As A' := e ▸ h
def isG (r : Int) : Bool := (decide (0 ≤ r) && decide (r < 55296)) || (decide (57343 < r) && decide (r ≤ 1114111))
def shown (r : Int) : Bool := isG r && decide (32 ≤ r) && (decide (r < 127) || decide (159 < r))
def isW (r : Int) : Bool := spansL.any fun p => decide (p.1 ≤ r) && decide (r ≤ p.2)
def ctl (r : Int) : Bool := (decide (0 ≤ r) && decide (r < 32)) || decide (r = 127)
theorem f_ValidRune (r : Int) : AP Tryd.prog T0 76 [R r] (B (isG r)) := by
  refine af_intro Tryd.func76 rfl (by decide) Tryd.ntmps76 rfl ?_
  repeat' (first
  | refine g1_ ?_ | refine w_frz ?_ | (refine aw_if ?_ ?_ <;> intro hb <;> try exact no_) | (refine sx_ ?_ <;> intro bb) | (refine su_ ?_ <;> intro u hu1 hu2) | fail)
  all_goals refine ⟨_, [], rs_, List.nil_sublist _, Sub.eq (congrArg B ?_), rfl⟩
  all_goals (rw [Bool.eq_iff_iff]; simp [isG]; omega)
theorem f_glyphIs (r : Int) : AP Tryd.prog T0 63 [R r] (B (isG r)) := by
  refine af_intro Tryd.func63 rfl (by decide) Tryd.ntmps63 rfl ?_
  repeat' (first
  | refine sa_ ?_ | refine s_call ?_ (c := by first | exact f_ValidRune _ | fail) | refine s_yg ?_ | refine s_callg ?_ (c := by intro hk hk2; first | exact f_ValidRune _ | fail) | refine sw_ ?_ | refine w_frz ?_ | (refine aw_if ?_ ?_ <;> intro hb <;> try exact no_) | (refine sx_ ?_ <;> intro bb) | (refine su_ ?_ <;> intro u hu1 hu2) | fail)
  exact ⟨_, [], rs_, List.nil_sublist _, Sub.refl _, rfl⟩
theorem f_Shown (r : Int) : AP Tryd.prog T0 38 [R r] (B (shown r)) := by
  refine af_intro Tryd.func38 rfl (by decide) Tryd.ntmps38 rfl ?_
  repeat' (first
  | refine sa_ ?_ | refine s_call ?_ (c := by first | exact f_glyphIs _ | exact f_ref01Is _ | fail) | refine s_yg ?_ | refine s_callg ?_ (c := by intro hk hk2; first | exact f_glyphIs _ | exact f_ref01Is _ | fail) | refine sw_ ?_ | refine w_frz ?_ | (refine aw_if ?_ ?_ <;> intro hb <;> try exact no_) | (refine sx_ ?_ <;> intro bb) | (refine su_ ?_ <;> intro u hu1 hu2) | fail)
  exact ⟨_, [], rs_, List.nil_sublist _, Sub.refl _, rfl⟩
end
/- Layer 2 (wide), on: the program's search among the spans, cells, widths, rows, and the example. No condition. -/
section
open Go Go.RowKit
variable {T0 : Gh} [TabS T0]
attribute [local irreducible] thenA inBlockA AW AL AO QY varO rowO rsA Opd OpdN vA gvA tupA aggA slA slcA ipA rpA EqK LnK IxK LdK FaK FdK
set_option maxRecDepth 100000
theorem spans_sorted (i j : Nat) (p q : Int × Int) (hi : spansL[i]? = some p) (hj : spansL[j]? = some q) (h : i ≤ j) : p.1 ≤ q.1 ∧ p.2 ≤ q.2 := by
  obtain ⟨h1, rfl⟩ := List.getElem?_eq_some_iff.1 hi
  obtain ⟨h2, rfl⟩ := List.getElem?_eq_some_iff.1 hj
  have key : ∀ i j : Fin 11, i ≤ j → spansL[i].1 ≤ spansL[j].1 ∧ spansL[i].2 ≤ spansL[j].2 := by decide
  exact key ⟨i, h1⟩ ⟨j, h2⟩ h
theorem f_Wide (r : Int) : AP Tryd.prog T0 65 [R r] (B (isW r)) := by
  refine af_intro Tryd.func65 rfl (by decide) Tryd.ntmps65 rfl ?_
  repeat' (first
  | refine sa_ ?_
    | refine s_op ?_ (hy := by first | exact ay_indexAddr_arr rfl un_spans sz_span og_spans ol_ (by omega)
                                       | exact ay_indexAddr_arr (m := 0) rfl un_span sz_i32 oo_ ol_ (by decide)
                                       | exact ay_indexAddr_arr (m := 1) rfl un_span sz_i32 oo_ ol_ (by decide)
                                       | exact ay_load1' rfl na_i32 oo_ (spans_at _ _ hp).1
                                       | exact ay_load1' rfl na_i32 oo_ (spans_at _ _ hp).2 | fail)
  | refine s_yg ?_
    | refine s_opg ?_ (hy := by intro hk hk2; first | exact ay_indexAddr_arr rfl un_spans sz_span og_spans ol_ (by omega)
                                                      | exact ay_indexAddr_arr (m := 0) rfl un_span sz_i32 oo_ ol_ (by decide)
                                                      | exact ay_indexAddr_arr (m := 1) rfl un_span sz_i32 oo_ ol_ (by decide)
                                                      | exact ay_load1' rfl na_i32 oo_ (spans_at _ _ hp).1
                                                      | exact ay_load1' rfl na_i32 oo_ (spans_at _ _ hp).2 | fail)
  | refine sw_ ?_ | refine w_frz ?_ | (refine aw_if ?_ ?_ <;> intro hb <;> try exact no_) | (refine sx_ ?_ <;> intro bb) | (refine su_ ?_ <;> intro u hu1 hu2) | fail)
  refine aw_for2 (fun lo hi : Nat => [(0, R r), (3, I lo), (4, I hi)]) (fun _ _ => []) (fun lo hi => lo ≤ hi ∧ hi ≤ 11 ∧ (∀ i p, spansL[i]? = some p → i < lo → p.2 < r) ∧ (∀ i p, spansL[i]? = some p → hi ≤ i → r < p.1)) (fun lo hi => hi - lo) 0 11
    ⟨by omega, by omega, fun _ _ _ h => by omega, fun i p h h' => absurd (List.getElem?_eq_some_iff.1 h).1 (by simp [spansL]; omega)⟩ wk_ rfl ?_
  rintro lo hi ⟨h1, h2, h3, h4⟩
  by_cases hlt : lo < hi
  · obtain ⟨p, hp⟩ : ∃ p, spansL[(lo + hi) / 2]? = some p := ⟨_, List.getElem?_eq_getElem (by simp [spansL]; omega)⟩
    repeat' (first
    | refine sa_ ?_
      | refine s_op ?_ (hy := by first | exact ay_indexAddr_arr rfl un_spans sz_span og_spans ol_ (by omega)
                                         | exact ay_indexAddr_arr (m := 0) rfl un_span sz_i32 oo_ ol_ (by decide)
                                         | exact ay_indexAddr_arr (m := 1) rfl un_span sz_i32 oo_ ol_ (by decide)
                                         | exact ay_load1' rfl na_i32 oo_ (spans_at _ _ hp).1
                                         | exact ay_load1' rfl na_i32 oo_ (spans_at _ _ hp).2 | fail)
    | refine s_yg ?_
      | refine s_opg ?_ (hy := by intro hk hk2; first | exact ay_indexAddr_arr rfl un_spans sz_span og_spans ol_ (by omega)
                                                        | exact ay_indexAddr_arr (m := 0) rfl un_span sz_i32 oo_ ol_ (by decide)
                                                        | exact ay_indexAddr_arr (m := 1) rfl un_span sz_i32 oo_ ol_ (by decide)
                                                        | exact ay_load1' rfl na_i32 oo_ (spans_at _ _ hp).1
                                                        | exact ay_load1' rfl na_i32 oo_ (spans_at _ _ hp).2 | fail)
    | refine sw_ ?_ | refine w_frz ?_ | (refine aw_if ?_ ?_ <;> intro hb <;> try exact no_) | (refine sx_ ?_ <;> intro bb) | (refine su_ ?_ <;> intro u hu1 hu2) | fail)
    · refine ⟨lo, (lo + hi) / 2, ⟨by omega, by omega, h3, fun i q hq hi' => ?_⟩, by omega, wk_, rfl⟩
      have := (spans_sorted _ _ _ _ hp hq hi').1
      omega
    · refine ⟨(lo + hi) / 2 + 1, hi, ⟨by omega, by omega, fun i q hq hi' => ?_, h4⟩, by omega, wk_, rfl⟩
      have := (spans_sorted _ _ _ _ hq hp (by omega)).2
      omega
    · refine ⟨_, [], rs_, List.nil_sublist _, Sub.eq (congrArg B ?_), rfl⟩
      rw [eq_comm, isW, List.any_eq_true]
      exact ⟨p, List.mem_of_getElem? hp, by simp; omega⟩
  · repeat' (first
    | refine sa_ ?_
      | refine s_op ?_ (hy := by first | exact ay_indexAddr_arr rfl un_spans sz_span og_spans ol_ (by omega)
                                         | exact ay_indexAddr_arr (m := 0) rfl un_span sz_i32 oo_ ol_ (by decide)
                                         | exact ay_indexAddr_arr (m := 1) rfl un_span sz_i32 oo_ ol_ (by decide)
                                         | exact ay_load1' rfl na_i32 oo_ (spans_at _ _ hp).1
                                         | exact ay_load1' rfl na_i32 oo_ (spans_at _ _ hp).2 | fail)
    | refine s_yg ?_
      | refine s_opg ?_ (hy := by intro hk hk2; first | exact ay_indexAddr_arr rfl un_spans sz_span og_spans ol_ (by omega)
                                                        | exact ay_indexAddr_arr (m := 0) rfl un_span sz_i32 oo_ ol_ (by decide)
                                                        | exact ay_indexAddr_arr (m := 1) rfl un_span sz_i32 oo_ ol_ (by decide)
                                                        | exact ay_load1' rfl na_i32 oo_ (spans_at _ _ hp).1
                                                        | exact ay_load1' rfl na_i32 oo_ (spans_at _ _ hp).2 | fail)
    | refine sw_ ?_ | refine w_frz ?_ | (refine aw_if ?_ ?_ <;> intro hb <;> try exact no_) | (refine sx_ ?_ <;> intro bb) | (refine su_ ?_ <;> intro u hu1 hu2) | fail)
    refine ⟨_, [], rs_, List.nil_sublist _, Sub.eq (congrArg B ?_), rfl⟩
    rw [eq_comm, isW, List.any_eq_false]
    intro p hp
    obtain ⟨i, hi⟩ := List.mem_iff_getElem?.1 hp
    have e1 := h3 i p hi
    have e2 := h4 i p hi
    simp; omega
/-! ### how a sign is shown -/
def cellsM (r : Int) : List Cell := if ctl r then [(94, 0), (if r = 127 then 63 else r + 64, 0)] else if shown r then (if isW r then [(r, 1), (r, 2)] else [(r, 0)]) else [(65533, 0)]
theorem cellsM_len (r : Int) : 1 ≤ (cellsM r).length ∧ (cellsM r).length ≤ 2 := by unfold cellsM; split <;> (try split) <;> (try split) <;> simp
theorem shown_of_isW {r : Int} (h : isW r = true) : shown r = true ∧ ctl r = false := by
  simp [isW, spansL] at h
  simp [shown, isG, ctl]; omega
theorem ctl_shown {r : Int} (h : shown r = true) : ctl r = false := by
  simp [shown, isG] at h
  simp [ctl]; omega
theorem cellsM_width (r : Int) : (cellsM r).length = if ctl r || isW r then 2 else 1 := by
  unfold cellsM
  cases hc : ctl r <;> cases hw : isW r <;> cases hs : shown r <;> simp
  have := shown_of_isW hw
  rw [this.1] at hs; cases hs
theorem xor64 (r : Int) (h : 0 ≤ r ∧ r < 32 ∨ r = 127) (t : TypeId) (P : Program) (w : World) : (binOp .xor t (.int .i32 r) (.int .i32 64)).run P w = .ok (.int .i32 (if r = 127 then 63 else r + 64)) w := by
  have key : ∀ n : Fin 32, (binOp .xor t (.int .i32 ((n : Nat) : Int)) (.int .i32 64)).run P w = .ok (.int .i32 (((n : Nat) : Int) + 64)) w := by
    intro n
    have k2 : ∀ n : Fin 32, IntKind.i32.wrap ((BitVec.ofInt 32 ((n : Nat) : Int) ^^^ BitVec.ofInt 32 64).toNat : Int) = ((n : Nat) : Int) + 64 := by decide
    have := k2 n
    simp [binOp, Op.intBits, IntKind.bits] at this ⊢
    exact this
  rcases h with ⟨h1, h2⟩ | h
  · obtain ⟨n, rfl⟩ := Int.eq_ofNat_of_zero_le h1
    rw [if_neg (by omega)]
    exact key ⟨n, by omega⟩
  · subst h
    simp [binOp, Op.intBits, IntKind.bits]
    decide
theorem sub_cells {l l' : List Cell} (h : l = l') : Sub (slA cellT l) (slA cellT l') := h ▸ Sub.refl _
theorem f_Cells (r : Int) : AP Tryd.prog T0 40 [R r] (slA cellT (cellsM r)) := by
  refine af_intro Tryd.func40 rfl (by decide) Tryd.ntmps40 rfl ?_
  repeat' (first
  | refine sa_ ?_ | refine s_call ?_ (c := by first | exact f_Shown _ | exact f_ref02Shown _ | exact f_Wide _ | exact f_ref02Wide _ | fail) | refine s_op ?_ (hy := by first | exact ay_bits rfl oo_ oo_ (xor64 _ (by omega) _ _) | fail) | refine s_yg ?_ | refine s_callg ?_ (c := by intro hk hk2; first | exact f_Shown _ | exact f_ref02Shown _ | exact f_Wide _ | exact f_ref02Wide _ | fail) | refine s_opg ?_ (hy := by intro hk hk2; first | exact ay_bits rfl oo_ oo_ (xor64 _ (by omega) _ _) | fail) | refine sw_ ?_ | refine w_frz ?_ | (refine aw_if ?_ ?_ <;> intro hb <;> try exact no_) | (refine sx_ ?_ <;> intro bb) | (refine su_ ?_ <;> intro u hu1 hu2) | fail)
  all_goals refine ⟨_, [], rs_, List.nil_sublist _, sub_cells ?_, rfl⟩
  all_goals first
    | (have hc : ctl r = true := (by simp [ctl]; omega); simp only [cellsM, hc, if_true]; done)
    | (have hc : ctl r = false := (by simp [ctl]; omega); simp [cellsM, *]; done)
theorem f_Width (r : Int) : AP Tryd.prog T0 64 [R r] (I (cellsM r).length) := by
  refine af_intro Tryd.func64 rfl (by decide) Tryd.ntmps64 rfl ?_
  repeat' (first
  | refine sa_ ?_ | refine s_call ?_ (c := by first | exact f_Shown _ | exact f_ref02Shown _ | exact f_Wide _ | exact f_ref02Wide _ | exact f_Cells _ | exact f_ref02Cells _ | fail) | refine s_op ?_ (hy := by first | exact ay_bits rfl oo_ oo_ (xor64 _ (by omega) _ _) | fail) | refine s_yg ?_ | refine s_callg ?_ (c := by intro hk hk2; first | exact f_Shown _ | exact f_ref02Shown _ | exact f_Wide _ | exact f_ref02Wide _ | exact f_Cells _ | exact f_ref02Cells _ | fail) | refine s_opg ?_ (hy := by intro hk hk2; first | exact ay_bits rfl oo_ oo_ (xor64 _ (by omega) _ _) | fail) | refine sw_ ?_ | refine w_frz ?_ | (refine aw_if ?_ ?_ <;> intro hb <;> try exact no_) | (refine sx_ ?_ <;> intro bb) | (refine su_ ?_ <;> intro u hu1 hu2) | fail)
  all_goals refine ⟨_, [], rs_, List.nil_sublist _, Sub.eq ?_, rfl⟩
  · rw [cellsM_width, if_pos (by simp [ctl]; exact hb)]; simp
  · rw [cellsM_width, if_neg (by simp [ctl, hb.2]; omega)]; simp
end
/- Layer 2 (wide): rows. No condition. -/
section
open Go Go.RowKit
variable {T0 : Gh} [TabS T0]
attribute [local irreducible] thenA inBlockA AW AL AO QY varO rowO rsA Opd OpdN vA gvA tupA aggA slA slcA ipA rpA EqK LnK IxK LdK FaK FdK
set_option maxRecDepth 100000
/-! ### rows -/
end
/- Layer 2 (wide): right cells, rows that are the same, the example. No condition. -/
section
open Go Go.RowKit
variable {T0 : Gh} [TabS T0]
attribute [local irreducible] thenA inBlockA AW AL AO QY varO rowO rsA Opd OpdN vA gvA tupA aggA slA slcA ipA rpA EqK LnK IxK LdK FaK FdK
set_option maxRecDepth 100000
def isCell (c : Cell) : Bool := shown c.1 && (if isW c.1 then decide (c.2 = 1) || decide (c.2 = 2) else decide (c.2 = 0))
theorem f_wideIs (c : Cell) : AP Tryd.prog T0 62 [cellA c] (B (isCell c)) := by
  obtain ⟨r, k⟩ := c
  refine af_intro Tryd.func62 rfl (by decide) Tryd.ntmps62 rfl ?_
  repeat' (first
  | refine sa_ ?_ | refine s_call ?_ (c := by first | exact f_Shown _ | exact f_ref02Shown _ | exact f_Wide _ | exact f_ref02Wide _ | fail) | refine s_yg ?_ | refine s_callg ?_ (c := by intro hk hk2; first | exact f_Shown _ | exact f_ref02Shown _ | exact f_Wide _ | exact f_ref02Wide _ | fail) | refine sw_ ?_ | refine w_frz ?_ | (refine aw_if ?_ ?_ <;> intro hb <;> try exact no_) | (refine sx_ ?_ <;> intro bb) | (refine su_ ?_ <;> intro u hu1 hu2) | fail)
  all_goals refine ⟨_, [], rs_, List.nil_sublist _, Sub.eq (congrArg B ?_), rfl⟩
  all_goals (cases hs : shown r <;> cases hw : isW r <;> simp_all [isCell])
  all_goals first | omega | (rw [Bool.eq_iff_iff]; simp; omega) | skip
end
end Go.Proofs.YtgfmjmfphmjdkaaDoor
