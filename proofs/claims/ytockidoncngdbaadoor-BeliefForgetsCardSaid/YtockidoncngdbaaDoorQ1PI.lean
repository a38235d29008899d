/- The law's card: the function answers true, whatever it is given. No condition. -/
import Derived.Test.YtockidoncngdbaaDoorQ1HC
import Derived.Test.YtockidoncngdbaaDoorQ1ZY
namespace Go.Proofs.YtockidoncngdbaaDoor
set_option linter.unusedSimpArgs false
set_option linter.unusedVariables false
set_option linter.unusedSectionVars false
set_option maxHeartbeats 4000000
open Go.ChangeShapes Go.WideShapes Go.ChangeAt Go.RowKit
namespace beliefForgets
set_option maxRecDepth 100000
theorem plainParams : ∀ t ∈ Tryd.f11.params.toList, Tryd.prog.readableRec t = true ∧ t < Tryd.prog.types.size := by
  rw [Tryd.params11]
  intro t ht
  simp only [List.mem_cons, List.not_mem_nil, or_false] at ht
  rcases ht with rfl | rfl | rfl | rfl | rfl | rfl <;> exact ⟨by kernel_rfl, of_decide_eq_true (by kernel_rfl)⟩
theorem contract (H : Type) (enc : TypeId × Value → H) (W : World) (base : Nat) (args : Array Value) (ds gs : List (DataW H)) (before : List MemPlace)
    (hval : ∀ (j : Nat) t v, Tryd.f11.params[j]? = some t → args[j]? = some v → Value.okWide Tryd.prog W .any base t v)
    (hW : DataW.Whole enc Tryd.prog Tryd.f11.params.toList Rows.beliefForgetsSpec.vars false W args.toList ds gs before) (hL : laidMetH Tryd.prog Rows.beliefForgetsRow.laid W) :
    Calls Tryd.prog 11 args W fun e W' => ∃ v, e = .returned v ∧ Rows.beliefForgetsSpec.post enc Tryd.prog Tryd.f11 false true false false W args v W' := by
  have hW' := hW
  obtain ⟨p, q, hA0, hV, _, hfz, hnd⟩ := hW
  have hA : DataW.TrodAll enc Tryd.prog W 0 (fun _ => true) true Tryd.f11.params.toList args.toList ds p := hA0
  rw [Tryd.params11] at hA hval
  obtain ⟨v0, vs0, d0, ds0, p0, q0, g0, k0, m0, h0, r0⟩ := trodAll_cons hA
  subst k0
  obtain ⟨v1, vs1, d1, ds1, p1, q1, g1, k1, m1, h1, r1⟩ := trodAll_cons r0
  subst g1; subst k1
  obtain ⟨v2, vs2, d2, ds2, p2, q2, g2, k2, m2, h2, r2⟩ := trodAll_cons r1
  subst g2; subst k2
  obtain ⟨v3, vs3, d3, ds3, p3, q3, g3, k3, m3, h3, r3⟩ := trodAll_cons r2
  subst g3; subst k3
  obtain ⟨v4, vs4, d4, ds4, p4, q4, g4, k4, m4, h4, r4⟩ := trodAll_cons r3
  subst g4; subst k4
  obtain ⟨v5, vs5, d5, ds5, p5, q5, g5, k5, m5, h5, r5⟩ := trodAll_cons r4
  subst g5; subst k5
  obtain ⟨gn, kn, _⟩ := trodAll_nil r5
  subst gn; subst kn
  obtain rfl : args = #[v0, v1, v2, v3, v4, v5] := by cases args; simp_all
  obtain ⟨hg, _⟩ := trodVars_none hV
  subst hg
  obtain ⟨a0, rep0, _⟩ := rd_agg rdf_bel us_be (hval 0 24 v0 rfl rfl) h0
  obtain ⟨a1, rep1, _⟩ := rd_agg rdf_term us_term (hval 1 43 v1 rfl rfl) h1
  obtain ⟨a2, rep2, _⟩ := rd_agg rdf_term us_term (hval 2 43 v2 rfl rfl) h2
  obtain ⟨a3, rep3, ok3⟩ := rd_int Tryd.underlying3 (hval 3 3 v3 rfl rfl) h3
  obtain ⟨a4, rep4, ok4⟩ := rd_int Tryd.underlying3 (hval 4 3 v4 rfl rfl) h4
  obtain ⟨a5, rep5⟩ := rd_bool Tryd.underlying4 (hval 5 4 v5 rfl rfl)
  exact ((l_BeliefForgets a0.1 a0.2.1 a0.2.2.1 a0.2.2.2.1 a0.2.2.2.2.1 a0.2.2.2.2.2.1 a0.2.2.2.2.2.2 a1.1.1 a1.1.2.1 a1.1.2.2 a1.2.1 a1.2.2.1 a1.2.2.2 a2.1.1 a2.1.2.1 a2.1.2.2 a2.2.1 a2.2.2.1 a2.2.2.2 a3 a4 a5).calls W (initG W) [] W [v0, v1, v2, v3, v4, v5] (st_init (tableReadSU hL (by repeat' (first | exact List.Mem.head _ | apply List.Mem.tail)) (by repeat' (first | exact List.Mem.head _ | apply List.Mem.tail)) (by repeat' (first | exact List.Mem.head _ | apply List.Mem.tail)))) ⟨rep0, ⟨rep1, ⟨rep2, ⟨rep3, ⟨rep4, ⟨rep5, trivial⟩⟩⟩⟩⟩⟩).mono fun e W' h => ans_true laidOut plainParams rfl rfl un_bool hW' rfl h
theorem laid_met (os : Os) : laidMet Tryd.prog Rows.beliefForgetsRow.laid ((laidWorld os).forCall (fun _ _ => 0) ⟨#[], #[Value.agg #[.int .i64 0, .int .i64 0, .slice none 0 0, .int .i64 0, .int .i64 0, .bool false, .bool false], Value.agg #[.int .i64 0, .int .i64 0, .slice none 0 0, .int .i64 0, .int .i64 0, .bool false], Value.agg #[.int .i64 0, .int .i64 0, .slice none 0 0, .int .i64 0, .int .i64 0, .bool false], Value.int .i64 0, Value.int .i64 0, Value.bool false], []⟩).memory :=
  laidMet_of_run' 8 (by kernel_rfl) (by kernel_rfl)
theorem reads (os : Os) {H : Type} (enc : TypeId × Value → H) : ∃ places, DataW.whole enc Tryd.prog ((laidWorld os).forCall (fun _ _ => 0) ⟨#[], #[Value.agg #[.int .i64 0, .int .i64 0, .slice none 0 0, .int .i64 0, .int .i64 0, .bool false, .bool false], Value.agg #[.int .i64 0, .int .i64 0, .slice none 0 0, .int .i64 0, .int .i64 0, .bool false], Value.agg #[.int .i64 0, .int .i64 0, .slice none 0 0, .int .i64 0, .int .i64 0, .bool false], Value.int .i64 0, Value.int .i64 0, Value.bool false], []⟩).memory Tryd.f11.params.toList Rows.beliefForgetsSpec.vars false (#[Value.agg #[.int .i64 0, .int .i64 0, .slice none 0 0, .int .i64 0, .int .i64 0, .bool false, .bool false], Value.agg #[.int .i64 0, .int .i64 0, .slice none 0 0, .int .i64 0, .int .i64 0, .bool false], Value.agg #[.int .i64 0, .int .i64 0, .slice none 0 0, .int .i64 0, .int .i64 0, .bool false], Value.int .i64 0, Value.int .i64 0, Value.bool false] : Array Value).toList 8 = some ([.agg [.lit (.int .i64 0), .lit (.int .i64 0), .nil, .lit (.int .i64 0), .lit (.int .i64 0), .lit (.bool false), .lit (.bool false)], .agg [.agg [.lit (.int .i64 0), .lit (.int .i64 0), .nil], .lit (.int .i64 0), .lit (.int .i64 0), .lit (.bool false)], .agg [.agg [.lit (.int .i64 0), .lit (.int .i64 0), .nil], .lit (.int .i64 0), .lit (.int .i64 0), .lit (.bool false)], .lit (.int .i64 0), .lit (.int .i64 0), .lit (.bool false)], [], places) :=
  ⟨[], by kernel_rfl⟩
theorem lifted (os : Os) (started : os.Started) (H : Type) (enc : TypeId × Value → H) (F : Stop.Interp) :
    ReturnsInHanded {} Tryd.checked os 11 .any ((OpenSpec.ofChange Rows.beliefForgetsSpec).preRow enc Tryd.prog Tryd.f11 Rows.beliefForgetsRow.domain false Rows.beliefForgetsRow.laid) (((OpenSpec.ofChange Rows.beliefForgetsSpec).at F).post enc Tryd.prog Tryd.f11 false true false false) := by
  obtain ⟨places, hx⟩ := reads os enc
  refine returnsInHanded_of_row (C := Tryd.checked) (s := OpenSpec.ofChange Rows.beliefForgetsSpec) own started (by kernel_rfl) Tryd.func11
    (witness_row_at (enc := enc) (C := Tryd.checked) false (laidWorld os) #[Value.agg #[.int .i64 0, .int .i64 0, .slice none 0 0, .int .i64 0, .int .i64 0, .bool false, .bool false], Value.agg #[.int .i64 0, .int .i64 0, .slice none 0 0, .int .i64 0, .int .i64 0, .bool false], Value.agg #[.int .i64 0, .int .i64 0, .slice none 0 0, .int .i64 0, .int .i64 0, .bool false], Value.int .i64 0, Value.int .i64 0, Value.bool false] rfl (by kernel_rfl) (by kernel_rfl) (by kernel_rfl)
      (OpenSpec.preRow_of_cond 8 hx (by kernel_rfl) (fun k hk => by cases hk) (by kernel_rfl) (laid_met os))) ?_
  intro W base args ds gs before hval hW _ hcond _ hL _ _
  exact contract H enc W base args ds gs before hval hW hL
theorem said : Rows.BeliefForgetsSaid :=
  OpenClaim.holds_of_cond 11 Tryd.f11 rfl rfl rfl rfl rfl rfl rfl ⟨rfl, rfl, rfl, rfl, rfl⟩ rfl rfl rfl rfl rfl (by kernel_rfl) Tryd.func11 (by kernel_rfl)
    (of_decide_eq_true (by kernel_rfl)) (by unfold Func.isWrapper; first | (rw [if_pos (by decide +kernel)]; kernel_rfl) | (rw [if_neg (by decide +kernel)]; exact ⟨rfl, rfl⟩))
    (fun os started H enc _ F => by rw [OpenClaim.pre_eq_preRow]; exact lifted os started H enc F)
theorem plain (f : FuncId) (fn : Func) (hf : Tryd.pinned.checked.prog.funcNamed "typebar/typebarlaw27.BeliefForgets" = some f) (hfn : Tryd.pinned.checked.prog.funcs[f]? = some fn) :
    true = Tryd.pinned.checked.prog.looks [] ∧ ∀ (j : Nat) t, fn.params[j]? = some t → Tryd.pinned.checked.prog.wantsStandIn t = false := by
  obtain rfl : f = 11 := Option.some.inj ((show Tryd.prog.funcNamed "typebar/typebarlaw27.BeliefForgets" = some 11 by kernel_rfl).symm.trans hf) |>.symm
  obtain rfl : fn = Tryd.f11 := (Option.some.inj (Tryd.func11.symm.trans hfn)).symm
  refine ⟨by kernel_rfl, fun j t ht => ?_⟩
  rw [Tryd.params11] at ht
  have ht' := Array.mem_of_getElem? ht
  simp only [List.mem_toArray, List.mem_cons, List.not_mem_nil, or_false] at ht'
  rcases ht' with rfl | rfl | rfl | rfl | rfl | rfl
  · exact (show Tryd.prog.wantsStandIn 24 = false by kernel_rfl)
  · exact (show Tryd.prog.wantsStandIn 43 = false by kernel_rfl)
  · exact (show Tryd.prog.wantsStandIn 43 = false by kernel_rfl)
  · exact (show Tryd.prog.wantsStandIn 3 = false by kernel_rfl)
  · exact (show Tryd.prog.wantsStandIn 3 = false by kernel_rfl)
  · exact (show Tryd.prog.wantsStandIn 4 = false by kernel_rfl)
theorem card : Rows.BeliefForgetsCardSaid :=
  Claim7.holds_tied_plain_at .later [] _ _ _ _ said (fun _ h => by cases h) (by kernel_rfl) (fun _ h => by cases h) beliefForgets_row_tie rfl ⟨rfl, rfl⟩ (by kernel_rfl) rfl plain (by kernel_rfl)
end beliefForgets
end Go.Proofs.YtockidoncngdbaaDoor
