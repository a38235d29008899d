/- Layer 27 (belief): the example. No condition. -/
import Derived.Test.YtockidoncngdbaaGreatDoorQ2H6
import Derived.Test.YtockidoncngdbaaGreatDoorQ2BE
import Derived.Test.YtockidoncngdbaaGreatDoorQ2BF
import Derived.Test.YtockidoncngdbaaGreatDoorQ2H2
import Derived.Test.YtockidoncngdbaaGreatDoorQ2H7
namespace Go.Proofs.YtockidoncngdbaaGreatDoor
set_option linter.unusedSimpArgs false
set_option linter.unusedVariables false
set_option linter.unusedSectionVars false
set_option maxHeartbeats 4000000
open Go Go.RowKit
set_option maxRecDepth 200000
variable {T0 : Gh} [TabS T0] [TabU T0]
attribute [local irreducible] thenA inBlockA AW AL AO QY varO rowO rsA Opd OpdN vA gvA tupA aggA slA slcA ipA rpA EqK LnK IxK LdK FaK FdK
theorem f_law27text (r : Int) : AP Tryz.prog T0 28 [R r] (cmdA (1, 0, 0, r)) := by
  refine af_intro Tryz.func28 rfl (by decide) Tryz.ntmps28 rfl ?_
  repeat' (first
  | fail
  | refine s_y ?_
    | refine c_ ?_
    | (refine aw_if ?_ ?_ <;> intro hb <;> try (exfalso; first | assumption | omega | (simp only [or_self, and_self, not_true_eq_false, not_false_eq_true, or_false, false_or, and_false, false_and, true_and, and_true] at hb; first | done | omega)))
    | refine s_call ?_ (c := by first | fail | fail)
    | refine s_op ?_ (hy := by first | fail | fail)
    | refine s_yg ?_
    | refine s_callg ?_ (c := by intro hk hk2; first | fail | fail)
    | refine s_opg ?_ (hy := by intro hk hk2; first | fail | fail)
    | refine s_skip ?_
    | ((first | refine w_alloc ?_ | refine w_box ?_) <;> intro bb)
    | ((first | refine w_emp ?_ | refine w_make ?_ | refine w_app ?_) <;> intro u hu1 hu2)
    | refine w_stv ?_ | refine w_str ?_ | refine w_cpr ?_ | refine w_cps ?_
    | refine al_last (by kernel_rfl) ?_
  | fail)
  exact ⟨_, [], rl_, List.nil_sublist _, Sub.refl _, rfl⟩
theorem f_believed : AP Tryz.prog T0 6 [] (B true) := by
  have c1 : AP Tryz.prog T0 11 [I 2, I 1] (tupA [belA 2 1 [gZero, gZero] 0 0 false false, I 0]) := (f_beNew 2 1).to (by rw [show newB 2 1 = ((2, 1, [gZero, gZero], 0, 0, false, false), 0) by kernel_rfl])
  have c2 : AP Tryz.prog T0 4 [belA 2 1 [gZero, gZero] 0 0 false false, cmdA (1, 0, 0, 97)] (tupA [belA 2 1 [gZero, gZero] 0 0 false false, I 0]) := (f_beDo 2 1 [gZero, gZero] 0 0 false false (1, 0, 0, 97)).to (by rw [doB_c, show doBC (2, 1, [gZero, gZero], 0, 0, false, false) (1, 0, 0, 97) = ((2, 1, [gZero, gZero], 0, 0, false, false), 0) by kernel_rfl])
  have c3 : AP Tryz.prog T0 4 [belA 2 1 [gZero, gZero] 0 0 false false, cmdA (2, 0, 1, 0)] (tupA [belA 2 1 [gZero, gZero] 1 0 false true, I 0]) := (f_beDo 2 1 [gZero, gZero] 0 0 false false (2, 0, 1, 0)).to (by rw [doB_c, show doBC (2, 1, [gZero, gZero], 0, 0, false, false) (2, 0, 1, 0) = ((2, 1, [gZero, gZero], 1, 0, false, true), 0) by kernel_rfl])
  have c4 : AP Tryz.prog T0 4 [belA 2 1 [gZero, gZero] 1 0 false true, cmdA (1, 0, 0, 97)] (tupA [belA 2 1 [gZero, ((97, 0), true)] 1 0 true true, I 0]) := (f_beDo 2 1 [gZero, gZero] 1 0 false true (1, 0, 0, 97)).to (by rw [doB_c, show doBC (2, 1, [gZero, gZero], 1, 0, false, true) (1, 0, 0, 97) = ((2, 1, [gZero, ((97, 0), true)], 1, 0, true, true), 0) by kernel_rfl])
  have c5 : AP Tryz.prog T0 29 [I 2, I 1] (tupA [termA 2 1 [(32, 0), (32, 0)] 0 0 false, I 0]) := (f_termNew 2 1).to (by rw [show newR 2 1 = ((2, 1, [(32, 0), (32, 0)]), 0) by decide])
  have c6 : AP Tryz.prog T0 30 [termA 2 1 [(32, 0), (32, 0)] 0 0 false, SA [27, 91, 49, 59, 50, 72, 97]] (tupA [termA 2 1 [(32, 0), (97, 0)] 1 0 true, SA [], I 0]) := (f_termFeed 2 1 [(32, 0), (32, 0)] 0 0 false [27, 91, 49, 59, 50, 72, 97] (by decide)).to (by rw [feedT_c, show feedTC (2, 1, [(32, 0), (32, 0)], 0, 0, false) [27, 91, 49, 59, 50, 72, 97] = ((2, 1, [(32, 0), (97, 0)], 1, 0, true), [], 0) by kernel_rfl])
  have c7 : AP Tryz.prog T0 31 [belA 2 1 [gZero, gZero] 1 0 false true, cmdA (1, 0, 0, 97)] (tupA [I 0, I 2]) := (f_beTouch 2 1 [gZero, gZero] 1 0 false true (1, 0, 0, 97)).to (by rw [touchB_c, show touchBC (2, 1, [gZero, gZero], 1, 0, false, true) (1, 0, 0, 97) = (0, 2) by kernel_rfl])
  have c8 : AP Tryz.prog T0 31 [belA 2 1 [gZero, gZero] 0 0 false false, cmdA (1, 0, 0, 97)] (tupA [I 0, I 2]) := (f_beTouch 2 1 [gZero, gZero] 0 0 false false (1, 0, 0, 97)).to (by rw [touchB_c, show touchBC (2, 1, [gZero, gZero], 0, 0, false, false) (1, 0, 0, 97) = (0, 2) by kernel_rfl])
  have c9 : AP Tryz.prog T0 4 [belA 2 1 [gZero, gZero] 0 0 false false, cmdA (0, 0, 0, 0)] (tupA [belA 0 0 [] 0 0 false false, I 1]) := (f_beDo 2 1 [gZero, gZero] 0 0 false false (0, 0, 0, 0)).to (by rw [doB_c, show doBC (2, 1, [gZero, gZero], 0, 0, false, false) (0, 0, 0, 0) = (noB, 1) by kernel_rfl]; rfl)
  have d1 : AP Tryz.prog T0 32 [termA 2 1 [(32, 0), (97, 0)] 1 0 true] (tupA [belA 2 1 [((32, 0), true), ((97, 0), true)] 1 0 true true, I 0]) := (f_beOf 2 1 [(32, 0), (97, 0)] 1 0 true).to (by rw [ofB_c, show ofBC (2, 1, [(32, 0), (97, 0)], 1, 0, true) = ((2, 1, [((32, 0), true), ((97, 0), true)], 1, 0, true, true), 0) by kernel_rfl])
  have d2 : AP Tryz.prog T0 11 [I 1, I 1] (tupA [belA 0 0 [] 0 0 false false, I 4]) := (f_beNew 1 1).to (by rw [show newB 1 1 = (noB, 4) by kernel_rfl]; rfl)
  have d3 : AP Tryz.prog T0 33 [belA 2 1 [((32, 0), true), ((97, 0), true)] 1 0 true true, I 1, I 2, B true] (belA 2 1 [((32, 0), true), gZero] 0 0 false false) := (f_beForget 2 1 [((32, 0), true), ((97, 0), true)] 1 0 true true 1 2 true).to (by rw [forgetB_c, show forgetBC (2, 1, [((32, 0), true), ((97, 0), true)], 1, 0, true, true) 1 2 true = (2, 1, [((32, 0), true), gZero], 0, 0, false, false) by kernel_rfl])
  have d4 : AP Tryz.prog T0 34 [belA 2 1 [gZero, ((97, 0), true)] 1 0 true true, termA 2 1 [(32, 0), (97, 0)] 1 0 true] (B true) := (f_beAgrees 2 1 [gZero, ((97, 0), true)] 1 0 true true 2 1 [(32, 0), (97, 0)] 1 0 true).to (by rw [agrB_c, show agrBC (2, 1, [gZero, ((97, 0), true)], 1, 0, true, true) (2, 1, [(32, 0), (97, 0)], 1, 0, true) = true by kernel_rfl])
  have d5 : AP Tryz.prog T0 34 [belA 2 1 [gZero, ((97, 0), true)] 1 0 true true, termA 2 1 [(32, 0), (32, 0)] 0 0 false] (B false) := (f_beAgrees 2 1 [gZero, ((97, 0), true)] 1 0 true true 2 1 [(32, 0), (32, 0)] 0 0 false).to (by rw [agrB_c, show agrBC (2, 1, [gZero, ((97, 0), true)], 1, 0, true, true) (2, 1, [(32, 0), (32, 0)], 0, 0, false) = false by kernel_rfl])
  have d6 : AP Tryz.prog T0 8 [belA 2 1 [((32, 0), true), gZero] 0 0 false false] (B true) := (f_beIs 2 1 [((32, 0), true), gZero] 0 0 false false).to (by rw [okBe_c, show okBeC 2 1 [((32, 0), true), gZero] 0 0 false false = true by kernel_rfl])
  have e7 : AP Tryz.prog T0 8 [belA 0 0 [] 0 0 false false] (B false) := (f_beIs 0 0 [] 0 0 false false).to (by rw [okBe_c, show okBeC 0 0 [] 0 0 false false = false by kernel_rfl])
  have d7 : AP Tryz.prog T0 8 [aggA [I 0, I 0, vA (.slice none 0 0), I 0, I 0, B false, B false]] (B false) := e7.pre (subl1 (sub_agg (subl1 (Sub.refl _) (subl1 (Sub.refl _) (subl1 sub_nilB (subl1 (Sub.refl _) (subl1 (Sub.refl _) (subl1 (Sub.refl _) (subl1 (Sub.refl _) subl0)))))))) subl0)
  have d8 : AP Tryz.prog T0 7 [belA 2 1 [gZero, gZero] 0 0 false false, belA 2 1 [gZero, gZero] 0 0 false false] (B true) := (f_ref27Same 2 1 [gZero, gZero] 0 0 false false 2 1 [gZero, gZero] 0 0 false false (by decide)).to (by rw [sameB_self])
  refine af_intro Tryz.func6 rfl (by decide) Tryz.ntmps6 rfl ?_
  repeat' (first
  | fail
  | (apply aw_regionF 6; (case hB => decide +kernel); (case hn => rfl); (case hg => decide +kernel); (case hm => kernel_rfl); (case hs => rfl))
    | refine endF_ ?_
    | (refine sf_alloc rfl rfl rfl rfl al_ ?_; intro bn)
    | (apply sf_store rfl rfl rfl; (case hx => exact oo_); (case hz => exact sz_); (case hy => exact oo_); (case hc => exact cam_); (case hl => rfl); (case h1 => exact ones_); (case hU => exact upf_); (case hs => exact setc_))
    | (apply sf_y rfl rfl rfl; (case hy => exact y_))
    | refine sf_nil ?_
  | refine aw_seq ?_
    | refine aw_region0 ?_
    | refine al_nil ?_
    | refine th_n ?_
    | refine th_e ?_
    | refine th_r ?_
    | refine ib_n ?_
    | refine ib_e rfl ?_
    | refine ib_e' rfl ?_
    | refine ib_r ?_
    | refine aw_block ?_
    | refine aw_exit ?_
    | refine aw_ret ?_
    | refine aw_skip ?_
    | (apply aw_region1q (by rfl) (by kernel_rfl) (by kernel_rfl))
  | refine s_y ?_
    | refine c_ ?_
    | (refine aw_if ?_ ?_ <;> intro hb <;> try (exfalso; first | assumption | omega | (simp only [or_self, and_self, not_true_eq_false, not_false_eq_true, or_false, false_or, and_false, false_and, true_and, and_true] at hb; first | done | omega)))
    | refine s_call ?_ (c := by first | exact c1 | exact c2 | exact c3 | exact c4 | exact c5 | exact c6 | exact c7 | exact c8 | exact c9 | exact d1 | exact d2 | exact d3 | exact d4 | exact d5 | exact d6 | exact d7 | exact d8 | exact f_law27text _ | fail)
    | refine s_op ?_ (hy := by first | (apply k_eql rfl; exact oo_; exact oo_; exact ek_gu) | (apply k_eql rfl; exact oog_; exact oog_; exact ek_gu) | fail)
    | refine s_yg ?_
    | refine s_callg ?_ (c := by intro hk hk2; first | exact c1 | exact c2 | exact c3 | exact c4 | exact c5 | exact c6 | exact c7 | exact c8 | exact c9 | exact d1 | exact d2 | exact d3 | exact d4 | exact d5 | exact d6 | exact d7 | exact d8 | exact f_law27text _ | fail)
    | refine s_opg ?_ (hy := by intro hk hk2; first | (apply k_eql rfl; exact oo_; exact oo_; exact ek_gu) | (apply k_eql rfl; exact oog_; exact oog_; exact ek_gu) | fail)
    | refine s_skip ?_
    | ((first | refine w_alloc ?_ | refine w_box ?_) <;> intro bb)
    | ((first | refine w_emp ?_ | refine w_make ?_ | refine w_app ?_) <;> intro u hu1 hu2)
    | refine w_stv ?_ | refine w_str ?_ | refine w_cpr ?_ | refine w_cps ?_
    | refine al_last (by kernel_rfl) ?_
  | fail)
  all_goals first | (exfalso; simp at hb; done) | exact ⟨_, [], rl_, List.nil_sublist _, Sub.eq (congrArg B (by decide)), rfl⟩ | exact ⟨_, [], rl_, List.nil_sublist _, Sub.eq (congrArg B (by simp)), rfl⟩ | skip
end Go.Proofs.YtockidoncngdbaaGreatDoor
