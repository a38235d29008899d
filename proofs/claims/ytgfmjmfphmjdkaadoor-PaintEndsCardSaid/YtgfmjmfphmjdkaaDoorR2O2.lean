/- Layer 28 (motion): the moves, as an iterator, by the program. No condition. -/
import Derived.Test.YtgfmjmfphmjdkaaDoorR2B1
import Derived.Test.YtgfmjmfphmjdkaaDoorR2H1
namespace Go.Proofs.YtgfmjmfphmjdkaaDoor
set_option linter.unusedSimpArgs false
set_option linter.unusedVariables false
set_option linter.unusedSectionVars false
set_option maxHeartbeats 4000000
open Go Go.RowKit
variable {T0 : Gh} [TabS T0]
attribute [local irreducible] thenA inBlockA AW AL AO QY varO rowO rsA Opd OpdN vA gvA tupA aggA slA slcA ipA rpA EqK LnK IxK LdK FaK FdK
set_option maxRecDepth 100000
theorem f_moves (w h : Int) (l : List Guess) (x y : Int) (b s : Bool) (X Y : Int) : AF Tryd.prog T0 31 [belA w h l x y b s, I X, I Y] [] (fun A M' => ∃ b3 b4 b5, A = fnA 47 [bx b4, bx b3, bx b5] ∧ M' = [varO b5 3 [I Y], varO b4 3 [I X], varO b3 24 [I w, I h, slA guT l, I x, I y, B b, B s]]) := by
  refine af_intro Tryd.func31 rfl (by decide) Tryd.ntmps31 rfl ?_
  repeat' (first
  | refine g25_ ?_ | (refine aw_if ?_ ?_ <;> intro hb <;> try exact no_) | (refine sx_ ?_ <;> intro bb) | (refine su_ ?_ <;> intro u hu1 hu2) | fail)
  all_goals first | exact ⟨_, _, rl_, List.Sublist.refl _, _, _, _, rfl, rfl⟩ | skip
def preM (L : List (Bool × Cmd)) (k : Nat) : List Cmd := ((L.take k).filter (·.1)).map (·.2)
def postM (L : List (Bool × Cmd)) (k : Nat) : List Cmd := ((L.drop k).filter (·.1)).map (·.2)
theorem pre_t {L : List (Bool × Cmd)} {k : Nat} {c : Cmd} (h : L[k]? = some (true, c)) : preM L (k + 1) = preM L k ++ [c] := by
  unfold preM; rw [List.take_add_one, h]; simp
theorem pre_f {L : List (Bool × Cmd)} {k : Nat} {c : Cmd} (h : L[k]? = some (false, c)) : preM L (k + 1) = preM L k := by
  unfold preM; rw [List.take_add_one, h]; simp
theorem split_t {L : List (Bool × Cmd)} {k : Nat} {c : Cmd} (h : L[k]? = some (true, c)) : preM L k ++ c :: postM L (k + 1) = (L.filter (·.1)).map (·.2) := by
  obtain ⟨hk, he⟩ := List.getElem?_eq_some_iff.1 h
  have h2 : L = L.take k ++ (true, c) :: L.drop (k + 1) := by
    rw [← he, ← List.drop_eq_getElem_cons hk, List.take_append_drop]
  conv => rhs; rw [h2]
  unfold preM postM
  simp
theorem x_moves (w h : Int) (l : List Guess) (x y : Int) (b s : Bool) (X Y : Int) (b3 b4 b5 : Nat) (hh : -1000 ≤ h ∧ h ≤ 1000) (hx : -1000 ≤ x ∧ x ≤ 1000) (hy : -1000 ≤ y ∧ y ≤ 1000) (hX : -1000 ≤ X ∧ X ≤ 1000) (hY : -1000 ≤ Y ∧ Y ≤ 1000) :
    IterC Tryd.prog 47 [bx b4, bx b3, bx b5] [varO b5 3 [I Y], varO b4 3 [I X], varO b3 24 [I w, I h, slA guT l, I x, I y, B b, B s]] cmdA (movesM h x y X Y) := by
  refine it_intro Tryd.func47 rfl (by decide) Tryd.ntmps47 rfl rfl fun T1 lo Z V hZ => ?_
  simp only [List.cons_append, List.nil_append]
  refine aw_seq ?_
  repeat' (first
  | refine sa_ ?_
    | refine s_op ?_ (hy := by first | (apply k_ld rfl; exact oo_; exact v1_ (List.Mem.head _) rfl)
                                       | (apply k_ld rfl; exact oo_; exact v1_ (List.Mem.tail _ (List.Mem.head _)) rfl)
                                       | (apply k_ld rfl; exact oo_; exact v1_ (List.Mem.tail _ (List.Mem.tail _ (List.Mem.head _))) rfl)
                                       | (apply k_ld rfl; exact oog_; exact v1_ (List.Mem.head _) rfl)
                                       | (apply k_ld rfl; exact oog_; exact v1_ (List.Mem.tail _ (List.Mem.head _)) rfl)
                                       | (apply k_ld rfl; exact oog_; exact v1_ (List.Mem.tail _ (List.Mem.tail _ (List.Mem.head _))) rfl)
                                       | (apply ay_maxi rfl; exact oo_; exact oo_)
                                       | exact AY.sub (ay_buildSlice (T := moT) [(_, _, _, _, _), (_, _, _, _, _), (_, _, _, _, _), (_, _, _, _, _), (_, _, _, _, _), (_, _, _, _, _), (_, _, _, _, _), (_, _, _, _, _)] rfl un_ el_ rfl (by decide) ⟨_, px_, rfl⟩) sub_slc | fail)
  | refine s_yg ?_
    | refine s_opg ?_ (hy := by intro hk hk2; first | (apply k_ld rfl; exact oo_; exact v1_ (List.Mem.head _) rfl)
                                                      | (apply k_ld rfl; exact oo_; exact v1_ (List.Mem.tail _ (List.Mem.head _)) rfl)
                                                      | (apply k_ld rfl; exact oo_; exact v1_ (List.Mem.tail _ (List.Mem.tail _ (List.Mem.head _))) rfl)
                                                      | (apply k_ld rfl; exact oog_; exact v1_ (List.Mem.head _) rfl)
                                                      | (apply k_ld rfl; exact oog_; exact v1_ (List.Mem.tail _ (List.Mem.head _)) rfl)
                                                      | (apply k_ld rfl; exact oog_; exact v1_ (List.Mem.tail _ (List.Mem.tail _ (List.Mem.head _))) rfl)
                                                      | (apply ay_maxi rfl; exact oo_; exact oo_)
                                                      | exact AY.sub (ay_buildSlice (T := moT) [(_, _, _, _, _), (_, _, _, _, _), (_, _, _, _, _), (_, _, _, _, _), (_, _, _, _, _), (_, _, _, _, _), (_, _, _, _, _), (_, _, _, _, _)] rfl un_ el_ rfl (by decide) ⟨_, px_, rfl⟩) sub_slc | fail)
  | refine sw_ ?_ | (refine aw_if ?_ ?_ <;> intro hb <;> try exact no_) | (refine sx_ ?_ <;> intro bb) | (refine su_ ?_ <;> intro u hu1 hu2) | fail)
  obtain ⟨L, hL⟩ : ∃ L, L = moL h x y X Y := ⟨_, rfl⟩
  have h8 : L.length = 8 := by rw [hL]; rfl
  have hM : movesM h x y X Y = preM L 8 := by rw [hL]; rfl
  have hfull : (L.filter (·.1)).map (·.2) = movesM h x y X Y := by rw [hL]; rfl
  refine aw_fl (fun k : Nat => [(0, yA lo), (1, bx b4), (2, bx b3), (3, bx b5), (116, slA moT L), (117, I (8 : Nat)), (118, I k)]) (fun k => [varO b5 3 [I Y], varO b4 3 [I X], varO b3 24 [I w, I h, slA guT l, I x, I y, B b, B s]] ++ Z (preM L k)) (fun k => k ≤ 8) (fun k => 8 - k) 0 (Nat.zero_le _) (by subst hL; exact wk_) (List.Sublist.refl _) ?_
  rintro k h1
  simp only [List.cons_append, List.nil_append]
  rw [hM]
  rw [hM] at hfull hZ
  by_cases hlt : k < 8
  · obtain ⟨⟨is, c1, c2, c3, c4⟩, hat⟩ : ∃ z, L[k]? = some z := ⟨_, List.getElem?_eq_getElem (by omega)⟩
    cases is with
    | false =>
      have hp := pre_f hat
      repeat' (first
      | (refine w_stv ?_ (hU := UpdF.here); dsimp only) | refine s_op ?_ (hy := ay_and (b := false) (d := false) rfl (by exact oo_) (fun h => by cases h)) | refine aw_seq ?_ | refine aw_region0 ?_ | refine al_nil ?_ | refine th_n ?_ | refine th_e ?_ | refine th_r ?_ | refine ib_n ?_ | refine ib_e rfl ?_ | refine ib_e' rfl ?_ | refine ib_r ?_ | refine aw_block ?_ | refine aw_exit ?_ | refine aw_ret ?_ | refine aw_skip ?_ | (apply aw_region1q (by rfl) (by kernel_rfl) (by kernel_rfl)) | refine sa_ ?_
        | refine s_op ?_ (hy := by first | (apply k_ld rfl; exact oo_; exact v1_ (List.Mem.head _) rfl)
                                           | (apply k_ld rfl; exact oo_; exact v1_ (List.Mem.tail _ (List.Mem.head _)) rfl)
                                           | (apply k_ld rfl; exact oo_; exact v1_ (List.Mem.tail _ (List.Mem.tail _ (List.Mem.head _))) rfl)
                                           | (apply k_ld rfl; exact oog_; exact v1_ (List.Mem.head _) rfl)
                                           | (apply k_ld rfl; exact oog_; exact v1_ (List.Mem.tail _ (List.Mem.head _)) rfl)
                                           | (apply k_ld rfl; exact oog_; exact v1_ (List.Mem.tail _ (List.Mem.tail _ (List.Mem.head _))) rfl)
                                           | (apply ay_maxi rfl; exact oo_; exact oo_)
                                           | exact AY.sub (ay_buildSlice (T := moT) [(_, _, _, _, _), (_, _, _, _, _), (_, _, _, _, _), (_, _, _, _, _), (_, _, _, _, _), (_, _, _, _, _), (_, _, _, _, _), (_, _, _, _, _)] rfl un_ el_ rfl (by decide) ⟨_, px_, rfl⟩) sub_slc | fail)
      | refine s_yg ?_
        | refine s_opg ?_ (hy := by intro hk hk2; first | (apply k_ld rfl; exact oo_; exact v1_ (List.Mem.head _) rfl)
                                                          | (apply k_ld rfl; exact oo_; exact v1_ (List.Mem.tail _ (List.Mem.head _)) rfl)
                                                          | (apply k_ld rfl; exact oo_; exact v1_ (List.Mem.tail _ (List.Mem.tail _ (List.Mem.head _))) rfl)
                                                          | (apply k_ld rfl; exact oog_; exact v1_ (List.Mem.head _) rfl)
                                                          | (apply k_ld rfl; exact oog_; exact v1_ (List.Mem.tail _ (List.Mem.head _)) rfl)
                                                          | (apply k_ld rfl; exact oog_; exact v1_ (List.Mem.tail _ (List.Mem.tail _ (List.Mem.head _))) rfl)
                                                          | (apply ay_maxi rfl; exact oo_; exact oo_)
                                                          | exact AY.sub (ay_buildSlice (T := moT) [(_, _, _, _, _), (_, _, _, _, _), (_, _, _, _, _), (_, _, _, _, _), (_, _, _, _, _), (_, _, _, _, _), (_, _, _, _, _), (_, _, _, _, _)] rfl un_ el_ rfl (by decide) ⟨_, px_, rfl⟩) sub_slc | fail)
      | refine sw_ ?_ | refine w_fzg ?_ | (refine aw_if ?_ ?_ <;> intro hb <;> try exact no_) | (refine sx_ ?_ <;> intro bb) | (refine su_ ?_ <;> intro u hu1 hu2) | fail)
      all_goals first | (exfalso; omega) | (exfalso; simp at hb; done) | skip
      all_goals first | exact ⟨k + 1, by omega, by omega, wk_, by rw [hp]; exact List.Sublist.cons _ (List.Sublist.refl _)⟩ | skip
    | true =>
      have hp := pre_t hat
      have hf := split_t hat
      rw [hfull] at hf
      have hA : Sub (aggA [I c1, I c2, I c3, R c4]) (cmdA (c1, c2, c3, c4)) := Sub.refl _
      repeat' (first
      | refine aw_regionY (id := 6) ?_ | refine s_yi ?_ | refine s_opi ?_ (hy := by first | (apply k_ld rfl; exact oo_; exact v1_ (List.Mem.head _) rfl) | (apply k_ld rfl; exact oo_; exact v1_ (List.Mem.tail _ (List.Mem.head _)) rfl) | fail) | refine ali_nil ?_ | (refine w_stv ?_ (hU := UpdF.here); dsimp only) | refine s_opi ?_ (hy := by first | (apply k_ld rfl; exact oo_; apply vn_; exact List.Mem.head _; exact subc_; done) | fail) | refine ali_yield _ _ _ [_, varO b5 3 [I Y], varO b4 3 [I X], varO b3 24 [I w, I h, slA guT l, I x, I y, B b, B s]] rfl rfl rfl (want_run rfl rfl (guard_b rfl) rfl) rfl rfl hA hZ hf ?_ ?_ | refine g18_ ?_ | (apply aw_region1q (by rfl) (by kernel_rfl) (by kernel_rfl)) | refine sa_ ?_
        | refine s_op ?_ (hy := by first | (apply k_ld rfl; exact oo_; exact v1_ (List.Mem.head _) rfl)
                                           | (apply k_ld rfl; exact oo_; exact v1_ (List.Mem.tail _ (List.Mem.head _)) rfl)
                                           | (apply k_ld rfl; exact oo_; exact v1_ (List.Mem.tail _ (List.Mem.tail _ (List.Mem.head _))) rfl)
                                           | (apply k_ld rfl; exact oog_; exact v1_ (List.Mem.head _) rfl)
                                           | (apply k_ld rfl; exact oog_; exact v1_ (List.Mem.tail _ (List.Mem.head _)) rfl)
                                           | (apply k_ld rfl; exact oog_; exact v1_ (List.Mem.tail _ (List.Mem.tail _ (List.Mem.head _))) rfl)
                                           | (apply ay_maxi rfl; exact oo_; exact oo_)
                                           | exact AY.sub (ay_buildSlice (T := moT) [(_, _, _, _, _), (_, _, _, _, _), (_, _, _, _, _), (_, _, _, _, _), (_, _, _, _, _), (_, _, _, _, _), (_, _, _, _, _), (_, _, _, _, _)] rfl un_ el_ rfl (by decide) ⟨_, px_, rfl⟩) sub_slc | fail)
      | refine s_yg ?_
        | refine s_opg ?_ (hy := by intro hk hk2; first | (apply k_ld rfl; exact oo_; exact v1_ (List.Mem.head _) rfl)
                                                          | (apply k_ld rfl; exact oo_; exact v1_ (List.Mem.tail _ (List.Mem.head _)) rfl)
                                                          | (apply k_ld rfl; exact oo_; exact v1_ (List.Mem.tail _ (List.Mem.tail _ (List.Mem.head _))) rfl)
                                                          | (apply k_ld rfl; exact oog_; exact v1_ (List.Mem.head _) rfl)
                                                          | (apply k_ld rfl; exact oog_; exact v1_ (List.Mem.tail _ (List.Mem.head _)) rfl)
                                                          | (apply k_ld rfl; exact oog_; exact v1_ (List.Mem.tail _ (List.Mem.tail _ (List.Mem.head _))) rfl)
                                                          | (apply ay_maxi rfl; exact oo_; exact oo_)
                                                          | exact AY.sub (ay_buildSlice (T := moT) [(_, _, _, _, _), (_, _, _, _, _), (_, _, _, _, _), (_, _, _, _, _), (_, _, _, _, _), (_, _, _, _, _), (_, _, _, _, _), (_, _, _, _, _)] rfl un_ el_ rfl (by decide) ⟨_, px_, rfl⟩) sub_slc | fail)
      | refine sw_ ?_ | refine w_fzg ?_ | (refine aw_if ?_ ?_ <;> intro hb <;> try exact no_) | (refine sx_ ?_ <;> intro bb) | (refine su_ ?_ <;> intro u hu1 hu2) | fail)
      all_goals first | (exfalso; omega) | (exfalso; simp at hb; done) | skip
      · exact ⟨k + 1, by omega, by omega, wk_, by rw [hp]; exact List.Sublist.cons _ (List.Sublist.refl _)⟩
      · exact .inr ⟨_, postM L (k + 1), by rw [← hf]; simp, List.Sublist.cons _ (List.Sublist.cons _ (List.Sublist.cons _ (List.Sublist.cons _ (List.Sublist.refl _))))⟩
  · obtain rfl : k = 8 := by omega
    repeat' (first
    | refine aw_regionY (id := 6) ?_ | refine s_yi ?_ | refine s_opi ?_ (hy := by first | (apply k_ld rfl; exact oo_; exact v1_ (List.Mem.head _) rfl) | (apply k_ld rfl; exact oo_; exact v1_ (List.Mem.tail _ (List.Mem.head _)) rfl) | fail) | refine ali_nil ?_ | (refine w_stv ?_ (hU := UpdF.here); dsimp only) | refine s_opi ?_ (hy := by first | (apply k_ld rfl; exact oo_; apply vn_; exact List.Mem.head _; exact subc_; done) | fail) | refine ali_yield _ _ _ [_, varO b5 3 [I Y], varO b4 3 [I X], varO b3 24 [I w, I h, slA guT l, I x, I y, B b, B s]] rfl rfl rfl (want_run rfl rfl (guard_b rfl) rfl) rfl rfl hA hZ hf ?_ ?_ | refine sa_ ?_
      | refine s_op ?_ (hy := by first | (apply k_ld rfl; exact oo_; exact v1_ (List.Mem.head _) rfl)
                                         | (apply k_ld rfl; exact oo_; exact v1_ (List.Mem.tail _ (List.Mem.head _)) rfl)
                                         | (apply k_ld rfl; exact oo_; exact v1_ (List.Mem.tail _ (List.Mem.tail _ (List.Mem.head _))) rfl)
                                         | (apply k_ld rfl; exact oog_; exact v1_ (List.Mem.head _) rfl)
                                         | (apply k_ld rfl; exact oog_; exact v1_ (List.Mem.tail _ (List.Mem.head _)) rfl)
                                         | (apply k_ld rfl; exact oog_; exact v1_ (List.Mem.tail _ (List.Mem.tail _ (List.Mem.head _))) rfl)
                                         | (apply ay_maxi rfl; exact oo_; exact oo_)
                                         | exact AY.sub (ay_buildSlice (T := moT) [(_, _, _, _, _), (_, _, _, _, _), (_, _, _, _, _), (_, _, _, _, _), (_, _, _, _, _), (_, _, _, _, _), (_, _, _, _, _), (_, _, _, _, _)] rfl un_ el_ rfl (by decide) ⟨_, px_, rfl⟩) sub_slc | fail)
    | refine s_yg ?_
      | refine s_opg ?_ (hy := by intro hk hk2; first | (apply k_ld rfl; exact oo_; exact v1_ (List.Mem.head _) rfl)
                                                        | (apply k_ld rfl; exact oo_; exact v1_ (List.Mem.tail _ (List.Mem.head _)) rfl)
                                                        | (apply k_ld rfl; exact oo_; exact v1_ (List.Mem.tail _ (List.Mem.tail _ (List.Mem.head _))) rfl)
                                                        | (apply k_ld rfl; exact oog_; exact v1_ (List.Mem.head _) rfl)
                                                        | (apply k_ld rfl; exact oog_; exact v1_ (List.Mem.tail _ (List.Mem.head _)) rfl)
                                                        | (apply k_ld rfl; exact oog_; exact v1_ (List.Mem.tail _ (List.Mem.tail _ (List.Mem.head _))) rfl)
                                                        | (apply ay_maxi rfl; exact oo_; exact oo_)
                                                        | exact AY.sub (ay_buildSlice (T := moT) [(_, _, _, _, _), (_, _, _, _, _), (_, _, _, _, _), (_, _, _, _, _), (_, _, _, _, _), (_, _, _, _, _), (_, _, _, _, _), (_, _, _, _, _)] rfl un_ el_ rfl (by decide) ⟨_, px_, rfl⟩) sub_slc | fail)
    | refine sw_ ?_ | (refine aw_if ?_ ?_ <;> intro hb <;> try exact no_) | (refine sx_ ?_ <;> intro bb) | (refine su_ ?_ <;> intro u hu1 hu2) | fail)
    all_goals first | exact e1_ | skip
    exact .inl (List.Sublist.cons _ (List.Sublist.cons _ (List.Sublist.cons _ (List.Sublist.refl _))))
end Go.Proofs.YtgfmjmfphmjdkaaDoor
