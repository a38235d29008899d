/- The library's Repeat of one thing. No condition. -/
import Derived.Test.YtgfmjmfphmjdkaaDoorR2AJ
import Derived.Shelf.Bits.Mul64
import Derived.Test.YtgfmjmfphmjdkaaDoorR2B1
namespace Go.Proofs.YtgfmjmfphmjdkaaDoor
set_option linter.unusedSimpArgs false
set_option linter.unusedVariables false
set_option linter.unusedSectionVars false
set_option maxHeartbeats 4000000
open Go Go.RowKit
set_option maxRecDepth 100000
def rhoM : Go.Shelf.Ren := ⟨fun k => if k = 212 then 66 else if k = 263 then 77 else if k = 264 then 78 else 0,
  fun k => if k = 46 then 105 else if k = 51 then 119 else if k = 53 then 122 else if k = 146 then 120 else if k = 148 then 123 else 0, fun _ => 0⟩
theorem zeroM_of {P : Program} {t : TypeId} {v : Value} (h : (P.info? t).map (·.zero) = some (some v)) (w : World) : (zeroValue t).run P w = .ok v w := by
  obtain ⟨i, h1, h2⟩ := Option.map_eq_some_iff.1 h
  simp [zeroValue, typeInfo, h1, h2]
instance cUnUint : UnC 105 (.int .u64) := ⟨Tryd.underlying105⟩
theorem mulLays : Go.Proofs.Lays.n212 Tryd.prog rhoM := by
  constructor
  all_goals first
  | kernel_rfl
  | exact agg_no (by kernel_rfl)
  | exact agg_yes (by kernel_rfl)
  | exact size_of (by kernel_rfl)
  | exact zeroM_of (by kernel_rfl)
section
variable {T0 : Gh}
abbrev U64 (n : Nat) : AV := vA (.int .u64 (n : Int))
theorem fitU {n : Int} (h : 0 ≤ n ∧ n < 18446744073709551616) : Fit .u64 n := by
  show IntKind.u64.wrap n = n
  rw [IntKind.wrap_u64]; omega
theorem f_mul (x y : Nat) (hx : x < 18446744073709551616) (hy : y < 18446744073709551616) : AP Tryd.prog T0 66 [U64 x, U64 y] (tupA [U64 (x * y / 18446744073709551616), U64 (x * y % 18446744073709551616)]) := by
  refine ⟨⟨Tryd.f66, Tryd.func66, by decide, rfl⟩, fun w0 G F w vs hs hr => ?_⟩
  obtain ⟨v1, v2, rfl⟩ : ∃ v1 v2, vs = [v1, v2] := by
    have := hr.len
    match vs, this with
    | [v1, v2], _ => exact ⟨v1, v2, rfl⟩
  have h1 := hr.1.eq
  have h2 := hr.2.1.eq
  subst h1 h2
  refine (Any.bits_Mul mulLays x y hx hy w).mono ?_
  rintro e w' ⟨rfl, rfl⟩
  exact .inl ⟨_, tupA [U64 _, U64 _], [], G, rfl, ⟨Sub.refl _, rfl⟩, .of ⟨[_, _], rfl, Rep.va _ _, Rep.va _ _, trivial⟩, Gh.le.refl _, hs⟩
end
variable {T0 : Gh}
attribute [local irreducible] thenA inBlockA AW AL AO QY varO rowO rsA Opd OpdN vA gvA tupA aggA slA slcA ipA rpA EqK LnK IxK LdK FaK FdK
theorem ovr_repR {α : Type} (c d : α) (n k N : Nat) (h : n + k ≤ N) : ovr (List.replicate n c ++ List.replicate (N - n) d) n (List.replicate k c) = List.replicate (n + k) c ++ List.replicate (N - (n + k)) d := by
  unfold ovr
  rw [List.take_left' (by simp), List.length_replicate, List.replicate_append_replicate, List.drop_append, List.length_replicate, List.drop_of_length_le (by simp), List.nil_append, List.drop_replicate]
  congr 2; omega
theorem f_repeat (c : Cell) (N : Nat) (hN : N ≤ 100000) : AF Tryd.prog T0 42 [slA cellT [c], I N] [] (fun A M' => ∃ u, A = vA u ∧ M' = [rowO cellT 42 u (List.replicate N c)]) := by
  have cm := (f_mul (T0 := T0) 1 N (by omega) (by omega))
  rw [Nat.one_mul, Nat.div_eq_of_lt (by omega), Nat.mod_eq_of_lt (by omega)] at cm
  refine af_intro Tryd.func42 rfl (by decide) Tryd.ntmps42 rfl ?_
  repeat' (first
  | refine w_cpss ?_ | refine sa_ ?_ | refine s_call ?_ (c := by first | exact cm | fail)
    | refine s_op ?_ (hy := by first | (apply ay_conv (a := ((1 : Nat) : Int)) rfl un_ un_; exact oo_; exact fitU (by decide)) | (apply ay_conv rfl un_ un_; exact oo_; exact fitU (by omega)) | (apply ay_conv rfl un_ un_; exact oo_; exact fit_)
                                       | (apply ay_cut_row rfl un_ el_; exact oo_; exact mem_; exact lo_; exact hi_; exact lt_; exact le_; done) | fail)
  | refine g27_ ?_
    | refine s_opg ?_ (hy := by intro hk hk2; first | (apply ay_conv (a := ((1 : Nat) : Int)) rfl un_ un_; exact oo_; exact fitU (by decide)) | (apply ay_conv rfl un_ un_; exact oo_; exact fitU (by omega)) | (apply ay_conv rfl un_ un_; exact oo_; exact fit_)
                                                      | (apply ay_cut_row rfl un_ el_; exact oo_; exact mem_; exact lo_; exact hi_; exact lt_; exact le_; done) | fail)
  | refine sw_ ?_ | (refine aw_if ?_ ?_ <;> intro hb <;> try exact no_) | (refine sx_ ?_ <;> intro bb) | (refine su_ ?_ <;> intro u hu1 hu2) | fail)
  all_goals first | (exfalso; omega) | (exfalso; simp at hb; omega) | skip
  have e : (List.take (List.replicate N ((0, 0) : Cell)).length [c]).length = min 1 N := by simp; omega
  have e2 : ovr (List.replicate N ((0, 0) : Cell)) 0 (List.take (List.replicate N ((0, 0) : Cell)).length [c]) = List.replicate (min 1 N) c ++ List.replicate (N - min 1 N) (0, 0) := by
    have h := ovr_repR c ((0, 0) : Cell) 0 (min 1 N) N (by omega)
    simp only [List.replicate_zero, List.nil_append, Nat.sub_zero, Nat.zero_add] at h
    rw [← h]
    rcases Nat.eq_zero_or_pos N with z | z
    · subst z; rfl
    · rw [List.length_replicate, List.take_of_length_le (by simp; omega), show min 1 N = 1 by omega]; rfl
  rw [e]
  rw [e2]
  refine aw_fl (fun n : Nat => [(7, vA u), (8, I n)]) (fun n => [rowO cellT 42 u (List.replicate n c ++ List.replicate (N - n) ((0, 0) : Cell))]) (fun n => n ≤ N ∧ (N ≠ 0 → 1 ≤ n)) (fun n => N - n) (min 1 N) ⟨by omega, by omega⟩ wk_ (List.Sublist.refl _) ?_
  rintro n ⟨n1, n2⟩
  obtain ⟨l, hl⟩ : ∃ l, l = List.replicate n c ++ List.replicate (N - n) ((0, 0) : Cell) := ⟨_, rfl⟩
  have hlen : l.length = N := by rw [hl]; simp; omega
  rw [← hl]
  by_cases hlt : n < N
  · have h1 := n2 (by omega)
    have e3 := ovr_repR c ((0, 0) : Cell) n (min n (N - n)) N (by omega)
    rw [← hl] at e3
    have e4 : List.take (l.length - n) (List.take (n - 0) (List.drop 0 l)) = List.replicate (min n (N - n)) c := by
      rw [List.drop_zero, Nat.sub_zero, hlen, hl, List.take_left' (by simp), List.take_replicate, Nat.min_comm]
    have e5 : (List.take (l.length - n) (List.take (n - 0) (List.drop 0 l))).length = min n (N - n) := by rw [e4]; simp
    repeat' (first
    | refine w_cpss ?_ | (apply aw_regionU 0 7; (case hD => decide +kernel); (case hH => decide +kernel); (case hB => decide +kernel); (case hg => decide +kernel); (case hm => kernel_rfl); (case hs => rfl); (case hod => rfl); (case hsd => rfl); (case hb => rfl)) | (apply endU_; (case h2 => exact delf_)) | refine g18_ ?_ | (apply aw_region1q (by rfl) (by kernel_rfl) (by kernel_rfl)) | refine sa_ ?_ | refine s_call ?_ (c := by first | exact cm | fail)
      | refine s_op ?_ (hy := by first | (apply ay_conv (a := ((1 : Nat) : Int)) rfl un_ un_; exact oo_; exact fitU (by decide)) | (apply ay_conv rfl un_ un_; exact oo_; exact fitU (by omega)) | (apply ay_conv rfl un_ un_; exact oo_; exact fit_)
                                         | (apply ay_cut_row rfl un_ el_; exact oo_; exact mem_; exact lo_; exact hi_; exact lt_; exact le_; done) | fail)
    | refine g27_ ?_
      | refine s_opg ?_ (hy := by intro hk hk2; first | (apply ay_conv (a := ((1 : Nat) : Int)) rfl un_ un_; exact oo_; exact fitU (by decide)) | (apply ay_conv rfl un_ un_; exact oo_; exact fitU (by omega)) | (apply ay_conv rfl un_ un_; exact oo_; exact fit_)
                                                        | (apply ay_cut_row rfl un_ el_; exact oo_; exact mem_; exact lo_; exact hi_; exact lt_; exact le_; done) | fail)
    | refine sw_ ?_ | (refine aw_if ?_ ?_ <;> intro hb <;> try exact no_) | (refine sx_ ?_ <;> intro bb) | (refine su_ ?_ <;> intro u hu1 hu2) | fail)
    all_goals first | (exfalso; simp at hb; omega) | skip
    all_goals
      rw [e5, e4, e3]
      exact ⟨n + min n (N - n), ⟨by omega, by omega⟩, by omega, wk_, List.Sublist.refl _⟩
  · repeat' (first
    | refine w_cpss ?_ | refine sa_ ?_ | refine s_call ?_ (c := by first | exact cm | fail)
      | refine s_op ?_ (hy := by first | (apply ay_conv (a := ((1 : Nat) : Int)) rfl un_ un_; exact oo_; exact fitU (by decide)) | (apply ay_conv rfl un_ un_; exact oo_; exact fitU (by omega)) | (apply ay_conv rfl un_ un_; exact oo_; exact fit_)
                                         | (apply ay_cut_row rfl un_ el_; exact oo_; exact mem_; exact lo_; exact hi_; exact lt_; exact le_; done) | fail)
    | refine g27_ ?_
      | refine s_opg ?_ (hy := by intro hk hk2; first | (apply ay_conv (a := ((1 : Nat) : Int)) rfl un_ un_; exact oo_; exact fitU (by decide)) | (apply ay_conv rfl un_ un_; exact oo_; exact fitU (by omega)) | (apply ay_conv rfl un_ un_; exact oo_; exact fit_)
                                                        | (apply ay_cut_row rfl un_ el_; exact oo_; exact mem_; exact lo_; exact hi_; exact lt_; exact le_; done) | fail)
    | refine sw_ ?_ | (refine aw_if ?_ ?_ <;> intro hb <;> try exact no_) | (refine sx_ ?_ <;> intro bb) | (refine su_ ?_ <;> intro u hu1 hu2) | fail)
    all_goals first | (exfalso; simp at hb; omega) | skip
    refine ⟨_, _, rl_, List.Sublist.refl _, u, rfl, ?_⟩
    rw [hl, show n = N by omega, Nat.sub_self, List.replicate_zero, List.append_nil]
end Go.Proofs.YtgfmjmfphmjdkaaDoor
namespace Go.Proofs.YtgfmjmfphmjdkaaDoor
set_option linter.unusedSimpArgs false
set_option linter.unusedVariables false
set_option linter.unusedSectionVars false
set_option maxHeartbeats 4000000
open Go Go.RowKit
set_option maxRecDepth 100000
theorem sub_nilB : Sub (vA (.slice none 0 0)) (slA guT []) := fun _ _ h => by
  rw [h.eq]; exact .of ⟨none, 0, 0, rfl, rfl, Nat.le_refl _, Nat.zero_le _, fun _ => rfl, fun h => absurd rfl h⟩
variable {T0 : Gh} [TabS T0]
attribute [local irreducible] thenA inBlockA AW AL AO QY varO rowO rsA Opd OpdN vA gvA tupA aggA slA slcA ipA rpA EqK LnK IxK LdK FaK FdK
theorem f_beOwn (w h : Int) (l : List Guess) (x y : Int) (b s : Bool) (hl : l.length ≤ 100000) : AF Tryd.prog T0 24 [belA w h l x y b s] [] (fun A M' => ∃ u, A = aggA [I w, I h, vA u, I x, I y, B b, B s] ∧ M' = [rowO guT 44 u l]) := by
  refine af_intro Tryd.func24 rfl (by decide) Tryd.ntmps24 rfl ?_
  repeat' (first
  | refine g1_ ?_ | (refine aw_if ?_ ?_ <;> intro hb <;> try exact no_) | (refine sx_ ?_ <;> intro bb) | (refine su_ ?_ <;> intro u hu1 hu2) | fail)
  refine ⟨_, _, rs_, (List.Sublist.cons_cons _ (List.nil_sublist _)), u, rfl, ?_⟩
  rw [List.length_replicate, List.take_length, show ovr (List.replicate l.length gZero) 0 l = l by simp [ovr]]
theorem f_changes (k : Int) : AP Tryd.prog T0 23 [I k] (B (chg k)) := by
  refine af_intro Tryd.func23 rfl (by decide) Tryd.ntmps23 rfl ?_
  repeat' (first
  | refine g1_ ?_ | (refine aw_if ?_ ?_ <;> intro hb <;> try exact no_) | (refine sx_ ?_ <;> intro bb) | (refine su_ ?_ <;> intro u hu1 hu2) | fail)
  refine ⟨_, [], rl_, List.nil_sublist _, Sub.eq (congrArg B ?_), rfl⟩
  simp [chg]
theorem f_beNewO (w h : Nat) (h1 : 2 ≤ w) (h2 : w ≤ 80) (h3 : 1 ≤ h) (h4 : h ≤ 24) : AF Tryd.prog T0 17 [I w, I h] [] (fun A M' => ∃ u, A = tupA [aggA [I w, I h, vA u, I 0, I 0, B false, B false], I 0] ∧ M' = [rowO guT 44 u (List.replicate (w * h) gZero)]) := by
  have hb := side_le h2 h4
  have hnn : (0 : Int) ≤ ((w * h : Nat) : Int) := Int.natCast_nonneg _
  have c1 : AP Tryd.prog T0 32 [I w, I h] (tupA [gridA w h (List.replicate (w * h) (32, 0)), I 0]) := (f_New w h).to (by rw [newR, if_pos (by simp [sidesM]; omega)]; rfl)
  generalize List.replicate (w * h) ((32, 0) : Cell) = g0 at *
  refine af_intro Tryd.func17 rfl (by decide) Tryd.ntmps17 rfl ?_
  repeat' (first
  | refine g4_ ?_ | (refine aw_if ?_ ?_ <;> intro hb <;> try exact no_) | (refine sx_ ?_ <;> intro bb) | (refine su_ ?_ <;> intro u hu1 hu2) | fail)
  all_goals first | exact e1_ | skip
  exact ⟨_, _, rl_, sl_, u, rfl, rfl⟩
theorem f_beNew (w h : Int) : AP Tryd.prog T0 17 [I w, I h] (tupA [blA (newB w h).1, I (newB w h).2]) := by
  by_cases hs : sidesM w h = true
  · obtain ⟨w, h, rfl, rfl, h1, h2, h3, h4⟩ := sides_nat hs
    have := (f_beNewO (T0 := T0) w h h1 h2 h3 h4).frz1 fza_
    rw [newB, if_pos hs]
    simpa only [Int.toNat_natCast] using this
  · have c1 : AP Tryd.prog T0 32 [I w, I h] (tupA [gridA 0 0 [], I 4]) := (f_New w h).to (by simp only [newR, hs, grid2]; rfl)
    rw [newB, if_neg hs]
    refine af_intro Tryd.func17 rfl (by decide) Tryd.ntmps17 rfl ?_
    repeat' (first
    | refine g4_ ?_ | (refine aw_if ?_ ?_ <;> intro hb <;> try exact no_) | (refine sx_ ?_ <;> intro bb) | (refine su_ ?_ <;> intro u hu1 hu2) | fail)
    all_goals first | (exfalso; omega) | exact ⟨_, [], rl_, List.nil_sublist _, Sub.refl _, rfl⟩ | exact ⟨_, [], rl_, List.nil_sublist _, sub_tup (subl1 (sub_agg (subl1 (Sub.refl _) (subl1 (Sub.refl _) (subl1 sub_nilB (subl1 (Sub.refl _) (subl1 (Sub.refl _) (subl1 (Sub.refl _) (subl1 (Sub.refl _) subl0)))))))) (subl1 (Sub.refl _) subl0)), rfl⟩ | skip
end Go.Proofs.YtgfmjmfphmjdkaaDoor
