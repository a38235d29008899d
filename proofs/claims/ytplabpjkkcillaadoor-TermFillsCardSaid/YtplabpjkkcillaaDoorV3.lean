/- Layer 5 (vt): a command's bytes, by the program and by the reference. No condition. -/
import Derived.Test.YtplabpjkkcillaaDoorV2
namespace Go.Proofs.YtplabpjkkcillaaDoor
set_option linter.unusedSimpArgs false
set_option linter.unusedVariables false
set_option linter.unusedSectionVars false
set_option maxHeartbeats 4000000
open Go Go.RowKit
variable {T0 : Gh}
set_option maxRecDepth 100000
def constV : Operand → Option Value
  | .const v => some v
  | _ => none
section
variable {P : Program} {T0 : Gh} {N : Fz} {Q : Post} {fr : Fr} {M M' : List Own} {ops : Array Oper} {o : Oper} {rest : List Oper} {x0 : Nat}
theorem const_eval (a : Act) : ∀ (l : List (Nat × Operand)) (vs : List (Nat × Value)), l.mapM (fun p => (constV p.2).map fun v => (p.1, v)) = some vs → l.map (fun p => (p.1, a.eval p.2)) = vs
  | [], vs, h => by simp at h; subst h; rfl
  | (i, x) :: l, vs, h => by
    simp only [List.mapM_cons, Option.bind_eq_bind, Option.pure_def] at h
    cases hx : constV x with
    | none => simp [hx] at h
    | some v =>
      cases hl : l.mapM (fun p => (constV p.2).map fun v => (p.1, v)) with
      | none => simp [hx, hl] at h
      | some r =>
        simp [hx, hl] at h
        subst h
        have hv : a.eval x = v := by
          cases x <;> simp [constV] at hx
          subst hx; rfl
        rw [List.map_cons, const_eval a l r hl, hv]
/-- an array of constants is built -/
theorem ay_build_const {t : TypeId} {parts : Array (Nat × Operand)} {vs : List (Nat × Value)} {cs : List Value} (ho : o.op = .build t parts) (hv : parts.toList.mapM (fun p => (constV p.2).map fun v => (p.1, v)) = some vs) (hb : P.built t vs = some cs.toArray) : AY P T0 ops o fr M (aggA (cs.map vA)) := ay_of fun w0 G F a w hs hf => by
  have h1 := const_eval a _ _ hv
  have h2 : (parts.map fun (i, x) => (i, a.eval x)).toList = vs := by rw [← h1]; simp
  have h3 := run_build (P := P) w t (parts.map fun (i, x) => (i, a.eval x)) cs.toArray (by rw [h2]; exact hb)
  refine ⟨.agg cs.toArray, ?_, .of ⟨cs, rfl, allRep_va _ _⟩⟩
  simp [execOp, ho, h3]
theorem ay_index_varr {x y : Operand} {t e : TypeId} {n k' m b of2 : Nat} {k : IntKind} (ho : o.op = .indexAddr t x y) (hu : P.underlying t = some (.array n e)) (hz : ∀ w, (sizeOf e).run P w = .ok k' w) (hx : Opd T0 fr x (vA (.pointer (some ⟨b, of2, none⟩)))) (hy : OpdN T0 fr y k m) (hm : m < n) : AY P T0 ops o fr M (vA (.pointer (some ⟨b, of2 + m * k', none⟩))) := ay_of fun w0 G F a w hs hf => by
  have h1 := (hx.use (o := o) (ops := ops) (by simp [ho, Op.operands]) hs.tab hf).eq
  have h4 := ((show Opd T0 fr y (vA (.int k (m : Int))) from hy).use (o := o) (ops := ops) (by simp [ho, Op.operands]) hs.tab hf).eq
  refine ⟨.pointer (some ⟨b, of2 + m * k', none⟩), ?_, Rep.va _ _⟩
  have hr : (m : Int) < (n : Int) := by omega
  simp only [execOp, ho, h1, h4]
  simp [Instr.indexAt, asIntOf, run_underlying hu, hz, hm, Instr.sureAddr, Addr.add_lit]
end
instance cUnF : UnC 103 (.array 6 9) := ⟨Tryd.underlying103⟩
instance cSzF : SzC 103 6 := ⟨size_of (by kernel_rfl)⟩
instance cAlF : AlC 103 (.agg #[.string ⟨#[]⟩, .string ⟨#[]⟩, .string ⟨#[]⟩, .string ⟨#[]⟩, .string ⟨#[]⟩, .string ⟨#[]⟩]) [.string ⟨#[]⟩, .string ⟨#[]⟩, .string ⟨#[]⟩, .string ⟨#[]⟩, .string ⟨#[]⟩, .string ⟨#[]⟩] [SA [], SA [], SA [], SA [], SA [], SA []] := ⟨by kernel_rfl, rfl, rfl⟩
theorem forms_built : Tryd.prog.built 103 [(0, .string ⟨#[27, 91, 75]⟩), (1, .string ⟨#[27, 91, 74]⟩), (2, .string ⟨#[13]⟩), (3, .string ⟨#[10]⟩), (4, .string ⟨#[8]⟩), (5, .string ⟨#[7]⟩)] = some [Value.string ⟨#[27, 91, 75]⟩, .string ⟨#[27, 91, 74]⟩, .string ⟨#[13]⟩, .string ⟨#[10]⟩, .string ⟨#[8]⟩, .string ⟨#[7]⟩].toArray := by kernel_rfl
attribute [local irreducible] thenA inBlockA AW AL AO QY varO rowO rsA Opd OpdN vA gvA tupA aggA slA slcA ipA rpA EqK LnK IxK LdK FaK FdK
theorem f_form (k : Int) (h : 7 ≤ k ∧ k ≤ 12) : AP Tryd.prog T0 47 [I k] (SA (formB k)) := by
  have h2 : k = 7 ∨ k = 8 ∨ k = 9 ∨ k = 10 ∨ k = 11 ∨ k = 12 := by omega
  rcases h2 with rfl | rfl | rfl | rfl | rfl | rfl
  all_goals clear h
  all_goals refine af_intro Tryd.func47 rfl (by decide) Tryd.ntmps47 rfl ?_
  all_goals
    repeat' (first
    | fail
    | refine s_y ?_
      | refine c_ ?_
      | (refine aw_if ?_ ?_ <;> intro hb <;> try (exfalso; first | assumption | omega | (simp only [or_self, and_self, not_true_eq_false, not_false_eq_true, or_false, false_or, and_false, false_and, true_and, and_true] at hb; first | done | omega)))
      | refine s_call ?_ (c := by first | fail | fail)
      | refine s_op ?_ (hy := by first | (apply ay_index_varr rfl un_ sz_; exact oo_; exact on_; exact lt_; done) | exact ay_build_const rfl rfl forms_built | fail)
      | refine s_yg ?_
      | refine s_callg ?_ (c := by intro hk hk2; first | fail | fail)
      | refine s_opg ?_ (hy := by intro hk hk2; first | (apply ay_index_varr rfl un_ sz_; exact oo_; exact on_; exact lt_; done) | exact ay_build_const rfl rfl forms_built | fail)
      | refine s_skip ?_
      | ((first | refine w_alloc ?_ | refine w_box ?_) <;> intro bb)
      | ((first | refine w_emp ?_ | refine w_make ?_ | refine w_app ?_) <;> intro u hu1 hu2)
      | refine w_stv ?_ | refine w_str ?_ | refine w_cpr ?_ | refine w_cps ?_
      | refine al_last (by kernel_rfl) ?_
    | fail)
  all_goals exact ⟨_, [], rs_, List.nil_sublist _, Sub.eq (congrArg (fun l : List UInt8 => SA l) (by decide)), rfl⟩
theorem isCmd_cases {k a b r : Int} (h : isCmd (k, a, b, r) = true) : (k = 1 ∧ shown r = true) ∨ (k = 2 ∧ 0 ≤ a ∧ a ≤ 23 ∧ 0 ≤ b ∧ b ≤ 79) ∨ ((3 ≤ k ∧ k ≤ 6) ∧ 1 ≤ a ∧ a ≤ 80) ∨ (7 ≤ k ∧ k ≤ 12) := by
  simp only [isCmd] at h
  by_cases h1 : k = 1
  · simp [h1] at h; exact .inl ⟨h1, h.1.1⟩
  · by_cases h2 : k = 2
    · simp [h2] at h; omega
    · by_cases h3 : 3 ≤ k ∧ k ≤ 6
      · simp [h1, h2, h3] at h; omega
      · rw [if_neg h1, if_neg h2, if_neg h3] at h; simp at h; omega
theorem f_vtPut (c : Cmd) : AP Tryd.prog T0 22 [cmdA c] (str2 (putR' c)) := by
  obtain ⟨k, a, b, r⟩ := c
  show AP Tryd.prog T0 _ [aggA [I k, I a, I b, R r]] _
  by_cases hc : isCmd (k, a, b, r) = true
  · have c1 : AP Tryd.prog T0 44 [aggA [I k, I a, I b, R r]] (B true) := hc ▸ f_vtIs (k, a, b, r)
    rw [putR', if_pos hc]
    rcases isCmd_cases hc with ⟨rfl, hs⟩ | ⟨rfl, a1, a2, b1, b2⟩ | ⟨h3, a1, a2⟩ | h7
    · have c2 : AP Tryd.prog T0 45 [R r] (tupA [SA (encB r), I 0]) := (f_glyphPut r).to (by rw [putG, if_pos (isG_shown hs)]; rfl)
      refine af_intro Tryd.func22 rfl (by decide) Tryd.ntmps22 rfl ?_
      repeat' (first
      | fail
      | refine s_y ?_
        | refine c_ ?_
        | (refine aw_if ?_ ?_ <;> intro hb <;> try (exfalso; first | assumption | omega | (simp only [or_self, and_self, not_true_eq_false, not_false_eq_true, or_false, false_or, and_false, false_and, true_and, and_true] at hb; first | done | omega)))
        | refine s_call ?_ (c := by first | exact c1 | exact c2 | exact f_Itoa _ (by omega) | exact f_digits _ (by omega) | fail)
        | refine s_op ?_ (hy := by first | (apply bs_u1 rfl un_; exact oo_; omega) | fail)
        | refine s_yg ?_
        | refine s_callg ?_ (c := by intro hk hk2; first | exact c1 | exact c2 | exact f_Itoa _ (by omega) | exact f_digits _ (by omega) | fail)
        | refine s_opg ?_ (hy := by intro hk hk2; first | (apply bs_u1 rfl un_; exact oo_; omega) | fail)
        | refine s_skip ?_
        | ((first | refine w_alloc ?_ | refine w_box ?_) <;> intro bb)
        | ((first | refine w_emp ?_ | refine w_make ?_ | refine w_app ?_) <;> intro u hu1 hu2)
        | refine w_stv ?_ | refine w_str ?_ | refine w_cpr ?_ | refine w_cps ?_
        | refine al_last (by kernel_rfl) ?_
      | fail)
      exact ⟨_, [], rs_, List.nil_sublist _, Sub.eq (by simp [bytesB, str2]), rfl⟩
    · have c2 : True := trivial
      obtain ⟨a, rfl⟩ := Int.eq_ofNat_of_zero_le a1
      obtain ⟨b, rfl⟩ := Int.eq_ofNat_of_zero_le b1
      have d1 := digB_len (a + 1)
      have d2 := digB_len (b + 1)
      refine af_intro Tryd.func22 rfl (by decide) Tryd.ntmps22 rfl ?_
      repeat' (first
      | fail
      | refine s_y ?_
        | refine c_ ?_
        | (refine aw_if ?_ ?_ <;> intro hb <;> try (exfalso; first | assumption | omega | (simp only [or_self, and_self, not_true_eq_false, not_false_eq_true, or_false, false_or, and_false, false_and, true_and, and_true] at hb; first | done | omega)))
        | refine s_call ?_ (c := by first | exact c1 | exact c2 | exact f_Itoa _ (by omega) | exact f_digits _ (by omega) | fail)
        | refine s_op ?_ (hy := by first | (apply bs_u1 rfl un_; exact oo_; omega) | fail)
        | refine s_yg ?_
        | refine s_callg ?_ (c := by intro hk hk2; first | exact c1 | exact c2 | exact f_Itoa _ (by omega) | exact f_digits _ (by omega) | fail)
        | refine s_opg ?_ (hy := by intro hk hk2; first | (apply bs_u1 rfl un_; exact oo_; omega) | fail)
        | refine s_skip ?_
        | ((first | refine w_alloc ?_ | refine w_box ?_) <;> intro bb)
        | ((first | refine w_emp ?_ | refine w_make ?_ | refine w_app ?_) <;> intro u hu1 hu2)
        | refine w_stv ?_ | refine w_str ?_ | refine w_cpr ?_ | refine w_cps ?_
        | refine al_last (by kernel_rfl) ?_
      | fail)
      all_goals first | (exfalso; omega) | skip
      refine ⟨_, [], rs_, List.nil_sublist _, Sub.eq ?_, rfl⟩
      simp [bytesB, str2, show ((a : Int) + 1).toNat = a + 1 by omega, show ((b : Int) + 1).toNat = b + 1 by omega]
    · have c2 : True := trivial
      obtain ⟨a, rfl⟩ := Int.eq_ofNat_of_zero_le (show 0 ≤ a by omega)
      have d1 := digB_len a
      refine af_intro Tryd.func22 rfl (by decide) Tryd.ntmps22 rfl ?_
      repeat' (first
      | fail
      | refine s_y ?_
        | refine c_ ?_
        | (refine aw_if ?_ ?_ <;> intro hb <;> try (exfalso; first | assumption | omega | (simp only [or_self, and_self, not_true_eq_false, not_false_eq_true, or_false, false_or, and_false, false_and, true_and, and_true] at hb; first | done | omega)))
        | refine s_call ?_ (c := by first | exact c1 | exact c2 | exact f_Itoa _ (by omega) | exact f_digits _ (by omega) | fail)
        | refine s_op ?_ (hy := by first | (apply bs_u1 rfl un_; exact oo_; omega) | fail)
        | refine s_yg ?_
        | refine s_callg ?_ (c := by intro hk hk2; first | exact c1 | exact c2 | exact f_Itoa _ (by omega) | exact f_digits _ (by omega) | fail)
        | refine s_opg ?_ (hy := by intro hk hk2; first | (apply bs_u1 rfl un_; exact oo_; omega) | fail)
        | refine s_skip ?_
        | ((first | refine w_alloc ?_ | refine w_box ?_) <;> intro bb)
        | ((first | refine w_emp ?_ | refine w_make ?_ | refine w_app ?_) <;> intro u hu1 hu2)
        | refine w_stv ?_ | refine w_str ?_ | refine w_cpr ?_ | refine w_cps ?_
        | refine al_last (by kernel_rfl) ?_
      | fail)
      all_goals first | (exfalso; omega) | skip
      all_goals refine ⟨_, [], rs_, List.nil_sublist _, Sub.eq ?_, rfl⟩
      all_goals simp only [bytesB, str2, show (65 : Int) + k - 3 = 62 + k by omega]
      all_goals rw [if_neg (by omega), if_neg (by omega), if_pos (by omega)]
      · rw [if_pos (by omega)]; rfl
      · rw [if_neg (by omega)]; rfl
    · have c2 : AP Tryd.prog T0 47 [I k] (SA (formB k)) := f_form k h7
      refine af_intro Tryd.func22 rfl (by decide) Tryd.ntmps22 rfl ?_
      repeat' (first
      | fail
      | refine s_y ?_
        | refine c_ ?_
        | (refine aw_if ?_ ?_ <;> intro hb <;> try (exfalso; first | assumption | omega | (simp only [or_self, and_self, not_true_eq_false, not_false_eq_true, or_false, false_or, and_false, false_and, true_and, and_true] at hb; first | done | omega)))
        | refine s_call ?_ (c := by first | exact c1 | exact c2 | exact f_Itoa _ (by omega) | exact f_digits _ (by omega) | fail)
        | refine s_op ?_ (hy := by first | (apply bs_u1 rfl un_; exact oo_; omega) | fail)
        | refine s_yg ?_
        | refine s_callg ?_ (c := by intro hk hk2; first | exact c1 | exact c2 | exact f_Itoa _ (by omega) | exact f_digits _ (by omega) | fail)
        | refine s_opg ?_ (hy := by intro hk hk2; first | (apply bs_u1 rfl un_; exact oo_; omega) | fail)
        | refine s_skip ?_
        | ((first | refine w_alloc ?_ | refine w_box ?_) <;> intro bb)
        | ((first | refine w_emp ?_ | refine w_make ?_ | refine w_app ?_) <;> intro u hu1 hu2)
        | refine w_stv ?_ | refine w_str ?_ | refine w_cpr ?_ | refine w_cps ?_
        | refine al_last (by kernel_rfl) ?_
      | fail)
      all_goals first | (exfalso; omega) | skip
      refine ⟨_, [], rs_, List.nil_sublist _, Sub.eq ?_, rfl⟩
      simp only [bytesB, str2]
      rw [if_neg (by omega), if_neg (by omega), if_neg (by omega)]
  · have c1 : AP Tryd.prog T0 44 [aggA [I k, I a, I b, R r]] (B false) := by
      have := f_vtIs (T0 := T0) (k, a, b, r)
      rw [show isCmd (k, a, b, r) = false by simpa using hc] at this; exact this
    have c2 : True := trivial
    rw [putR', if_neg hc]
    refine af_intro Tryd.func22 rfl (by decide) Tryd.ntmps22 rfl ?_
    repeat' (first
    | fail
    | refine s_y ?_
      | refine c_ ?_
      | (refine aw_if ?_ ?_ <;> intro hb <;> try (exfalso; first | assumption | omega | (simp only [or_self, and_self, not_true_eq_false, not_false_eq_true, or_false, false_or, and_false, false_and, true_and, and_true] at hb; first | done | omega)))
      | refine s_call ?_ (c := by first | exact c1 | exact c2 | exact f_Itoa _ (by omega) | exact f_digits _ (by omega) | fail)
      | refine s_op ?_ (hy := by first | (apply bs_u1 rfl un_; exact oo_; omega) | fail)
      | refine s_yg ?_
      | refine s_callg ?_ (c := by intro hk hk2; first | exact c1 | exact c2 | exact f_Itoa _ (by omega) | exact f_digits _ (by omega) | fail)
      | refine s_opg ?_ (hy := by intro hk hk2; first | (apply bs_u1 rfl un_; exact oo_; omega) | fail)
      | refine s_skip ?_
      | ((first | refine w_alloc ?_ | refine w_box ?_) <;> intro bb)
      | ((first | refine w_emp ?_ | refine w_make ?_ | refine w_app ?_) <;> intro u hu1 hu2)
      | refine w_stv ?_ | refine w_str ?_ | refine w_cpr ?_ | refine w_cps ?_
      | refine al_last (by kernel_rfl) ?_
    | fail)
    exact ⟨_, [], rs_, List.nil_sublist _, Sub.refl _, rfl⟩
theorem abcd (k : Nat) (h : 3 ≤ k ∧ k ≤ 6) : (([65, 66, 67, 68] : List UInt8).drop (k - 3)).take (k - 2 - (k - 3)) = [UInt8.ofNat (62 + (k : Int)).toNat] := by
  have : k = 3 ∨ k = 4 ∨ k = 5 ∨ k = 6 := by omega
  rcases this with rfl | rfl | rfl | rfl <;> decide
theorem f_ref05Put (c : Cmd) : AP Tryd.prog T0 83 [cmdA c] (str2 (putR' c)) := by
  obtain ⟨k, a, b, r⟩ := c
  show AP Tryd.prog T0 _ [aggA [I k, I a, I b, R r]] _
  by_cases hc : isCmd (k, a, b, r) = true
  · have c1 : AP Tryd.prog T0 63 [aggA [I k, I a, I b, R r]] (B true) := hc ▸ f_ref05Is (k, a, b, r)
    rw [putR', if_pos hc]
    rcases isCmd_cases hc with ⟨rfl, hs⟩ | ⟨rfl, a1, a2, b1, b2⟩ | ⟨h3, a1, a2⟩ | h7
    · have c2 : AP Tryd.prog T0 105 [R r] (tupA [SA (encB r), I 0]) := (f_ref01Put r).to (by rw [putG, if_pos (isG_shown hs)]; rfl)
      refine af_intro Tryd.func83 rfl (by decide) Tryd.ntmps83 rfl ?_
      repeat' (first
      | fail
      | refine s_y ?_
        | refine c_ ?_
        | (refine aw_if ?_ ?_ <;> intro hb <;> try (exfalso; first | assumption | omega | (simp only [or_self, and_self, not_true_eq_false, not_false_eq_true, or_false, false_or, and_false, false_and, true_and, and_true] at hb; first | done | omega)))
        | refine s_call ?_ (c := by first | exact c1 | exact c2 | exact f_Itoa _ (by omega) | exact f_digits _ (by omega) | fail)
        | refine s_op ?_ (hy := by first | fail | fail)
        | refine s_yg ?_
        | refine s_callg ?_ (c := by intro hk hk2; first | exact c1 | exact c2 | exact f_Itoa _ (by omega) | exact f_digits _ (by omega) | fail)
        | refine s_opg ?_ (hy := by intro hk hk2; first | fail | fail)
        | refine s_skip ?_
        | ((first | refine w_alloc ?_ | refine w_box ?_) <;> intro bb)
        | ((first | refine w_emp ?_ | refine w_make ?_ | refine w_app ?_) <;> intro u hu1 hu2)
        | refine w_stv ?_ | refine w_str ?_ | refine w_cpr ?_ | refine w_cps ?_
        | refine al_last (by kernel_rfl) ?_
      | fail)
      exact ⟨_, [], rs_, List.nil_sublist _, Sub.eq (by simp [bytesB, str2]), rfl⟩
    · have c2 : True := trivial
      obtain ⟨a, rfl⟩ := Int.eq_ofNat_of_zero_le a1
      obtain ⟨b, rfl⟩ := Int.eq_ofNat_of_zero_le b1
      have d1 := digB_len (a + 1)
      have d2 := digB_len (b + 1)
      refine af_intro Tryd.func83 rfl (by decide) Tryd.ntmps83 rfl ?_
      repeat' (first
      | fail
      | refine s_y ?_
        | refine c_ ?_
        | (refine aw_if ?_ ?_ <;> intro hb <;> try (exfalso; first | assumption | omega | (simp only [or_self, and_self, not_true_eq_false, not_false_eq_true, or_false, false_or, and_false, false_and, true_and, and_true] at hb; first | done | omega)))
        | refine s_call ?_ (c := by first | exact c1 | exact c2 | exact f_Itoa _ (by omega) | exact f_digits _ (by omega) | fail)
        | refine s_op ?_ (hy := by first | fail | fail)
        | refine s_yg ?_
        | refine s_callg ?_ (c := by intro hk hk2; first | exact c1 | exact c2 | exact f_Itoa _ (by omega) | exact f_digits _ (by omega) | fail)
        | refine s_opg ?_ (hy := by intro hk hk2; first | fail | fail)
        | refine s_skip ?_
        | ((first | refine w_alloc ?_ | refine w_box ?_) <;> intro bb)
        | ((first | refine w_emp ?_ | refine w_make ?_ | refine w_app ?_) <;> intro u hu1 hu2)
        | refine w_stv ?_ | refine w_str ?_ | refine w_cpr ?_ | refine w_cps ?_
        | refine al_last (by kernel_rfl) ?_
      | fail)
      all_goals first | (exfalso; omega) | skip
      refine ⟨_, [], rs_, List.nil_sublist _, Sub.eq ?_, rfl⟩
      simp [bytesB, str2, show ((a : Int) + 1).toNat = a + 1 by omega, show ((b : Int) + 1).toNat = b + 1 by omega]
    · have c2 : True := trivial
      obtain ⟨a, rfl⟩ := Int.eq_ofNat_of_zero_le (show 0 ≤ a by omega)
      have d1 := digB_len a
      have hk : k = 3 ∨ k = 4 ∨ k = 5 ∨ k = 6 := by omega
      clear h3
      rcases hk with rfl | rfl | rfl | rfl
      all_goals refine af_intro Tryd.func83 rfl (by decide) Tryd.ntmps83 rfl ?_
      all_goals
        repeat' (first
        | fail
        | refine s_y ?_
          | refine c_ ?_
          | (refine aw_if ?_ ?_ <;> intro hb <;> try (exfalso; first | assumption | omega | (simp only [or_self, and_self, not_true_eq_false, not_false_eq_true, or_false, false_or, and_false, false_and, true_and, and_true] at hb; first | done | omega)))
          | refine s_call ?_ (c := by first | exact c1 | exact c2 | exact f_Itoa _ (by omega) | exact f_digits _ (by omega) | fail)
          | refine s_op ?_ (hy := by first | fail | fail)
          | refine s_yg ?_
          | refine s_callg ?_ (c := by intro hk hk2; first | exact c1 | exact c2 | exact f_Itoa _ (by omega) | exact f_digits _ (by omega) | fail)
          | refine s_opg ?_ (hy := by intro hk hk2; first | fail | fail)
          | refine s_skip ?_
          | ((first | refine w_alloc ?_ | refine w_box ?_) <;> intro bb)
          | ((first | refine w_emp ?_ | refine w_make ?_ | refine w_app ?_) <;> intro u hu1 hu2)
          | refine w_stv ?_ | refine w_str ?_ | refine w_cpr ?_ | refine w_cps ?_
          | refine al_last (by kernel_rfl) ?_
        | fail)
      all_goals first | (exfalso; omega) | skip
      all_goals refine ⟨_, [], rs_, List.nil_sublist _, Sub.eq ?_, rfl⟩
      all_goals first | rw [abcd 3 (by decide)] | rw [abcd 4 (by decide)] | rw [abcd 5 (by decide)] | rw [abcd 6 (by decide)]
      all_goals simp only [bytesB, str2]
      all_goals rw [if_neg (by decide), if_neg (by decide), if_pos (by decide)]
      all_goals first | (rw [if_pos (by omega)]; rfl) | (rw [if_neg (by omega)]; rfl)
    · have hk : k = 7 ∨ k = 8 ∨ k = 9 ∨ k = 10 ∨ k = 11 ∨ k = 12 := by omega
      clear h7
      have c2 : True := trivial
      rcases hk with rfl | rfl | rfl | rfl | rfl | rfl
      all_goals refine af_intro Tryd.func83 rfl (by decide) Tryd.ntmps83 rfl ?_
      all_goals
        repeat' (first
        | fail
        | refine s_y ?_
          | refine c_ ?_
          | (refine aw_if ?_ ?_ <;> intro hb <;> try (exfalso; first | assumption | omega | (simp only [or_self, and_self, not_true_eq_false, not_false_eq_true, or_false, false_or, and_false, false_and, true_and, and_true] at hb; first | done | omega)))
          | refine s_call ?_ (c := by first | exact c1 | exact c2 | exact f_Itoa _ (by omega) | exact f_digits _ (by omega) | fail)
          | refine s_op ?_ (hy := by first | fail | fail)
          | refine s_yg ?_
          | refine s_callg ?_ (c := by intro hk hk2; first | exact c1 | exact c2 | exact f_Itoa _ (by omega) | exact f_digits _ (by omega) | fail)
          | refine s_opg ?_ (hy := by intro hk hk2; first | fail | fail)
          | refine s_skip ?_
          | ((first | refine w_alloc ?_ | refine w_box ?_) <;> intro bb)
          | ((first | refine w_emp ?_ | refine w_make ?_ | refine w_app ?_) <;> intro u hu1 hu2)
          | refine w_stv ?_ | refine w_str ?_ | refine w_cpr ?_ | refine w_cps ?_
          | refine al_last (by kernel_rfl) ?_
        | fail)
      all_goals first | (exfalso; omega) | skip
      all_goals refine ⟨_, [], rs_, List.nil_sublist _, Sub.eq ?_, rfl⟩
      all_goals simp [bytesB, str2, formB]
  · have c1 : AP Tryd.prog T0 63 [aggA [I k, I a, I b, R r]] (B false) := by
      have := f_ref05Is (T0 := T0) (k, a, b, r)
      rw [show isCmd (k, a, b, r) = false by simpa using hc] at this; exact this
    have c2 : True := trivial
    rw [putR', if_neg hc]
    refine af_intro Tryd.func83 rfl (by decide) Tryd.ntmps83 rfl ?_
    repeat' (first
    | fail
    | refine s_y ?_
      | refine c_ ?_
      | (refine aw_if ?_ ?_ <;> intro hb <;> try (exfalso; first | assumption | omega | (simp only [or_self, and_self, not_true_eq_false, not_false_eq_true, or_false, false_or, and_false, false_and, true_and, and_true] at hb; first | done | omega)))
      | refine s_call ?_ (c := by first | exact c1 | exact c2 | exact f_Itoa _ (by omega) | exact f_digits _ (by omega) | fail)
      | refine s_op ?_ (hy := by first | fail | fail)
      | refine s_yg ?_
      | refine s_callg ?_ (c := by intro hk hk2; first | exact c1 | exact c2 | exact f_Itoa _ (by omega) | exact f_digits _ (by omega) | fail)
      | refine s_opg ?_ (hy := by intro hk hk2; first | fail | fail)
      | refine s_skip ?_
      | ((first | refine w_alloc ?_ | refine w_box ?_) <;> intro bb)
      | ((first | refine w_emp ?_ | refine w_make ?_ | refine w_app ?_) <;> intro u hu1 hu2)
      | refine w_stv ?_ | refine w_str ?_ | refine w_cpr ?_ | refine w_cps ?_
      | refine al_last (by kernel_rfl) ?_
    | fail)
    exact ⟨_, [], rs_, List.nil_sublist _, Sub.refl _, rfl⟩
end Go.Proofs.YtplabpjkkcillaaDoor
