/- Several texts in one: see the comment ahead of each. No condition. -/
import Derived.Test.YtockidoncngdbaaGreatDoorQ2ZW
import Derived.Test.YtockidoncngdbaaGreatDoorQ2ZB
/- Layer 5 (vt): commands, as types and as plain laws: which are right, and which bytes they have. No condition. -/
namespace Go.Proofs.YtockidoncngdbaaGreatDoor
set_option linter.unusedSimpArgs false
set_option linter.unusedVariables false
set_option linter.unusedSectionVars false
set_option maxHeartbeats 4000000
open Go Go.RowKit
set_option maxRecDepth 100000
/-! ### commands: kind, A, B, sign -/
abbrev Cmd := Int × Int × Int × Int
def cmdT : Ty Cmd := { enc := fun c => [.int .i64 c.1, .int .i64 c.2.1, .int .i64 c.2.2.1, .int .i32 c.2.2.2], k := 4, len := fun _ => rfl }
def cmdA (c : Cmd) : AV := aggA [I c.1, I c.2.1, I c.2.2.1, R c.2.2.2]
theorem us_cmd : Tryz.prog.underlying 26 = some (.struct #[{ name := "Kind", type := 3, offset := 0, embedded := false, tag := "", pkgPath := "", byteOffset := 0 }, { name := "A", type := 3, offset := 1, embedded := false, tag := "", pkgPath := "", byteOffset := 8 }, { name := "B", type := 3, offset := 2, embedded := false, tag := "", pkgPath := "", byteOffset := 16 }, { name := "R", type := 21, offset := 3, embedded := false, tag := "", pkgPath := "", byteOffset := 24 }]) := Tryz.underlying26
instance cStM : StC 26 [I 0, I 0, I 0, R 0] [(0, 1), (1, 1), (2, 1), (3, 1)] := ⟨StT.mk' _ [.int .i64 0, .int .i64 0, .int .i64 0, .int .i32 0] us_cmd (by kernel_rfl) (by kernel_rfl)⟩
instance cFlM0 : FldC 26 0 0 3 := ⟨_, _, us_cmd, rfl, rfl, rfl⟩
instance cFlM1 : FldC 26 1 1 3 := ⟨_, _, us_cmd, rfl, rfl, rfl⟩
instance cFlM2 : FldC 26 2 2 3 := ⟨_, _, us_cmd, rfl, rfl, rfl⟩
instance cFlM3 : FldC 26 3 3 21 := ⟨_, _, us_cmd, rfl, rfl, rfl⟩
instance cAgM : AggC 26 true := ⟨agg_yes (by kernel_rfl)⟩
instance cSzM : SzC 26 4 := ⟨size_of (by kernel_rfl)⟩
instance cAlM : AlC 26 (.agg #[.int .i64 0, .int .i64 0, .int .i64 0, .int .i32 0]) [.int .i64 0, .int .i64 0, .int .i64 0, .int .i32 0] [I 0, I 0, I 0, R 0] := ⟨by kernel_rfl, rfl, rfl⟩
theorem el_cmd : El Tryz.prog cmdT 26 (0, 0, 0, 0) 32 cmdA := ⟨⟨.agg #[.int .i64 0, .int .i64 0, .int .i64 0, .int .i32 0], by kernel_rfl, rfl⟩, by decide, fun x v hv => by simp [cmdT] at hv; rcases hv with rfl | rfl | rfl | rfl <;> rfl, .inl ⟨agg_yes (by kernel_rfl), fun x => rfl⟩⟩
instance cElM : ElC 26 cmdT (0, 0, 0, 0) 32 cmdA := ⟨el_cmd⟩
theorem un_cmds : Tryz.prog.underlying 83 = some (.slice 26) := Tryz.underlying83
instance cUnMs : UnC 83 (.slice 26) := ⟨un_cmds⟩
instance cUnS : UnC 9 .string := ⟨Tryz.underlying9⟩
instance cSzS : SzC 9 1 := ⟨size_of (by kernel_rfl)⟩
/-! commands are compared -/
theorem fl_cmd : (Tryz.prog.fieldsOf 26).toList = [{ name := "Kind", type := 3, offset := 0, embedded := false, tag := "", pkgPath := "", byteOffset := 0 }, { name := "A", type := 3, offset := 1, embedded := false, tag := "", pkgPath := "", byteOffset := 8 }, { name := "B", type := 3, offset := 2, embedded := false, tag := "", pkgPath := "", byteOffset := 16 }, { name := "R", type := 21, offset := 3, embedded := false, tag := "", pkgPath := "", byteOffset := 24 }] := by kernel_rfl
theorem run_cmd_eq (d : Nat) (a b : Cmd) (w : World) : (Op.equalIn (d + 2) 26 (.agg #[.int .i64 a.1, .int .i64 a.2.1, .int .i64 a.2.2.1, .int .i32 a.2.2.2]) (.agg #[.int .i64 b.1, .int .i64 b.2.1, .int .i64 b.2.2.1, .int .i32 b.2.2.2])).run Tryz.prog w = .ok (decide (a = b)) w := by
  rw [run_equalIn_agg _ _ _ _ _ (by kernel_rfl) (by kernel_rfl), fl_cmd]
  obtain ⟨a1, a2, a3, a4⟩ := a
  obtain ⟨b1, b2, b3, b4⟩ := b
  simp [Op.eqFields, part, na_i32, na_int, eq_i32, eq_int]
  by_cases h1 : a1 = b1 <;> by_cases h2 : a2 = b2 <;> by_cases h3 : a3 = b3 <;> by_cases h4 : a4 = b4 <;> simp [h1, h2, h3, h4]
theorem eqg_cmd (op : BinOp) (x y : Operand) (xs ys : Array Value) (w : World) : (eqGuard op 26 x y (.agg xs) (.agg ys)).run Tryz.prog w = .ok () w := run_eqGuard_agg w op _ x y xs ys (by kernel_rfl)
theorem ek_cmd {a1 a2 a3 a4 b1 b2 b3 b4 : Int} : EqK Tryz.prog 26 (aggA [I a1, I a2, I a3, R a4]) (aggA [I b1, I b2, I b3, R b4]) (decide (((a1, a2, a3, a4) : Cmd) = (b1, b2, b3, b4))) := fun T0 fr M ops o x y t' hx hy => by
  have key : ∀ (G : Gh) (a : Act), Gh.le T0 G → frOn G (reads ops o) fr a.tmps → (∀ z, z = x ∨ z = y → z ∈ o.op.operands) → a.eval x = .agg #[.int .i64 a1, .int .i64 a2, .int .i64 a3, .int .i32 a4] ∧ a.eval y = .agg #[.int .i64 b1, .int .i64 b2, .int .i64 b3, .int .i32 b4] := fun G a ht hf hm => by
    obtain ⟨us, h1, r1⟩ := (hx.use (o := o) (ops := ops) (hm x (.inl rfl)) ht hf).agg
    obtain ⟨vs, h2, r2⟩ := (hy.use (o := o) (ops := ops) (hm y (.inr rfl)) ht hf).agg
    obtain rfl := allRep_eq (zs := [.int .i64 a1, .int .i64 a2, .int .i64 a3, .int .i32 a4]) r1
    obtain rfl := allRep_eq (zs := [.int .i64 b1, .int .i64 b2, .int .i64 b3, .int .i32 b4]) r2
    exact ⟨h1, h2⟩
  refine ⟨fun ho => ay_of fun w0 G F a w hs hf => ?_, fun ho => ay_of fun w0 G F a w hs hf => ?_⟩
  · obtain ⟨h1, h2⟩ := key G a hs.tab hf fun z hz => by rcases hz with rfl | rfl <;> simp [ho, Op.operands]
    have h3 := run_cmd_eq 9998 (a1, a2, a3, a4) (b1, b2, b3, b4) w
    exact ⟨_, by simp only [execOp, ho, h1, h2, Sem.run_bind, eqg_cmd, Result.andThen_ok, run_eql_struct, h3, Sem.run_pure], Rep.va _ _⟩
  · obtain ⟨h1, h2⟩ := key G a hs.tab hf fun z hz => by rcases hz with rfl | rfl <;> simp [ho, Op.operands]
    have h3 := run_cmd_eq 9998 (a1, a2, a3, a4) (b1, b2, b3, b4) w
    exact ⟨_, by simp only [execOp, ho, h1, h2, Sem.run_bind, eqg_cmd, Result.andThen_ok, run_neq_struct, h3, Sem.run_pure], Rep.va _ _⟩
/-! ### the plain laws -/
def isCmd (c : Cmd) : Bool :=
  if c.1 = 1 then shown c.2.2.2 && decide (c.2.1 = 0) && decide (c.2.2.1 = 0)
  else decide (c.2.2.2 = 0) && (if c.1 = 2 then decide (0 ≤ c.2.1) && decide (c.2.1 ≤ 23) && decide (0 ≤ c.2.2.1) && decide (c.2.2.1 ≤ 79)
    else decide (c.2.2.1 = 0) && (if 3 ≤ c.1 ∧ c.1 ≤ 6 then decide (1 ≤ c.2.1) && decide (c.2.1 ≤ 80) else decide (7 ≤ c.1) && decide (c.1 ≤ 12) && decide (c.2.1 = 0)))
def digB (n : Nat) : List UInt8 := if n < 10 then [UInt8.ofNat (48 + n)] else [UInt8.ofNat (48 + n / 10), UInt8.ofNat (48 + n % 10)]
def formB (k : Int) : List UInt8 := if k = 7 then [27, 91, 75] else if k = 8 then [27, 91, 74] else if k = 9 then [13] else if k = 10 then [10] else if k = 11 then [8] else [7]
/-- a right command's bytes -/
def bytesB (c : Cmd) : List UInt8 :=
  if c.1 = 1 then encB c.2.2.2 else if c.1 = 2 then [27, 91] ++ digB (c.2.1 + 1).toNat ++ [59] ++ digB (c.2.2.1 + 1).toNat ++ [72]
  else if c.1 ≤ 6 then [27, 91] ++ (if c.2.1 = 1 then [] else digB c.2.1.toNat) ++ [UInt8.ofNat (62 + c.1).toNat] else formB c.1
def putR' (c : Cmd) : List UInt8 × Int := if isCmd c = true then (bytesB c, 0) else ([], 1)
theorem digB_len (n : Nat) : 1 ≤ (digB n).length ∧ (digB n).length ≤ 2 := by unfold digB; split <;> simp
theorem formB_len (k : Int) : 1 ≤ (formB k).length ∧ (formB k).length ≤ 3 := by unfold formB; (repeat' split) <;> simp
/-- a right sign's bytes, told out -/
def encC (r : Int) : List UInt8 :=
  if r < 128 then [UInt8.ofNat r.toNat] else if r < 2048 then [UInt8.ofNat (192 + r.toNat / 64), UInt8.ofNat (128 + r.toNat % 64)]
  else if r < 65536 then [UInt8.ofNat (224 + r.toNat / 4096), UInt8.ofNat (128 + r.toNat / 64 % 64), UInt8.ofNat (128 + r.toNat % 64)]
  else [UInt8.ofNat (240 + r.toNat / 262144), UInt8.ofNat (128 + r.toNat / 4096 % 64), UInt8.ofNat (128 + r.toNat / 64 % 64), UInt8.ofNat (128 + r.toNat % 64)]
theorem encB_eq {r : Int} (h : isG r = true) : encB r = encC r := by
  have h0 : 0 ≤ r := by simp [isG] at h; omega
  have hv : Utf8.valid r = true := by simp [isG] at h; simp [Utf8.valid]; omega
  unfold encB Utf8.encode encC
  simp only [hv, if_true]
  by_cases h1 : r < 128
  · rw [if_pos (by omega), if_pos h1]
  · rw [if_neg (by omega), if_neg h1]
    by_cases h2 : r < 2048
    · rw [if_pos (by omega), if_pos h2]
    · rw [if_neg (by omega), if_neg h2]
      by_cases h3 : r < 65536
      · rw [if_pos (by omega), if_pos h3]
      · rw [if_neg (by omega), if_neg h3]
theorem encC_len (r : Int) : 1 ≤ (encC r).length ∧ (encC r).length ≤ 4 := by
  unfold encC; (repeat' split) <;> simp
theorem isG_shown {r : Int} (h : shown r = true) : isG r = true := by
  simp only [shown, Bool.and_eq_true] at h; exact h.1.1
theorem bytesB_len {c : Cmd} (h : isCmd c = true) : 1 ≤ (bytesB c).length ∧ (bytesB c).length ≤ 8 := by
  unfold bytesB
  by_cases h1 : c.1 = 1
  · rw [if_pos h1]
    have : isG c.2.2.2 = true := isG_shown (by unfold isCmd at h; rw [if_pos h1] at h; simp only [Bool.and_eq_true] at h; exact h.1.1)
    rw [encB_eq this]
    have := encC_len c.2.2.2; omega
  · rw [if_neg h1]
    by_cases h2 : c.1 = 2
    · rw [if_pos h2]
      have a := digB_len (c.2.1 + 1).toNat
      have b := digB_len (c.2.2.1 + 1).toNat
      simp only [List.length_append, List.length_cons, List.length_nil]; omega
    · rw [if_neg h2]
      split
      · have a := digB_len c.2.1.toNat
        simp only [List.length_append, List.length_cons, List.length_nil]
        split <;> simp <;> omega
      · have := formB_len c.1; omega
end Go.Proofs.YtockidoncngdbaaGreatDoor
/- Layers 1 and 5 (signs, vt): bytes of signs and of numbers, which commands are right. No condition. -/
namespace Go.Proofs.YtockidoncngdbaaGreatDoor
set_option linter.unusedSimpArgs false
set_option linter.unusedVariables false
set_option linter.unusedSectionVars false
set_option maxHeartbeats 4000000
open Go Go.RowKit
variable {T0 : Gh}
set_option maxRecDepth 100000
section
variable {T0 : Gh} {N : Fz} {Q : Post} {fr : Fr} {M M' : List Own} {ops : Array Oper} {o : Oper} {rest : List Oper} {x0 : Nat}
end
attribute [local irreducible] thenA inBlockA AW AL AO QY varO rowO rsA Opd OpdN vA gvA tupA aggA slA slcA ipA rpA EqK LnK IxK LdK FaK FdK
theorem f_ref05Is (c : Cmd) : AP Tryz.prog T0 18 [cmdA c] (B (isCmd c)) := by
  obtain ⟨k, a, b, r⟩ := c
  show AP Tryz.prog T0 _ [aggA [I k, I a, I b, R r]] _
  refine af_intro Tryz.func18 rfl (by decide) Tryz.ntmps18 rfl ?_
  repeat' (first
  | fail
  | refine s_y ?_
    | refine c_ ?_
    | (refine aw_if ?_ ?_ <;> intro hb <;> try (exfalso; first | assumption | omega | (simp only [or_self, and_self, not_true_eq_false, not_false_eq_true, or_false, false_or, and_false, false_and, true_and, and_true] at hb; first | done | omega)))
    | refine s_call ?_ (c := by first | exact f_Shown _ | exact f_ref02Shown _ | fail)
    | refine s_op ?_ (hy := by first | (apply bs_u1 rfl un_; exact oo_; omega) | (apply bs_u2 rfl un_; exact oo_; exact oo_; omega) | (apply bs_u3 rfl un_; exact oo_; exact oo_; exact oo_; omega) | (apply bs_u4 rfl un_; exact oo_; exact oo_; exact oo_; exact oo_; omega) | fail)
    | refine s_yg ?_
    | refine s_callg ?_ (c := by intro hk hk2; first | exact f_Shown _ | exact f_ref02Shown _ | fail)
    | refine s_opg ?_ (hy := by intro hk hk2; first | (apply bs_u1 rfl un_; exact oo_; omega) | (apply bs_u2 rfl un_; exact oo_; exact oo_; omega) | (apply bs_u3 rfl un_; exact oo_; exact oo_; exact oo_; omega) | (apply bs_u4 rfl un_; exact oo_; exact oo_; exact oo_; exact oo_; omega) | fail)
    | refine s_skip ?_
    | ((first | refine w_alloc ?_ | refine w_box ?_) <;> intro bb)
    | ((first | refine w_emp ?_ | refine w_make ?_ | refine w_app ?_) <;> intro u hu1 hu2)
    | refine w_stv ?_ | refine w_str ?_ | refine w_cpr ?_ | refine w_cps ?_
    | refine al_last (by kernel_rfl) ?_
  | fail)
  all_goals refine ⟨_, [], rs_, List.nil_sublist _, Sub.eq (congrArg B ?_), rfl⟩
  all_goals simp only [isCmd]
  all_goals (cases hs : shown r <;> simp [*] <;> (try rw [if_neg (by omega)]) <;> (try (rw [Bool.eq_iff_iff]; simp <;> omega)))
theorem f_vtIs (c : Cmd) : AP Tryz.prog T0 9 [cmdA c] (B (isCmd c)) := by
  obtain ⟨k, a, b, r⟩ := c
  show AP Tryz.prog T0 _ [aggA [I k, I a, I b, R r]] _
  refine af_intro Tryz.func9 rfl (by decide) Tryz.ntmps9 rfl ?_
  repeat' (first
  | fail
  | (apply aw_regionN; (case hn => rfl); (case hm => kernel_rfl))
    | refine an_end ?_ (by rfl)
    | (apply an_all; (case hL => rfl); (case hne => rfl))
    | exact ai_nil
    | apply ai_cons
    | (apply at_i; (case ho => rfl))
    | (apply j_first; exact ext1_)
    | (apply j_next; (case h => exact ext_); (case hk => exact wk_); (case hc => rfl))
  | refine s_y ?_
    | refine c_ ?_
    | (refine aw_if ?_ ?_ <;> intro hb <;> try (exfalso; first | assumption | omega | (simp only [or_self, and_self, not_true_eq_false, not_false_eq_true, or_false, false_or, and_false, false_and, true_and, and_true] at hb; first | done | omega)))
    | refine s_call ?_ (c := by first | exact f_Shown _ | exact f_ref02Shown _ | fail)
    | refine s_op ?_ (hy := by first | (apply bs_u1 rfl un_; exact oo_; omega) | (apply bs_u2 rfl un_; exact oo_; exact oo_; omega) | (apply bs_u3 rfl un_; exact oo_; exact oo_; exact oo_; omega) | (apply bs_u4 rfl un_; exact oo_; exact oo_; exact oo_; exact oo_; omega) | fail)
    | refine s_yg ?_
    | refine s_callg ?_ (c := by intro hk hk2; first | exact f_Shown _ | exact f_ref02Shown _ | fail)
    | refine s_opg ?_ (hy := by intro hk hk2; first | (apply bs_u1 rfl un_; exact oo_; omega) | (apply bs_u2 rfl un_; exact oo_; exact oo_; omega) | (apply bs_u3 rfl un_; exact oo_; exact oo_; exact oo_; omega) | (apply bs_u4 rfl un_; exact oo_; exact oo_; exact oo_; exact oo_; omega) | fail)
    | refine s_skip ?_
    | ((first | refine w_alloc ?_ | refine w_box ?_) <;> intro bb)
    | ((first | refine w_emp ?_ | refine w_make ?_ | refine w_app ?_) <;> intro u hu1 hu2)
    | refine w_stv ?_ | refine w_str ?_ | refine w_cpr ?_ | refine w_cps ?_
    | refine al_last (by kernel_rfl) ?_
  | fail)
  all_goals refine ⟨_, [], rs_, List.nil_sublist _, Sub.eq (congrArg B ?_), rfl⟩
  all_goals simp only [isCmd]
  all_goals (cases hs : shown r <;> simp [*] <;> (try rw [if_neg (by omega)]) <;> (try (rw [Bool.eq_iff_iff]; simp <;> omega)))
end Go.Proofs.YtockidoncngdbaaGreatDoor
/- Layer 5 (vt): a command's bytes, by the program and by the reference. No condition. -/
namespace Go.Proofs.YtockidoncngdbaaGreatDoor
set_option linter.unusedSimpArgs false
set_option linter.unusedVariables false
set_option linter.unusedSectionVars false
set_option maxHeartbeats 4000000
open Go Go.RowKit
variable {T0 : Gh}
set_option maxRecDepth 100000
section
variable {P : Program} {T0 : Gh} {N : Fz} {Q : Post} {fr : Fr} {M M' : List Own} {ops : Array Oper} {o : Oper} {rest : List Oper} {x0 : Nat}
end
attribute [local irreducible] thenA inBlockA AW AL AO QY varO rowO rsA Opd OpdN vA gvA tupA aggA slA slcA ipA rpA EqK LnK IxK LdK FaK FdK
end Go.Proofs.YtockidoncngdbaaGreatDoor
/- Layer 5 (vt): costs and waits; the example; the law of Put. No condition. -/
namespace Go.Proofs.YtockidoncngdbaaGreatDoor
set_option linter.unusedSimpArgs false
set_option linter.unusedVariables false
set_option linter.unusedSectionVars false
set_option maxHeartbeats 4000000
open Go Go.RowKit
variable {T0 : Gh}
set_option maxRecDepth 100000
def lenC (c : Cmd) : Nat := (putR' c).1.length
def costM (l : List Cmd) : Nat := (l.map lenC).sum
attribute [local irreducible] thenA inBlockA AW AL AO QY varO rowO rsA Opd OpdN vA gvA tupA aggA slA slcA ipA rpA EqK LnK IxK LdK FaK FdK
end Go.Proofs.YtockidoncngdbaaGreatDoor
/- Layer 5 (vt): rows of one command, and when two rows of commands are the same. No condition. -/
namespace Go.Proofs.YtockidoncngdbaaGreatDoor
set_option linter.unusedSimpArgs false
set_option linter.unusedVariables false
set_option linter.unusedSectionVars false
set_option maxHeartbeats 4000000
open Go Go.RowKit
variable {T0 : Gh}
set_option maxRecDepth 100000
section
variable {T0 : Gh} {N : Fz} {Q : Post} {fr : Fr} {M M' : List Own} {ops : Array Oper} {o : Oper} {rest : List Oper} {x0 : Nat}
theorem bs_cmdA {t : TypeId} {x : Operand} {c : Cmd} (ho : o.op = .buildSlice t 1 #[(0, x)]) (hu : Tryz.prog.underlying t = some (.slice 26)) (hx : Opd T0 fr x (cmdA c)) : AY Tryz.prog T0 ops o fr M (slA cmdT [c]) := by
  obtain ⟨k, a, b, r⟩ := c
  exact AY.sub (ay_buildSlice (T := cmdT) [(k, a, b, r)] ho hu el_cmd rfl (by decide) ⟨_, pk hx ca_agg rfl (.here (.here (.here (.here sc_0)))) pa_nil, rfl⟩) sub_slc
end
attribute [local irreducible] thenA inBlockA AW AL AO QY varO rowO rsA Opd OpdN vA gvA tupA aggA slA slcA ipA rpA EqK LnK IxK LdK FaK FdK
end Go.Proofs.YtockidoncngdbaaGreatDoor
