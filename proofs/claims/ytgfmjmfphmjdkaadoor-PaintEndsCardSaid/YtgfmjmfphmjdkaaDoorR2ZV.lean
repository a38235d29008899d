/- Several texts in one: see the comment ahead of each. No condition. -/
import Derived.Test.YtgfmjmfphmjdkaaDoorR2ZW
import Derived.Test.YtgfmjmfphmjdkaaDoorR2ZB
/- Layer 5 (vt): commands, as types and as plain laws: which are right, and which bytes they have. No condition. -/
namespace Go.Proofs.YtgfmjmfphmjdkaaDoor
set_option linter.unusedSimpArgs false
set_option linter.unusedVariables false
set_option linter.unusedSectionVars false
set_option maxHeartbeats 4000000
section
open Go Go.RowKit
set_option maxRecDepth 100000
/-! ### commands: kind, A, B, sign -/
abbrev Cmd := Int × Int × Int × Int
def cmdT : Ty Cmd := { enc := fun c => [.int .i64 c.1, .int .i64 c.2.1, .int .i64 c.2.2.1, .int .i32 c.2.2.2], k := 4, len := fun _ => rfl }
def cmdA (c : Cmd) : AV := aggA [I c.1, I c.2.1, I c.2.2.1, R c.2.2.2]
theorem us_cmd : Tryd.prog.underlying 31 = some (.struct #[{ name := "Kind", type := 3, offset := 0, embedded := false, tag := "", pkgPath := "", byteOffset := 0 }, { name := "A", type := 3, offset := 1, embedded := false, tag := "", pkgPath := "", byteOffset := 8 }, { name := "B", type := 3, offset := 2, embedded := false, tag := "", pkgPath := "", byteOffset := 16 }, { name := "R", type := 21, offset := 3, embedded := false, tag := "", pkgPath := "", byteOffset := 24 }]) := Tryd.underlying31
instance cStM : StC 31 [I 0, I 0, I 0, R 0] [(0, 1), (1, 1), (2, 1), (3, 1)] := ⟨StT.mk' _ [.int .i64 0, .int .i64 0, .int .i64 0, .int .i32 0] us_cmd (by kernel_rfl) (by kernel_rfl)⟩
instance cFlM0 : FldC 31 0 0 3 := ⟨_, _, us_cmd, rfl, rfl, rfl⟩
instance cFlM1 : FldC 31 1 1 3 := ⟨_, _, us_cmd, rfl, rfl, rfl⟩
instance cFlM2 : FldC 31 2 2 3 := ⟨_, _, us_cmd, rfl, rfl, rfl⟩
instance cFlM3 : FldC 31 3 3 21 := ⟨_, _, us_cmd, rfl, rfl, rfl⟩
instance cAgM : AggC 31 true := ⟨agg_yes (by kernel_rfl)⟩
instance cSzM : SzC 31 4 := ⟨size_of (by kernel_rfl)⟩
instance cSpM : SpC 31 := ⟨size_pos (n := 3) (by kernel_rfl)⟩
instance cAlM : AlC 31 (.agg #[.int .i64 0, .int .i64 0, .int .i64 0, .int .i32 0]) [.int .i64 0, .int .i64 0, .int .i64 0, .int .i32 0] [I 0, I 0, I 0, R 0] := ⟨by kernel_rfl, rfl, rfl⟩
theorem el_cmd : El Tryd.prog cmdT 31 (0, 0, 0, 0) 32 cmdA := ⟨⟨.agg #[.int .i64 0, .int .i64 0, .int .i64 0, .int .i32 0], by kernel_rfl, rfl⟩, by decide, fun x v hv => by simp [cmdT] at hv; rcases hv with rfl | rfl | rfl | rfl <;> rfl, .inl ⟨agg_yes (by kernel_rfl), fun x => rfl⟩⟩
instance cElM : ElC 31 cmdT (0, 0, 0, 0) 32 cmdA := ⟨el_cmd⟩
theorem un_cmds : Tryd.prog.underlying 66 = some (.slice 31) := Tryd.underlying66
instance cUnMs : UnC 66 (.slice 31) := ⟨un_cmds⟩
instance cUnS : UnC 9 .string := ⟨Tryd.underlying9⟩
instance cSzS : SzC 9 1 := ⟨size_of (by kernel_rfl)⟩
/-! commands are compared -/
theorem fl_cmd : (Tryd.prog.fieldsOf 31).toList = [{ name := "Kind", type := 3, offset := 0, embedded := false, tag := "", pkgPath := "", byteOffset := 0 }, { name := "A", type := 3, offset := 1, embedded := false, tag := "", pkgPath := "", byteOffset := 8 }, { name := "B", type := 3, offset := 2, embedded := false, tag := "", pkgPath := "", byteOffset := 16 }, { name := "R", type := 21, offset := 3, embedded := false, tag := "", pkgPath := "", byteOffset := 24 }] := by kernel_rfl
theorem run_cmd_eq (d : Nat) (a b : Cmd) (w : World) : (Op.equalIn (d + 2) 31 (.agg #[.int .i64 a.1, .int .i64 a.2.1, .int .i64 a.2.2.1, .int .i32 a.2.2.2]) (.agg #[.int .i64 b.1, .int .i64 b.2.1, .int .i64 b.2.2.1, .int .i32 b.2.2.2])).run Tryd.prog w = .ok (decide (a = b)) w := by
  rw [run_equalIn_agg _ _ _ _ _ (by kernel_rfl) (by kernel_rfl), fl_cmd]
  obtain ⟨a1, a2, a3, a4⟩ := a
  obtain ⟨b1, b2, b3, b4⟩ := b
  simp [Op.eqFields, part, na_i32, na_int, eq_i32, eq_int]
  by_cases h1 : a1 = b1 <;> by_cases h2 : a2 = b2 <;> by_cases h3 : a3 = b3 <;> by_cases h4 : a4 = b4 <;> simp [h1, h2, h3, h4]
theorem eqg_cmd (op : BinOp) (x y : Operand) (xs ys : Array Value) (w : World) : (eqGuard op 31 x y (.agg xs) (.agg ys)).run Tryd.prog w = .ok () w := run_eqGuard_agg w op _ x y xs ys (by kernel_rfl)
theorem ek_cmd {a1 a2 a3 a4 b1 b2 b3 b4 : Int} : EqK Tryd.prog 31 (aggA [I a1, I a2, I a3, R a4]) (aggA [I b1, I b2, I b3, R b4]) (decide (((a1, a2, a3, a4) : Cmd) = (b1, b2, b3, b4))) := fun T0 fr M ops o x y t' hx hy => by
  have key : ∀ (G : Gh) (a : Act), Gh.le T0 G → frOn G (reads ops o) fr a.tmps → (∀ z, z = x ∨ z = y → z ∈ o.op.operands) → a.eval x = .agg #[.int .i64 a1, .int .i64 a2, .int .i64 a3, .int .i32 a4] ∧ a.eval y = .agg #[.int .i64 b1, .int .i64 b2, .int .i64 b3, .int .i32 b4] := fun G a ht hf hm => by
    obtain ⟨us, h1, r1⟩ := (hx.use (o := o) (ops := ops) (hm x (.inl rfl)) ht hf).agg
    obtain ⟨vs, h2, r2⟩ := (hy.use (o := o) (ops := ops) (hm y (.inr rfl)) ht hf).agg
    obtain rfl := allRep_eq (zs := [.int .i64 a1, .int .i64 a2, .int .i64 a3, .int .i32 a4]) r1
    obtain rfl := allRep_eq (zs := [.int .i64 b1, .int .i64 b2, .int .i64 b3, .int .i32 b4]) r2
    exact ⟨h1, h2⟩
  refine ⟨fun ho => ay_of fun w0 G F a w hs hf => ?_, fun ho => ay_of fun w0 G F a w hs hf => ?_⟩
  · obtain ⟨h1, h2⟩ := key G a hs.tab hf fun z hz => by rcases hz with rfl | rfl <;> simp [ho, Op.operands]
    have h3 := run_cmd_eq 9998 (a1, a2, a3, a4) (b1, b2, b3, b4) w
    exact ⟨_, by simp only [execOp, ho, h1, h2, Sem.run_bind, eqg_cmd, Result.andThen_ok, run_eql_struct, h3, Sem.run_pure], Rep.va _ _⟩
  · obtain ⟨h1, h2⟩ := key G a hs.tab hf fun z hz => by rcases hz with rfl | rfl <;> simp [ho, Op.operands]
    have h3 := run_cmd_eq 9998 (a1, a2, a3, a4) (b1, b2, b3, b4) w
    exact ⟨_, by simp only [execOp, ho, h1, h2, Sem.run_bind, eqg_cmd, Result.andThen_ok, run_neq_struct, h3, Sem.run_pure], Rep.va _ _⟩
/-! ### the plain laws -/
def isCmd (c : Cmd) : Bool :=
  if c.1 = 1 then shown c.2.2.2 && decide (c.2.1 = 0) && decide (c.2.2.1 = 0)
  else decide (c.2.2.2 = 0) && (if c.1 = 2 then decide (0 ≤ c.2.1) && decide (c.2.1 ≤ 23) && decide (0 ≤ c.2.2.1) && decide (c.2.2.1 ≤ 79)
    else decide (c.2.2.1 = 0) && (if 3 ≤ c.1 ∧ c.1 ≤ 6 then decide (1 ≤ c.2.1) && decide (c.2.1 ≤ 80) else decide (7 ≤ c.1) && decide (c.1 ≤ 12) && decide (c.2.1 = 0)))
def digB (n : Nat) : List UInt8 := if n < 10 then [UInt8.ofNat (48 + n)] else [UInt8.ofNat (48 + n / 10), UInt8.ofNat (48 + n % 10)]
def formB (k : Int) : List UInt8 := if k = 7 then [27, 91, 75] else if k = 8 then [27, 91, 74] else if k = 9 then [13] else if k = 10 then [10] else if k = 11 then [8] else [7]
/-- a right command's bytes -/
def bytesB (c : Cmd) : List UInt8 :=
  if c.1 = 1 then encB c.2.2.2 else if c.1 = 2 then [27, 91] ++ digB (c.2.1 + 1).toNat ++ [59] ++ digB (c.2.2.1 + 1).toNat ++ [72]
  else if c.1 ≤ 6 then [27, 91] ++ (if c.2.1 = 1 then [] else digB c.2.1.toNat) ++ [UInt8.ofNat (62 + c.1).toNat] else formB c.1
def putR' (c : Cmd) : List UInt8 × Int := if isCmd c = true then (bytesB c, 0) else ([], 1)
theorem digB_len (n : Nat) : 1 ≤ (digB n).length ∧ (digB n).length ≤ 2 := by unfold digB; split <;> simp
theorem formB_len (k : Int) : 1 ≤ (formB k).length ∧ (formB k).length ≤ 3 := by unfold formB; (repeat' split) <;> simp
/-- a right sign's bytes, told out -/
def encC (r : Int) : List UInt8 :=
  if r < 128 then [UInt8.ofNat r.toNat] else if r < 2048 then [UInt8.ofNat (192 + r.toNat / 64), UInt8.ofNat (128 + r.toNat % 64)]
  else if r < 65536 then [UInt8.ofNat (224 + r.toNat / 4096), UInt8.ofNat (128 + r.toNat / 64 % 64), UInt8.ofNat (128 + r.toNat % 64)]
  else [UInt8.ofNat (240 + r.toNat / 262144), UInt8.ofNat (128 + r.toNat / 4096 % 64), UInt8.ofNat (128 + r.toNat / 64 % 64), UInt8.ofNat (128 + r.toNat % 64)]
theorem encB_eq {r : Int} (h : isG r = true) : encB r = encC r := by
  have h0 : 0 ≤ r := by simp [isG] at h; omega
  have hv : Utf8.valid r = true := by simp [isG] at h; simp [Utf8.valid]; omega
  unfold encB Utf8.encode encC
  simp only [hv, if_true]
  by_cases h1 : r < 128
  · rw [if_pos (by omega), if_pos h1]
  · rw [if_neg (by omega), if_neg h1]
    by_cases h2 : r < 2048
    · rw [if_pos (by omega), if_pos h2]
    · rw [if_neg (by omega), if_neg h2]
      by_cases h3 : r < 65536
      · rw [if_pos (by omega), if_pos h3]
      · rw [if_neg (by omega), if_neg h3]
theorem encC_len (r : Int) : 1 ≤ (encC r).length ∧ (encC r).length ≤ 4 := by
  unfold encC; (repeat' split) <;> simp
theorem isG_shown {r : Int} (h : shown r = true) : isG r = true := by
  simp only [shown, Bool.and_eq_true] at h; exact h.1.1
theorem bytesB_len {c : Cmd} (h : isCmd c = true) : 1 ≤ (bytesB c).length ∧ (bytesB c).length ≤ 8 := by
  unfold bytesB
  by_cases h1 : c.1 = 1
  · rw [if_pos h1]
    have : isG c.2.2.2 = true := isG_shown (by unfold isCmd at h; rw [if_pos h1] at h; simp only [Bool.and_eq_true] at h; exact h.1.1)
    rw [encB_eq this]
    have := encC_len c.2.2.2; omega
  · rw [if_neg h1]
    by_cases h2 : c.1 = 2
    · rw [if_pos h2]
      have a := digB_len (c.2.1 + 1).toNat
      have b := digB_len (c.2.2.1 + 1).toNat
      simp only [List.length_append, List.length_cons, List.length_nil]; omega
    · rw [if_neg h2]
      split
      · have a := digB_len c.2.1.toNat
        simp only [List.length_append, List.length_cons, List.length_nil]
        split <;> simp <;> omega
      · have := formB_len c.1; omega
end
/- Layers 1 and 5 (signs, vt): bytes of signs and of numbers, which commands are right. No condition. -/
section
open Go Go.RowKit
variable {T0 : Gh}
set_option maxRecDepth 100000
theorem el_u8 : El Tryd.prog u8T 5 0 1 UB := ⟨⟨.int .u8 0, by kernel_rfl, rfl⟩, by decide, fun x v hv => by simp [u8T] at hv; subst hv; rfl, .inr ⟨agg_no (by kernel_rfl), rfl, fun x v h => by simp [u8T] at h; rw [← h]⟩⟩
instance cUnU : UnC 90 (.slice 5) := ⟨Tryd.underlying90⟩
section
variable {T0 : Gh} {N : Fz} {Q : Post} {fr : Fr} {M M' : List Own} {ops : Array Oper} {o : Oper} {rest : List Oper} {x0 : Nat}
theorem ub_of {n : Int} (h0 : 0 ≤ n) (h1 : n < 256) : (vA (.int .u8 n) : AV) = UB (UInt8.ofNat n.toNat) := by
  have : ((UInt8.ofNat n.toNat).toNat : Int) = n := by simp; omega
  rw [UB, this]
/-- some bytes are made a list -/
theorem bs_u1 {t : TypeId} {x : Operand} {a : Int} (ho : o.op = .buildSlice t 1 #[(0, x)]) (hu : Tryd.prog.underlying t = some (.slice 5)) (hx : Opd T0 fr x (vA (.int .u8 a))) (h0 : 0 ≤ a ∧ a < 256) : AY Tryd.prog T0 ops o fr M (slA u8T [UInt8.ofNat a.toNat]) := by
  rw [ub_of h0.1 h0.2] at hx
  exact AY.sub (ay_buildSlice (T := u8T) [_] ho hu el_u8 rfl (by decide) ⟨_, pk hx (ca_v rfl) rfl (.here sc_0) pa_nil, rfl⟩) sub_slc
end
attribute [local irreducible] thenA inBlockA AW AL AO QY varO rowO rsA Opd OpdN vA gvA tupA aggA slA slcA ipA rpA EqK LnK IxK LdK FaK FdK
def str2 (x : List UInt8 × Int) : AV := tupA [SA x.1, I x.2]
def putG (r : Int) : List UInt8 × Int := if isG r = true then (encB r, 0) else ([], 1)
theorem f_glyphPut (r : Int) : AP Tryd.prog T0 43 [R r] (str2 (putG r)) := by
  refine af_intro Tryd.func43 rfl (by decide) Tryd.ntmps43 rfl ?_
  repeat' (first
  | refine sa_ ?_ | refine s_call ?_ (c := by first | exact f_glyphIs _ | exact c1 | exact f_ref01Is _ | fail) | refine s_op ?_ (hy := by first | (apply bs_u1 rfl un_; exact oo_; omega) | (apply bs_u2 rfl un_; exact oo_; exact oo_; omega) | (apply bs_u3 rfl un_; exact oo_; exact oo_; exact oo_; omega) | (apply bs_u4 rfl un_; exact oo_; exact oo_; exact oo_; exact oo_; omega) | fail) | refine s_yg ?_ | refine s_callg ?_ (c := by intro hk hk2; first | exact f_glyphIs _ | exact c1 | exact f_ref01Is _ | fail) | refine s_opg ?_ (hy := by intro hk hk2; first | (apply bs_u1 rfl un_; exact oo_; omega) | (apply bs_u2 rfl un_; exact oo_; exact oo_; omega) | (apply bs_u3 rfl un_; exact oo_; exact oo_; exact oo_; omega) | (apply bs_u4 rfl un_; exact oo_; exact oo_; exact oo_; exact oo_; omega) | fail) | refine sw_ ?_ | (refine aw_if ?_ ?_ <;> intro hb <;> try exact no_) | (refine sx_ ?_ <;> intro bb) | (refine su_ ?_ <;> intro u hu1 hu2) | fail)
  · exact ⟨_, [], rs_, List.nil_sublist _, Sub.eq (by rw [putG, if_neg (by rw [hb]; decide)]; rfl), rfl⟩
  · exact ⟨_, [], rs_, List.nil_sublist _, Sub.eq (by rw [putG, if_pos hb]; rfl), rfl⟩
theorem f_vtIs (c : Cmd) : AP Tryd.prog T0 22 [cmdA c] (B (isCmd c)) := by
  obtain ⟨k, a, b, r⟩ := c
  show AP Tryd.prog T0 _ [aggA [I k, I a, I b, R r]] _
  refine af_intro Tryd.func22 rfl (by decide) Tryd.ntmps22 rfl ?_
  repeat' (first
  | (apply aw_regionN; (case hn => rfl); (case hm => kernel_rfl)) | refine g5_ ?_ | (apply an_all; (case hL => rfl); (case hne => rfl)) | exact ai_nil | apply ai_cons | (apply at_i; (case ho => rfl)) | (apply j_first; exact ext1_) | (apply j_next; (case h => exact ext_); (case hk => exact wk_); (case hc => rfl)) | refine sa_ ?_ | refine s_call ?_ (c := by first | exact f_Shown _ | exact f_ref02Shown _ | fail) | refine s_op ?_ (hy := by first | (apply bs_u1 rfl un_; exact oo_; omega) | (apply bs_u2 rfl un_; exact oo_; exact oo_; omega) | (apply bs_u3 rfl un_; exact oo_; exact oo_; exact oo_; omega) | (apply bs_u4 rfl un_; exact oo_; exact oo_; exact oo_; exact oo_; omega) | fail) | refine s_yg ?_ | refine s_callg ?_ (c := by intro hk hk2; first | exact f_Shown _ | exact f_ref02Shown _ | fail) | refine s_opg ?_ (hy := by intro hk hk2; first | (apply bs_u1 rfl un_; exact oo_; omega) | (apply bs_u2 rfl un_; exact oo_; exact oo_; omega) | (apply bs_u3 rfl un_; exact oo_; exact oo_; exact oo_; omega) | (apply bs_u4 rfl un_; exact oo_; exact oo_; exact oo_; exact oo_; omega) | fail) | refine sw_ ?_ | (refine aw_if ?_ ?_ <;> intro hb <;> try exact no_) | (refine sx_ ?_ <;> intro bb) | (refine su_ ?_ <;> intro u hu1 hu2) | fail)
  all_goals refine ⟨_, [], rs_, List.nil_sublist _, Sub.eq (congrArg B ?_), rfl⟩
  all_goals simp only [isCmd]
  all_goals (cases hs : shown r <;> simp [*] <;> (try rw [if_neg (by omega)]) <;> (try (rw [Bool.eq_iff_iff]; simp <;> omega)))
theorem f_small (n : Nat) (h : n < 100) : AP Tryd.prog T0 88 [I n] (SA (digB n)) := by
  refine af_intro Tryd.func88 rfl (by decide) Tryd.ntmps88 rfl ?_
  repeat' (first
  | refine sa_ ?_ | refine s_op ?_ (hy := by first | (apply ay_cut_str rfl un_; exact oo_; exact lo_; exact hi_; exact le_; (show _ ≤ 200; omega)) | fail) | refine s_yg ?_ | refine s_opg ?_ (hy := by intro hk hk2; first | (apply ay_cut_str rfl un_; exact oo_; exact lo_; exact hi_; exact le_; (show _ ≤ 200; omega)) | fail) | refine sw_ ?_ | (refine aw_if ?_ ?_ <;> intro hb <;> try exact no_) | (refine sx_ ?_ <;> intro bb) | (refine su_ ?_ <;> intro u hu1 hu2) | fail)
  · refine ⟨_, [], rs_, List.nil_sublist _, Sub.eq (congrArg (fun l : List UInt8 => SA l) ?_), rfl⟩
    have hb2 : n < 10 := by omega
    clear hb h
    revert hb2; revert n; decide +kernel
  · refine ⟨_, [], rs_, List.nil_sublist _, Sub.eq (congrArg (fun l : List UInt8 => SA l) ?_), rfl⟩
    have hb2 : ¬ n < 10 := by omega
    clear hb
    revert hb2; revert h; revert n; decide +kernel
theorem f_FormatInt (n : Nat) (h : n < 100) : AP Tryd.prog T0 79 [I n, I 10] (SA (digB n)) := by
  have c1 := f_small (T0 := T0) n h
  refine af_intro Tryd.func79 rfl (by decide) Tryd.ntmps79 rfl ?_
  repeat' (first
  | refine g4_ ?_ | (refine aw_if ?_ ?_ <;> intro hb <;> try exact no_) | (refine sx_ ?_ <;> intro bb) | (refine su_ ?_ <;> intro u hu1 hu2) | fail)
  exact ⟨_, [], rs_, List.nil_sublist _, Sub.refl _, rfl⟩
theorem f_Itoa1 (n : Nat) (h : n < 100) : AP Tryd.prog T0 67 [I n] (SA (digB n)) := by
  have c1 := f_FormatInt (T0 := T0) n h
  refine af_intro Tryd.func67 rfl (by decide) Tryd.ntmps67 rfl ?_
  repeat' (first
  | refine g4_ ?_ | (refine aw_if ?_ ?_ <;> intro hb <;> try exact no_) | (refine sx_ ?_ <;> intro bb) | (refine su_ ?_ <;> intro u hu1 hu2) | fail)
  exact ⟨_, [], rs_, List.nil_sublist _, Sub.refl _, rfl⟩
theorem f_Itoa (n : Nat) (h : n < 100) : AP Tryd.prog T0 44 [I n] (SA (digB n)) := by
  have c1 := f_Itoa1 (T0 := T0) n h
  refine af_intro Tryd.func44 rfl (by decide) Tryd.ntmps44 rfl ?_
  repeat' (first
  | refine g4_ ?_ | (refine aw_if ?_ ?_ <;> intro hb <;> try exact no_) | (refine sx_ ?_ <;> intro bb) | (refine su_ ?_ <;> intro u hu1 hu2) | fail)
  exact ⟨_, [], rs_, List.nil_sublist _, Sub.refl _, rfl⟩
end
/- Layer 5 (vt): a command's bytes, by the program and by the reference. No condition. -/
section
open Go Go.RowKit
variable {T0 : Gh}
set_option maxRecDepth 100000
def constV : Operand → Option Value
  | .const v => some v
  | _ => none
section
variable {P : Program} {T0 : Gh} {N : Fz} {Q : Post} {fr : Fr} {M M' : List Own} {ops : Array Oper} {o : Oper} {rest : List Oper} {x0 : Nat}
theorem const_eval (a : Act) : ∀ (l : List (Nat × Operand)) (vs : List (Nat × Value)), l.mapM (fun p => (constV p.2).map fun v => (p.1, v)) = some vs → l.map (fun p => (p.1, a.eval p.2)) = vs
  | [], vs, h => by simp at h; subst h; rfl
  | (i, x) :: l, vs, h => by
    simp only [List.mapM_cons, Option.bind_eq_bind, Option.pure_def] at h
    cases hx : constV x with
    | none => simp [hx] at h
    | some v =>
      cases hl : l.mapM (fun p => (constV p.2).map fun v => (p.1, v)) with
      | none => simp [hx, hl] at h
      | some r =>
        simp [hx, hl] at h
        subst h
        have hv : a.eval x = v := by
          cases x <;> simp [constV] at hx
          subst hx; rfl
        rw [List.map_cons, const_eval a l r hl, hv]
/-- an array of constants is built -/
theorem ay_build_const {t : TypeId} {parts : Array (Nat × Operand)} {vs : List (Nat × Value)} {cs : List Value} (ho : o.op = .build t parts) (hv : parts.toList.mapM (fun p => (constV p.2).map fun v => (p.1, v)) = some vs) (hb : P.built t vs = some cs.toArray) : AY P T0 ops o fr M (aggA (cs.map vA)) := ay_of fun w0 G F a w hs hf => by
  have h1 := const_eval a _ _ hv
  have h2 : (parts.map fun (i, x) => (i, a.eval x)).toList = vs := by rw [← h1]; simp
  have h3 := run_build (P := P) w t (parts.map fun (i, x) => (i, a.eval x)) cs.toArray (by rw [h2]; exact hb)
  refine ⟨.agg cs.toArray, ?_, .of ⟨cs, rfl, allRep_va _ _⟩⟩
  simp [execOp, ho, h3]
theorem ay_index_varr {x y : Operand} {t e : TypeId} {n k' m b of2 : Nat} {k : IntKind} (ho : o.op = .indexAddr t x y) (hu : P.underlying t = some (.array n e)) (hz : ∀ w, (sizeOf e).run P w = .ok k' w) (hx : Opd T0 fr x (vA (.pointer (some ⟨b, of2, none⟩)))) (hy : OpdN T0 fr y k m) (hm : m < n) : AY P T0 ops o fr M (vA (.pointer (some ⟨b, of2 + m * k', none⟩))) := ay_of fun w0 G F a w hs hf => by
  have h1 := (hx.use (o := o) (ops := ops) (by simp [ho, Op.operands]) hs.tab hf).eq
  have h4 := ((show Opd T0 fr y (vA (.int k (m : Int))) from hy).use (o := o) (ops := ops) (by simp [ho, Op.operands]) hs.tab hf).eq
  refine ⟨.pointer (some ⟨b, of2 + m * k', none⟩), ?_, Rep.va _ _⟩
  have hr : (m : Int) < (n : Int) := by omega
  simp only [execOp, ho, h1, h4]
  simp [Instr.indexAt, asIntOf, run_underlying hu, hz, hm, Instr.sureAddr, Addr.add_lit]
end
instance cUnF : UnC 108 (.array 6 9) := ⟨Tryd.underlying108⟩
instance cSzF : SzC 108 6 := ⟨size_of (by kernel_rfl)⟩
instance cAlF : AlC 108 (.agg #[.string ⟨#[]⟩, .string ⟨#[]⟩, .string ⟨#[]⟩, .string ⟨#[]⟩, .string ⟨#[]⟩, .string ⟨#[]⟩]) [.string ⟨#[]⟩, .string ⟨#[]⟩, .string ⟨#[]⟩, .string ⟨#[]⟩, .string ⟨#[]⟩, .string ⟨#[]⟩] [SA [], SA [], SA [], SA [], SA [], SA []] := ⟨by kernel_rfl, rfl, rfl⟩
theorem forms_built : Tryd.prog.built 108 [(0, .string ⟨#[27, 91, 75]⟩), (1, .string ⟨#[27, 91, 74]⟩), (2, .string ⟨#[13]⟩), (3, .string ⟨#[10]⟩), (4, .string ⟨#[8]⟩), (5, .string ⟨#[7]⟩)] = some [Value.string ⟨#[27, 91, 75]⟩, .string ⟨#[27, 91, 74]⟩, .string ⟨#[13]⟩, .string ⟨#[10]⟩, .string ⟨#[8]⟩, .string ⟨#[7]⟩].toArray := by kernel_rfl
attribute [local irreducible] thenA inBlockA AW AL AO QY varO rowO rsA Opd OpdN vA gvA tupA aggA slA slcA ipA rpA EqK LnK IxK LdK FaK FdK
theorem f_form (k : Int) (h : 7 ≤ k ∧ k ≤ 12) : AP Tryd.prog T0 45 [I k] (SA (formB k)) := by
  have h2 : k = 7 ∨ k = 8 ∨ k = 9 ∨ k = 10 ∨ k = 11 ∨ k = 12 := by omega
  rcases h2 with rfl | rfl | rfl | rfl | rfl | rfl
  all_goals clear h
  all_goals refine af_intro Tryd.func45 rfl (by decide) Tryd.ntmps45 rfl ?_
  all_goals
    repeat' (first
    | refine sa_ ?_ | refine s_op ?_ (hy := by first | (apply ay_index_varr rfl un_ sz_; exact oo_; exact on_; exact lt_; done) | exact ay_build_const rfl rfl forms_built | fail) | refine s_yg ?_ | refine s_opg ?_ (hy := by intro hk hk2; first | (apply ay_index_varr rfl un_ sz_; exact oo_; exact on_; exact lt_; done) | exact ay_build_const rfl rfl forms_built | fail) | refine sw_ ?_ | (refine aw_if ?_ ?_ <;> intro hb <;> try exact no_) | (refine sx_ ?_ <;> intro bb) | (refine su_ ?_ <;> intro u hu1 hu2) | fail)
  all_goals exact ⟨_, [], rs_, List.nil_sublist _, Sub.eq (congrArg (fun l : List UInt8 => SA l) (by decide)), rfl⟩
theorem isCmd_cases {k a b r : Int} (h : isCmd (k, a, b, r) = true) : (k = 1 ∧ shown r = true) ∨ (k = 2 ∧ 0 ≤ a ∧ a ≤ 23 ∧ 0 ≤ b ∧ b ≤ 79) ∨ ((3 ≤ k ∧ k ≤ 6) ∧ 1 ≤ a ∧ a ≤ 80) ∨ (7 ≤ k ∧ k ≤ 12) := by
  simp only [isCmd] at h
  by_cases h1 : k = 1
  · simp [h1] at h; exact .inl ⟨h1, h.1.1⟩
  · by_cases h2 : k = 2
    · simp [h2] at h; omega
    · by_cases h3 : 3 ≤ k ∧ k ≤ 6
      · simp [h1, h2, h3] at h; omega
      · rw [if_neg h1, if_neg h2, if_neg h3] at h; simp at h; omega
theorem f_vtPut (c : Cmd) : AP Tryd.prog T0 29 [cmdA c] (str2 (putR' c)) := by
  obtain ⟨k, a, b, r⟩ := c
  show AP Tryd.prog T0 _ [aggA [I k, I a, I b, R r]] _
  by_cases hc : isCmd (k, a, b, r) = true
  · have c1 : AP Tryd.prog T0 22 [aggA [I k, I a, I b, R r]] (B true) := hc ▸ f_vtIs (k, a, b, r)
    rw [putR', if_pos hc]
    rcases isCmd_cases hc with ⟨rfl, hs⟩ | ⟨rfl, a1, a2, b1, b2⟩ | ⟨h3, a1, a2⟩ | h7
    · have c2 : AP Tryd.prog T0 43 [R r] (tupA [SA (encB r), I 0]) := (f_glyphPut r).to (by rw [putG, if_pos (isG_shown hs)]; rfl)
      refine af_intro Tryd.func29 rfl (by decide) Tryd.ntmps29 rfl ?_
      repeat' (first
      | refine g3_ ?_ | (refine aw_if ?_ ?_ <;> intro hb <;> try exact no_) | (refine sx_ ?_ <;> intro bb) | (refine su_ ?_ <;> intro u hu1 hu2) | fail)
      exact ⟨_, [], rs_, List.nil_sublist _, Sub.eq (by simp [bytesB, str2]), rfl⟩
    · have c2 : True := trivial
      obtain ⟨a, rfl⟩ := Int.eq_ofNat_of_zero_le a1
      obtain ⟨b, rfl⟩ := Int.eq_ofNat_of_zero_le b1
      have d1 := digB_len (a + 1)
      have d2 := digB_len (b + 1)
      refine af_intro Tryd.func29 rfl (by decide) Tryd.ntmps29 rfl ?_
      repeat' (first
      | refine g3_ ?_ | (refine aw_if ?_ ?_ <;> intro hb <;> try exact no_) | (refine sx_ ?_ <;> intro bb) | (refine su_ ?_ <;> intro u hu1 hu2) | fail)
      all_goals first | exact e1_ | skip
      refine ⟨_, [], rs_, List.nil_sublist _, Sub.eq ?_, rfl⟩
      simp [bytesB, str2, show ((a : Int) + 1).toNat = a + 1 by omega, show ((b : Int) + 1).toNat = b + 1 by omega]
    · have c2 : True := trivial
      obtain ⟨a, rfl⟩ := Int.eq_ofNat_of_zero_le (show 0 ≤ a by omega)
      have d1 := digB_len a
      refine af_intro Tryd.func29 rfl (by decide) Tryd.ntmps29 rfl ?_
      repeat' (first
      | refine g3_ ?_ | (refine aw_if ?_ ?_ <;> intro hb <;> try exact no_) | (refine sx_ ?_ <;> intro bb) | (refine su_ ?_ <;> intro u hu1 hu2) | fail)
      all_goals first | exact e1_ | skip
      all_goals refine ⟨_, [], rs_, List.nil_sublist _, Sub.eq ?_, rfl⟩
      all_goals simp only [bytesB, str2, show (65 : Int) + k - 3 = 62 + k by omega]
      all_goals rw [if_neg (by omega), if_neg (by omega), if_pos (by omega)]
      · rw [if_pos (by omega)]; rfl
      · rw [if_neg (by omega)]; rfl
    · have c2 : AP Tryd.prog T0 45 [I k] (SA (formB k)) := f_form k h7
      refine af_intro Tryd.func29 rfl (by decide) Tryd.ntmps29 rfl ?_
      repeat' (first
      | refine g3_ ?_ | (refine aw_if ?_ ?_ <;> intro hb <;> try exact no_) | (refine sx_ ?_ <;> intro bb) | (refine su_ ?_ <;> intro u hu1 hu2) | fail)
      all_goals first | exact e1_ | skip
      refine ⟨_, [], rs_, List.nil_sublist _, Sub.eq ?_, rfl⟩
      simp only [bytesB, str2]
      rw [if_neg (by omega), if_neg (by omega), if_neg (by omega)]
  · have c1 : AP Tryd.prog T0 22 [aggA [I k, I a, I b, R r]] (B false) := by
      have := f_vtIs (T0 := T0) (k, a, b, r)
      rw [show isCmd (k, a, b, r) = false by simpa using hc] at this; exact this
    have c2 : True := trivial
    rw [putR', if_neg hc]
    refine af_intro Tryd.func29 rfl (by decide) Tryd.ntmps29 rfl ?_
    repeat' (first
    | refine g3_ ?_ | (refine aw_if ?_ ?_ <;> intro hb <;> try exact no_) | (refine sx_ ?_ <;> intro bb) | (refine su_ ?_ <;> intro u hu1 hu2) | fail)
    exact ⟨_, [], rs_, List.nil_sublist _, Sub.refl _, rfl⟩
end
/- Layer 5 (vt): costs and waits; the example; the law of Put. No condition. -/
section
open Go Go.RowKit
variable {T0 : Gh}
set_option maxRecDepth 100000
def lenC (c : Cmd) : Nat := (putR' c).1.length
def costM (l : List Cmd) : Nat := (l.map lenC).sum
def padC (c : Cmd) : Nat := if isCmd c = true then (if c.1 = 7 then 1 else if c.1 = 8 then 2 else 0) else 0
def padsM (l : List Cmd) : Nat := (l.map padC).sum
theorem lenC_le (c : Cmd) : lenC c ≤ 8 := by
  unfold lenC putR'
  split
  · rename_i h; exact (bytesB_len h).2
  · exact Nat.zero_le _
theorem padC_le (c : Cmd) : padC c ≤ 2 := by unfold padC; (repeat' split) <;> omega
theorem costM_le (l : List Cmd) : costM l ≤ 8 * l.length := by
  induction l with
  | nil => simp [costM]
  | cons c l ih => have := lenC_le c; simp only [costM, List.map_cons, List.sum_cons, List.length_cons] at ih ⊢; omega
theorem padsM_le (l : List Cmd) : padsM l ≤ 2 * l.length := by
  induction l with
  | nil => simp [padsM]
  | cons c l ih => have := padC_le c; simp only [padsM, List.map_cons, List.sum_cons, List.length_cons] at ih ⊢; omega
theorem costM_snoc (l : List Cmd) (k : Nat) (h : k < l.length) : costM (l.take (k + 1)) = costM (l.take k) + lenC l[k] := by
  rw [costM, costM, List.take_succ_eq_append_getElem h, List.map_append, List.sum_append]; simp
theorem padsM_snoc (l : List Cmd) (k : Nat) (h : k < l.length) : padsM (l.take (k + 1)) = padsM (l.take k) + padC l[k] := by
  rw [padsM, padsM, List.take_succ_eq_append_getElem h, List.map_append, List.sum_append]; simp
attribute [local irreducible] thenA inBlockA AW AL AO QY varO rowO rsA Opd OpdN vA gvA tupA aggA slA slcA ipA rpA EqK LnK IxK LdK FaK FdK
theorem f_vtCost (l : List Cmd) (hl : l.length ≤ 100000) : AP Tryd.prog T0 10 [slA cmdT l] (I (costM l)) := by
  refine af_intro Tryd.func10 rfl (by decide) Tryd.ntmps10 rfl ?_
  repeat' (first
  | refine g2_ ?_ | (refine aw_if ?_ ?_ <;> intro hb <;> try exact no_) | (refine sx_ ?_ <;> intro bb) | (refine su_ ?_ <;> intro u hu1 hu2) | fail)
  refine aw_lf (fun k : Nat => [(3, I (costM (l.take k))), (10, I k)]) (fun k => k ≤ l.length) (fun k => l.length - k) 0 (Nat.zero_le _) ?_
  rintro k i1
  have hle := costM_le (l.take k)
  rw [List.length_take] at hle
  by_cases hlt : k < l.length
  · have hn := costM_snoc l k hlt
    have h8 : (putR' l[k]).1.length ≤ 8 := lenC_le l[k]
    repeat' (first
    | refine g2_ ?_ | (refine aw_if ?_ ?_ <;> intro hb <;> try exact no_) | (refine sx_ ?_ <;> intro bb) | (refine su_ ?_ <;> intro u hu1 hu2) | fail)
    exact ⟨k + 1, by omega, by omega, by rw [hn]; exact wx_, sl_⟩
  · repeat' (first
    | refine g2_ ?_ | (refine aw_if ?_ ?_ <;> intro hb <;> try exact no_) | (refine sx_ ?_ <;> intro bb) | (refine su_ ?_ <;> intro u hu1 hu2) | fail)
    exact ⟨_, [], rs_, List.nil_sublist _, Sub.eq (by rw [List.take_of_length_le (by omega)]), rfl⟩
end
/- Layer 5 (vt): rows of one command, and when two rows of commands are the same. No condition. -/
section
open Go Go.RowKit
variable {T0 : Gh}
set_option maxRecDepth 100000
section
variable {T0 : Gh} {N : Fz} {Q : Post} {fr : Fr} {M M' : List Own} {ops : Array Oper} {o : Oper} {rest : List Oper} {x0 : Nat}
theorem bs_cmdA {t : TypeId} {x : Operand} {c : Cmd} (ho : o.op = .buildSlice t 1 #[(0, x)]) (hu : Tryd.prog.underlying t = some (.slice 31)) (hx : Opd T0 fr x (cmdA c)) : AY Tryd.prog T0 ops o fr M (slA cmdT [c]) := by
  obtain ⟨k, a, b, r⟩ := c
  exact AY.sub (ay_buildSlice (T := cmdT) [(k, a, b, r)] ho hu el_cmd rfl (by decide) ⟨_, pk hx ca_agg rfl (.here (.here (.here (.here sc_0)))) pa_nil, rfl⟩) sub_slc
end
attribute [local irreducible] thenA inBlockA AW AL AO QY varO rowO rsA Opd OpdN vA gvA tupA aggA slA slcA ipA rpA EqK LnK IxK LdK FaK FdK
end
end Go.Proofs.YtgfmjmfphmjdkaaDoor
