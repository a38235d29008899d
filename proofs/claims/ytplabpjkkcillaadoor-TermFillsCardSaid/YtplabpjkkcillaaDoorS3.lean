/- Layer 6 (scan): the program's reader: a byte, and one that is gone then. No condition. -/
import Derived.Test.YtplabpjkkcillaaDoorS2
import Derived.Test.YtplabpjkkcillaaDoorU5
import Derived.Test.YtplabpjkkcillaaDoorV4
namespace Go.Proofs.YtplabpjkkcillaaDoor
set_option linter.unusedSimpArgs false
set_option linter.unusedVariables false
set_option linter.unusedSectionVars false
set_option maxHeartbeats 4000000
open Go Go.RowKit
variable {T0 : Gh}
set_option maxRecDepth 100000
theorem us_rdr : Tryd.prog.underlying 65 = some (.struct #[{ name := "s", type := 9, offset := 0, embedded := false, tag := "", pkgPath := "typebar/scan", byteOffset := 0 }, { name := "at", type := 3, offset := 1, embedded := false, tag := "", pkgPath := "typebar/scan", byteOffset := 16 }]) := Tryd.underlying65
instance cFlR0 : FldC 65 0 0 9 := ⟨_, _, us_rdr, rfl, rfl, rfl⟩
instance cFlR1 : FldC 65 1 1 3 := ⟨_, _, us_rdr, rfl, rfl, rfl⟩
instance cAgR : AggC 65 true := ⟨agg_yes (by kernel_rfl)⟩
instance cSzR : SzC 65 2 := ⟨size_of (by kernel_rfl)⟩
instance cSpStr : SpC 9 := ⟨size_pos (n := 0) (by kernel_rfl)⟩
instance cStR : StC 65 [SA [], I 0] [(0, 1), (1, 1)] := ⟨StT.mk' _ [.string ⟨#[]⟩, .int .i64 0] us_rdr (by kernel_rfl) (by kernel_rfl)⟩
instance cAlR : AlC 65 (.agg #[.string ⟨#[]⟩, .int .i64 0]) [.string ⟨#[]⟩, .int .i64 0] [SA [], I 0] := ⟨by kernel_rfl, rfl, rfl⟩
instance cUnErr : UnC 24 (.int .i64) := ⟨Tryd.underlying24⟩
instance cSzErr : SzC 24 1 := ⟨size_of (by kernel_rfl)⟩
abbrev ptA (b : Nat) : AV := vA (.pointer (some ⟨b, 0, none⟩))
/-- a reader that stands at a place of bytes -/
abbrev rdO (b : Nat) (s : List UInt8) (p : Nat) : Own := varO b 65 [SA s, I p]
/-- a panic with an error's number -/
abbrev errP (e : Int) : List PanicEntry := [{ v := .iface 24 (.int .i64 e), recovered := false }]
attribute [local irreducible] thenA inBlockA AW AL AO QY varO rowO rsA Opd OpdN vA gvA tupA aggA slA slcA ipA rpA EqK LnK IxK LdK FaK FdK
theorem f_peek (b : Nat) (s : List UInt8) (p : Nat) (x : UInt8) (hs : s.length ≤ 9223372036854775807) (hx : s[p]? = some x) : AF Tryd.prog T0 78 [ptA b] [rdO b s p] (fun A M' => A = UB x ∧ M' = [rdO b s p]) (fun _ _ => False) := by
  have hp : p < s.length := (List.getElem?_eq_some_iff.1 hx).1
  refine af_intro Tryd.func78 rfl (by decide) Tryd.ntmps78 rfl ?_
  repeat' (first
  | (apply al_panic rfl rfl rfl; (case hx => exact oo_)) | refine th_p ?_ | refine ib_p ?_
  | refine s_y ?_
    | refine c_ ?_
    | (refine aw_if ?_ ?_ <;> intro hb <;> try (exfalso; first | assumption | omega | (simp only [or_self, and_self, not_true_eq_false, not_false_eq_true, or_false, false_or, and_false, false_and, true_and, and_true] at hb; first | done | omega)))
    | refine s_call ?_ (c := by first | fail | fail)
    | refine s_op ?_ (hy := by first | (apply ay_nilp rfl; exact oo_; done) | (apply ay_nilp rfl; exact oog_; done) | (apply ay_iface rfl un_; exact oo_; done) | fail)
    | refine s_yg ?_
    | refine s_callg ?_ (c := by intro hk hk2; first | fail | fail)
    | refine s_opg ?_ (hy := by intro hk hk2; first | (apply ay_nilp rfl; exact oo_; done) | (apply ay_nilp rfl; exact oog_; done) | (apply ay_iface rfl un_; exact oo_; done) | fail)
    | refine s_skip ?_
    | ((first | refine w_alloc ?_ | refine w_box ?_) <;> intro bb)
    | ((first | refine w_emp ?_ | refine w_make ?_ | refine w_app ?_) <;> intro u hu1 hu2)
    | refine w_stv ?_ | refine w_str ?_ | refine w_cpr ?_ | refine w_cps ?_
    | refine al_last (by kernel_rfl) ?_
  | fail)
  exact ⟨_, [rdO b s p], rl_, sl_, rfl, rfl⟩
theorem f_peekE (b : Nat) (s : List UInt8) (hs : s.length ≤ 9223372036854775807) : AF Tryd.prog T0 78 [ptA b] [rdO b s s.length] (fun _ _ => False) (fun c _ => c = errP 3) := by
  refine af_intro Tryd.func78 rfl (by decide) Tryd.ntmps78 rfl ?_
  repeat' (first
  | (apply al_panic rfl rfl rfl; (case hx => exact oo_)) | refine th_p ?_ | refine ib_p ?_
  | refine s_y ?_
    | refine c_ ?_
    | (refine aw_if ?_ ?_ <;> intro hb <;> try (exfalso; first | assumption | omega | (simp only [or_self, and_self, not_true_eq_false, not_false_eq_true, or_false, false_or, and_false, false_and, true_and, and_true] at hb; first | done | omega)))
    | refine s_call ?_ (c := by first | fail | fail)
    | refine s_op ?_ (hy := by first | (apply ay_nilp rfl; exact oo_; done) | (apply ay_nilp rfl; exact oog_; done) | (apply ay_iface rfl un_; exact oo_; done) | fail)
    | refine s_yg ?_
    | refine s_callg ?_ (c := by intro hk hk2; first | fail | fail)
    | refine s_opg ?_ (hy := by intro hk hk2; first | (apply ay_nilp rfl; exact oo_; done) | (apply ay_nilp rfl; exact oog_; done) | (apply ay_iface rfl un_; exact oo_; done) | fail)
    | refine s_skip ?_
    | ((first | refine w_alloc ?_ | refine w_box ?_) <;> intro bb)
    | ((first | refine w_emp ?_ | refine w_make ?_ | refine w_app ?_) <;> intro u hu1 hu2)
    | refine w_stv ?_ | refine w_str ?_ | refine w_cpr ?_ | refine w_cps ?_
    | refine al_last (by kernel_rfl) ?_
  | fail)
  exact rq_p rfl
theorem f_take (b : Nat) (s : List UInt8) (p : Nat) (x : UInt8) (hs : s.length ≤ 9223372036854775807) (hx : s[p]? = some x) : AF Tryd.prog T0 79 [ptA b] [rdO b s p] (fun A M' => A = UB x ∧ M' = [rdO b s (p + 1)]) (fun _ _ => False) := by
  have hp : p < s.length := (List.getElem?_eq_some_iff.1 hx).1
  have cp := f_peek (T0 := T0) b s p x hs hx
  refine af_intro Tryd.func79 rfl (by decide) Tryd.ntmps79 rfl ?_
  repeat' (first
  | (apply al_call1 rfl rfl rfl rfl (c := cp)
     case ha => exact os_
     case hM => exact pick_
     rintro _ _ ⟨rfl, rfl⟩)
    | refine th_p ?_ | refine ib_p ?_
  | refine s_y ?_
    | refine c_ ?_
    | (refine aw_if ?_ ?_ <;> intro hb <;> try (exfalso; first | assumption | omega | (simp only [or_self, and_self, not_true_eq_false, not_false_eq_true, or_false, false_or, and_false, false_and, true_and, and_true] at hb; first | done | omega)))
    | refine s_call ?_ (c := by first | fail | fail)
    | refine s_op ?_ (hy := by first | (apply ay_nilp rfl; exact oo_; done) | (apply ay_nilp rfl; exact oog_; done) | (apply ay_iface rfl un_; exact oo_; done) | fail)
    | refine s_yg ?_
    | refine s_callg ?_ (c := by intro hk hk2; first | fail | fail)
    | refine s_opg ?_ (hy := by intro hk hk2; first | (apply ay_nilp rfl; exact oo_; done) | (apply ay_nilp rfl; exact oog_; done) | (apply ay_iface rfl un_; exact oo_; done) | fail)
    | refine s_skip ?_
    | ((first | refine w_alloc ?_ | refine w_box ?_) <;> intro bb)
    | ((first | refine w_emp ?_ | refine w_make ?_ | refine w_app ?_) <;> intro u hu1 hu2)
    | refine w_stv ?_ | refine w_str ?_ | refine w_cpr ?_ | refine w_cps ?_
    | refine al_last (by kernel_rfl) ?_
  | fail)
  exact ⟨_, [rdO b s (p + 1)], rl_, sl_, rfl, rfl⟩
theorem f_takeE (b : Nat) (s : List UInt8) (hs : s.length ≤ 9223372036854775807) : AF Tryd.prog T0 79 [ptA b] [rdO b s s.length] (fun _ _ => False) (fun c _ => c = errP 3) := by
  have cp := f_peekE (T0 := T0) b s hs
  refine af_intro Tryd.func79 rfl (by decide) Tryd.ntmps79 rfl ?_
  repeat' (first
  | (apply al_call1p rfl rfl rfl rfl (c := cp)
     case ha => exact os_
     case hM => exact pick_
     case h => exact fun _ _ h => h.elim
     rintro _ _ rfl)
    | refine th_p ?_ | refine ib_p ?_
  | refine s_y ?_
    | refine c_ ?_
    | (refine aw_if ?_ ?_ <;> intro hb <;> try (exfalso; first | assumption | omega | (simp only [or_self, and_self, not_true_eq_false, not_false_eq_true, or_false, false_or, and_false, false_and, true_and, and_true] at hb; first | done | omega)))
    | refine s_call ?_ (c := by first | fail | fail)
    | refine s_op ?_ (hy := by first | (apply ay_nilp rfl; exact oo_; done) | (apply ay_nilp rfl; exact oog_; done) | (apply ay_iface rfl un_; exact oo_; done) | fail)
    | refine s_yg ?_
    | refine s_callg ?_ (c := by intro hk hk2; first | fail | fail)
    | refine s_opg ?_ (hy := by intro hk hk2; first | (apply ay_nilp rfl; exact oo_; done) | (apply ay_nilp rfl; exact oog_; done) | (apply ay_iface rfl un_; exact oo_; done) | fail)
    | refine s_skip ?_
    | ((first | refine w_alloc ?_ | refine w_box ?_) <;> intro bb)
    | ((first | refine w_emp ?_ | refine w_make ?_ | refine w_app ?_) <;> intro u hu1 hu2)
    | refine w_stv ?_ | refine w_str ?_ | refine w_cpr ?_ | refine w_cps ?_
    | refine al_last (by kernel_rfl) ?_
  | fail)
  exact rq_p rfl
end Go.Proofs.YtplabpjkkcillaaDoor
