/- Layer 1: is the first sign whole (the library)? The program's next sign. No condition. -/
import Derived.Test.YtplabpjkkcillaaDoorU3
import Derived.Test.YtplabpjkkcillaaDoorAP
namespace Go.Proofs.YtplabpjkkcillaaDoor
set_option linter.unusedSimpArgs false
set_option linter.unusedVariables false
set_option linter.unusedSectionVars false
set_option maxHeartbeats 4000000
open Go Go.RowKit
variable {T0 : Gh} [TabU T0]
set_option maxRecDepth 100000
instance cUnF8 : UnC 120 (.array 256 5) := ⟨Tryd.underlying120⟩
instance cUnAc : UnC 123 (.array 16 122) := ⟨Tryd.underlying123⟩
instance cSzU8 : SzC 5 1 := ⟨size_of (by kernel_rfl)⟩
instance cSpU8 : SpC 5 := ⟨size_pos (n := 0) (by kernel_rfl)⟩
instance cSzAc : SzC 122 2 := ⟨size_of (by kernel_rfl)⟩
instance cAgAc : AggC 122 true := ⟨agg_yes (by kernel_rfl)⟩
theorem us_acc : Tryd.prog.underlying 122 = some (.struct #[{ name := "lo", type := 5, offset := 0, embedded := false, tag := "", pkgPath := "unicode/utf8", byteOffset := 0 }, { name := "hi", type := 5, offset := 1, embedded := false, tag := "", pkgPath := "unicode/utf8", byteOffset := 1 }]) := Tryd.underlying122
instance cFlAc0 : FldC 122 0 0 5 := ⟨_, _, us_acc, rfl, rfl, rfl⟩
instance cFlAc1 : FldC 122 1 1 5 := ⟨_, _, us_acc, rfl, rfl, rfl⟩
instance cAlAc : AlC 122 (.agg #[.int .u8 0, .int .u8 0]) [.int .u8 0, .int .u8 0] [U 0, U 0] := ⟨by kernel_rfl, rfl, rfl⟩
theorem first_at {m : Nat} (h : m < 256) : (firstV.drop (m * 1))[0]? = some (.int .u8 (Go.Lib.firstT m : Nat)) := by
  simp [firstV, List.getElem?_range, h]
section
variable {N : Fz} {Q : Post} {fr : Fr} {M M' : List Own} {ops : Array Oper} {o : Oper} {rest : List Oper} {x0 : Nat}
theorem ld_acc {x : Operand} {i : Nat} (ho : o.op = .load 122 x) (hi : i < 16) (hx : Opd T0 fr x (ipA (accV.drop (i * 2)))) : AY Tryd.prog T0 ops o fr M (aggA [U (Go.Lib.accLo i : Nat), U (Go.Lib.accHi i : Nat)]) := by
  have h1 := acc_at hi
  have h := ay_loadn (P := Tryd.prog) (ops := ops) (M := M) ho agg_ (n := 2) sz_ hx (by rw [List.length_drop, show accV.length = 32 from rfl]; omega)
  have e : (accV.drop (i * 2)).take 2 = [.int .u8 (Go.Lib.accLo i : Nat), .int .u8 (Go.Lib.accHi i : Nat)] := by
    have h' : i = 0 ∨ i = 1 ∨ i = 2 ∨ i = 3 ∨ i = 4 ∨ i = 5 ∨ i = 6 ∨ i = 7 ∨ i = 8 ∨ i = 9 ∨ i = 10 ∨ i = 11 ∨ i = 12 ∨ i = 13 ∨ i = 14 ∨ i = 15 := by omega
    rcases h' with rfl | rfl | rfl | rfl | rfl | rfl | rfl | rfl | rfl | rfl | rfl | rfl | rfl | rfl | rfl | rfl <;> rfl
  rw [e] at h; exact h
end
theorem bt_bang {s : List UInt8} {j : Nat} (h : j < s.length) : bt s j = (s[j]!).toNat := by
  rw [bt, List.getElem?_eq_getElem h, List.getElem!_eq_getElem?_getD, List.getElem?_eq_getElem h]; rfl
attribute [local irreducible] thenA inBlockA AW AL AO QY varO rowO rsA Opd OpdN vA gvA tupA aggA slA slcA ipA rpA EqK LnK IxK LdK FaK FdK
theorem f_fullX (s : List UInt8) (b : UInt8) (t : List UInt8) (hs : s = b :: t) (hl : s.length ≤ 9223372036854775807) (x sz i : Nat) (h1 : Go.Lib.firstT b.toNat = x) (h2 : x % 8 = sz) (h3 : x / 16 = i) (hi : i < 16) (hsz : sz ≤ 8)
    (hand : ∀ w, (binOp .and 5 (.int .u8 (x : Int)) (.int .u8 7)).run Tryd.prog w = .ok (.int .u8 (sz : Int)) w) (hshr : ∀ w, (binOp .shr 5 (.int .u8 (x : Int)) (.int .u64 4)).run Tryd.prog w = .ok (.int .u8 (i : Int)) w) :
    AP Tryd.prog T0 102 [SA s] (B (fullG s)) := by
  have hb0 := b.toNat_lt
  have hv : (firstV.drop (b.toNat * 1))[0]? = some (.int .u8 (x : Int)) := by rw [first_at hb0, h1]
  have g0 : s[0]? = some b := by rw [hs]; rfl
  have e0 : bt s 0 = b.toNat := bt_at g0
  have hp : 0 < s.length := by rw [hs]; simp
  have c0 : fullG s = fullN s.length b.toNat (bt s 1) (bt s 2) := by rw [fullG, e0]
  have c1 := fun h => bt_bang (s := s) (j := 1) h
  have c2 := fun h => bt_bang (s := s) (j := 2) h
  clear hs
  have c3 : fullN s.length b.toNat (bt s 1) (bt s 2) = if sz ≤ s.length then true else if 1 < s.length ∧ (bt s 1 < Go.Lib.accLo i ∨ Go.Lib.accHi i < bt s 1) then true else if 2 < s.length ∧ (bt s 2 < 128 ∨ 191 < bt s 2) then true else false := by
    unfold fullN; rw [if_neg (by omega), h1, h2, h3]
  rw [c0, c3]
  refine af_intro Tryd.func102 rfl (by decide) Tryd.ntmps102 rfl ?_
  repeat' (first
  | fail
  | refine s_y ?_
    | refine c_ ?_
    | (refine aw_if ?_ ?_ <;> intro hb <;> try (exfalso; first | assumption | omega | (simp only [or_self, and_self, not_true_eq_false, not_false_eq_true, or_false, false_or, and_false, false_and, true_and, and_true] at hb; first | done | omega)))
    | refine s_call ?_ (c := by first | fail | fail)
    | refine s_op ?_ (hy := by first | (apply ay_indexAddr_arr rfl un_ sz_ og_first; exact ol_; omega) | exact ay_load1' rfl agg_ oo_ hv | exact ay_int rfl oo_ oo_ hand | exact ay_int rfl oo_ oo_ hshr | (apply ay_indexAddr_arr rfl un_ sz_ og_acc; exact ol_; omega) | exact ld_acc rfl hi oo_ | fail)
    | refine s_yg ?_
    | refine s_callg ?_ (c := by intro hk hk2; first | fail | fail)
    | refine s_opg ?_ (hy := by intro hk hk2; first | (apply ay_indexAddr_arr rfl un_ sz_ og_first; exact ol_; omega) | exact ay_load1' rfl agg_ oo_ hv | exact ay_int rfl oo_ oo_ hand | exact ay_int rfl oo_ oo_ hshr | (apply ay_indexAddr_arr rfl un_ sz_ og_acc; exact ol_; omega) | exact ld_acc rfl hi oo_ | fail)
    | refine s_skip ?_
    | ((first | refine w_alloc ?_ | refine w_box ?_) <;> intro bb)
    | ((first | refine w_emp ?_ | refine w_make ?_ | refine w_app ?_) <;> intro u hu1 hu2)
    | refine w_stv ?_ | refine w_str ?_ | refine w_cpr ?_ | refine w_cps ?_
    | refine al_last (by kernel_rfl) ?_
  | fail)
  all_goals refine ⟨_, [], rs_, List.nil_sublist _, Sub.eq (congrArg B ?_), rfl⟩
  · rw [if_pos (by omega)]
  · rw [if_neg (by omega), if_pos]
    have := c1 (by omega)
    omega
  · rename_i hb1
    rw [if_neg (by omega), if_neg, if_pos]
    · have := c2 (by omega)
      omega
    · intro h
      have := c1 (by omega)
      omega
  · rename_i hb1
    rw [if_neg (by omega), if_neg, if_neg]
    · intro h
      have := c2 (by omega)
      omega
    · intro h
      have := c1 (by omega)
      omega
end Go.Proofs.YtplabpjkkcillaaDoor
