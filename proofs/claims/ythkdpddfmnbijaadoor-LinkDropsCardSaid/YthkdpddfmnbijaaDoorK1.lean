/- Layer 9 (link): links, as types and plain laws. No condition. -/
import Derived.Test.YthkdpddfmnbijaaDoorV7
import Derived.Test.YthkdpddfmnbijaaDoorAX
namespace Go.Proofs.YthkdpddfmnbijaaDoor
set_option linter.unusedSimpArgs false
set_option linter.unusedVariables false
set_option maxHeartbeats 4000000
open Go Go.RowKit
set_option maxRecDepth 100000
theorem us_link : Tryd.prog.underlying 36 = some (.struct #[{ name := "Room", type := 3, offset := 0, embedded := false, tag := "", pkgPath := "", byteOffset := 0 }, { name := "L", type := 29, offset := 1, embedded := false, tag := "", pkgPath := "", byteOffset := 8 }, { name := "Sent", type := 3, offset := 2, embedded := false, tag := "", pkgPath := "", byteOffset := 32 }, { name := "Pad", type := 3, offset := 3, embedded := false, tag := "", pkgPath := "", byteOffset := 40 }, { name := "Off", type := 4, offset := 4, embedded := false, tag := "", pkgPath := "", byteOffset := 48 }]) := Tryd.underlying36
abbrev linkA (room : Int) (l : List Cmd) (sent pad : Int) (off : Bool) : AV := aggA [I room, slA cmdT l, I sent, I pad, B off]
instance cStK : StC 36 [I 0, vA (.slice none 0 0), I 0, I 0, B false] [(0, 1), (1, 1), (2, 1), (3, 1), (4, 1)] := ⟨StT.mk' _ [.int .i64 0, .slice none 0 0, .int .i64 0, .int .i64 0, .bool false] us_link (by kernel_rfl) (by kernel_rfl)⟩
instance cFlK0 : FldC 36 0 0 3 := ⟨_, _, us_link, rfl, rfl, rfl⟩
instance cFlK1 : FldC 36 1 1 29 := ⟨_, _, us_link, rfl, rfl, rfl⟩
instance cFlK2 : FldC 36 2 2 3 := ⟨_, _, us_link, rfl, rfl, rfl⟩
instance cFlK3 : FldC 36 3 3 3 := ⟨_, _, us_link, rfl, rfl, rfl⟩
instance cFlK4 : FldC 36 4 4 4 := ⟨_, _, us_link, rfl, rfl, rfl⟩
instance cAgK : AggC 36 true := ⟨agg_yes (by kernel_rfl)⟩
instance cSzK : SzC 36 5 := ⟨size_of (by kernel_rfl)⟩
instance cSpK : SpC 36 := ⟨size_pos (n := 4) (by kernel_rfl)⟩
instance cAlK : AlC 36 (.agg #[.int .i64 0, .slice none 0 0, .int .i64 0, .int .i64 0, .bool false]) [.int .i64 0, .slice none 0 0, .int .i64 0, .int .i64 0, .bool false] [I 0, vA (.slice none 0 0), I 0, I 0, B false] := ⟨by kernel_rfl, rfl, rfl⟩
instance cSpMs : SpC 29 := ⟨size_pos (n := 0) (by kernel_rfl)⟩
instance cSzB : SzC 4 1 := ⟨size_of (by kernel_rfl)⟩
/-! ### plain laws -/
/-- is a link right? -/
def okL (room : Int) (l : List Cmd) (sent pad : Int) : Bool := decide (8 ≤ room ∧ room ≤ 48 ∧ 0 ≤ pad ∧ pad ≤ 2 ∧ 0 ≤ sent) && l.all isCmd && (match l with | [] => decide (sent = 0) | c :: _ => decide (sent < lenC c ∧ (costM l : Int) - sent ≤ room))
theorem okL_nil {room sent pad : Int} : okL room [] sent pad = true ↔ (8 ≤ room ∧ room ≤ 48 ∧ 0 ≤ pad ∧ pad ≤ 2 ∧ 0 ≤ sent) ∧ sent = 0 := by simp [okL]
theorem okL_cons {room sent pad : Int} {c : Cmd} {l : List Cmd} : okL room (c :: l) sent pad = true ↔ (8 ≤ room ∧ room ≤ 48 ∧ 0 ≤ pad ∧ pad ≤ 2 ∧ 0 ≤ sent) ∧ (c :: l).all isCmd = true ∧ sent < lenC c ∧ (costM (c :: l) : Int) - sent ≤ room := by simp only [okL, Bool.and_eq_true, decide_eq_true_eq]; exact and_assoc
theorem okL_rng {room sent pad : Int} {l : List Cmd} (h : ¬ (8 ≤ room ∧ room ≤ 48 ∧ 0 ≤ pad ∧ pad ≤ 2 ∧ 0 ≤ sent)) : okL room l sent pad = false := by simp only [okL, decide_eq_false h, Bool.false_and]
theorem okL_all {room sent pad : Int} {l : List Cmd} (h : l.all isCmd = false) : okL room l sent pad = false := by simp only [okL, h, Bool.and_false, Bool.false_and]
theorem all_snoc (p : Cmd → Bool) (l : List Cmd) (k : Nat) (h : k < l.length) : (l.take (k + 1)).all p = ((l.take k).all p && p l[k]) := by
  rw [List.take_succ_eq_append_getElem h, List.all_append]; simp
theorem all_at {p : Cmd → Bool} {l : List Cmd} {k : Nat} (h : k < l.length) (e : p l[k] = false) : l.all p = false := by
  rw [Bool.eq_false_iff]; intro e2
  rw [List.all_eq_true] at e2
  rw [e2 _ (List.getElem_mem h)] at e; cases e
section
variable {T0 : Gh} {N : Nat} {Q : Post} {fr : Fr} {M M' : List Own} {ops : Array Oper} {o : Oper} {rest : List Oper} {x0 : Nat}
theorem bs_cmdA {t : TypeId} {x : Operand} {c : Cmd} (ho : o.op = .buildSlice t 1 #[(0, x)]) (hu : Tryd.prog.underlying t = some (.slice 23)) (hx : Opd T0 fr x (cmdA c)) : AY Tryd.prog T0 ops o fr M (slA cmdT [c]) := by
  obtain ⟨k, a, b, r⟩ := c
  exact bs_cmd1 ho hu hx
end
/-- commands' bytes, one behind the other -/
def bytesM (l : List Cmd) : List UInt8 := l.flatMap fun c => (putR' c).1
theorem bytesM_len (l : List Cmd) : (bytesM l).length = costM l := by
  induction l with
  | nil => rfl
  | cons c l ih => simp only [bytesM, List.flatMap_cons, List.length_append, costM, List.map_cons, List.sum_cons] at ih ⊢; rw [ih]; rfl
theorem bytesM_snoc (l : List Cmd) (k : Nat) (h : k < l.length) : bytesM (l.take (k + 1)) = bytesM (l.take k) ++ (putR' l[k]).1 := by
  rw [bytesM, bytesM, List.take_succ_eq_append_getElem h, List.flatMap_append]; simp
theorem bytesM_cons (c : Cmd) (l : List Cmd) : bytesM (c :: l) = (putR' c).1 ++ bytesM l := rfl
theorem bytesM_app (a b : List Cmd) : bytesM (a ++ b) = bytesM a ++ bytesM b := by simp [bytesM]
theorem bytesM_one (c : Cmd) : bytesM [c] = (putR' c).1 := by simp [bytesM]
theorem costM_cons (c : Cmd) (l : List Cmd) : costM (c :: l) = lenC c + costM l := by simp [costM]
theorem lenC_eq (c : Cmd) : lenC c = (putR' c).1.length := rfl
theorem lenC_pos {c : Cmd} (h : isCmd c = true) : 1 ≤ lenC c := by
  rw [lenC, putR', if_pos h]; exact (bytesB_len h).1
theorem okL_facts {room sent pad : Int} {l : List Cmd} (h : okL room l sent pad = true) : (8 ≤ room ∧ room ≤ 48 ∧ 0 ≤ pad ∧ pad ≤ 2 ∧ 0 ≤ sent) ∧ l.all isCmd = true ∧ sent ≤ costM l ∧ (costM l : Int) - sent ≤ room := by
  cases l with
  | nil => have := okL_nil.1 h; refine ⟨this.1, rfl, ?_, ?_⟩ <;> simp [costM] <;> omega
  | cons c l => have := okL_cons.1 h; have e := costM_cons c l; exact ⟨this.1, this.2.1, by omega, this.2.2.2⟩
/-- the bytes that are still to be sent -/
def restL (room : Int) (l : List Cmd) (sent pad : Int) : List UInt8 := if okL room l sent pad = true then (bytesM l).drop sent.toNat else []
/-- what is sent of l, and what is left then: the commands, how many bytes of the first one are sent, the wait -/
def sendM : List Cmd → Nat → Int → Int → List UInt8 × List Cmd × Nat × Int
  | [], s, p, _ => ([], [], s, p)
  | c :: l, s, p, g => if p ≠ 0 ∨ g ≤ 0 then ([], c :: l, s, p) else
    if g < ((lenC c - s : Nat) : Int) then (((putR' c).1.drop s).take g.toNat, c :: l, s + g.toNat, p)
    else (((putR' c).1.drop s) ++ (sendM l 0 (padC c) (g - ((lenC c - s : Nat) : Int))).1, (sendM l 0 (padC c) (g - ((lenC c - s : Nat) : Int))).2)
theorem sendM_stop {l : List Cmd} {s : Nat} {p g : Int} (h : l = [] ∨ p ≠ 0 ∨ g ≤ 0) : sendM l s p g = ([], l, s, p) := by
  cases l with
  | nil => rfl
  | cons c l => rw [sendM, if_pos (by rcases h with h | h; cases h; exact h)]
theorem sendM_part {c : Cmd} {l : List Cmd} {s : Nat} {g : Int} (h : 0 < g) (h2 : g < ((lenC c - s : Nat) : Int)) : sendM (c :: l) s 0 g = (((putR' c).1.drop s).take g.toNat, c :: l, s + g.toNat, 0) := by
  rw [sendM, if_neg (by omega), if_pos h2]
theorem sendM_whole {c : Cmd} {l : List Cmd} {s : Nat} {g : Int} (h : 0 < g) (h2 : ((lenC c - s : Nat) : Int) ≤ g) : sendM (c :: l) s 0 g = (((putR' c).1.drop s) ++ (sendM l 0 (padC c) (g - ((lenC c - s : Nat) : Int))).1, (sendM l 0 (padC c) (g - ((lenC c - s : Nat) : Int))).2) := by
  rw [sendM, if_neg (by omega), if_neg (by omega)]
/-- one byte is sent -/
theorem sendM_byte {c : Cmd} {l : List Cmd} {s : Nat} {g : Int} (h : 0 < g) (h2 : s < lenC c) :
    sendM (c :: l) s 0 g = if s + 1 = lenC c then ((((putR' c).1.drop s).take 1) ++ (sendM l 0 (padC c) (g - 1)).1, (sendM l 0 (padC c) (g - 1)).2) else ((((putR' c).1.drop s).take 1) ++ (sendM (c :: l) (s + 1) 0 (g - 1)).1, (sendM (c :: l) (s + 1) 0 (g - 1)).2) := by
  have hl : (putR' c).1.length = lenC c := rfl
  split
  · rename_i e
    have hs : lenC c - s = 1 := by omega
    rw [sendM_whole h (by omega), hs, List.take_of_length_le (by rw [List.length_drop]; omega)]
    rfl
  · rename_i e
    have h3 : (putR' c).1.drop s = ((putR' c).1.drop s).take 1 ++ (putR' c).1.drop (s + 1) := by
      rw [← List.drop_drop, List.take_append_drop]
    by_cases hw : ((lenC c - s : Nat) : Int) ≤ g
    · rw [sendM_whole h hw, sendM_whole (s := s + 1) (by omega) (by omega)]
      rw [show g - 1 - ((lenC c - (s + 1) : Nat) : Int) = g - ((lenC c - s : Nat) : Int) by omega]
      conv => lhs; rw [h3]
      rw [List.append_assoc]
    · rw [sendM_part h (by omega)]
      by_cases h1 : g = 1
      · rw [h1, sendM_stop (g := 1 - 1) (.inr (.inr (by decide)))]; simp
      · rw [sendM_part (s := s + 1) (by omega) (by omega)]
        obtain ⟨n, rfl⟩ := Int.eq_ofNat_of_zero_le (show 0 ≤ g by omega)
        have e4 : ((n : Int) - 1).toNat = n - 1 := by omega
        obtain ⟨m, rfl⟩ : ∃ m, n = m + 1 := ⟨n - 1, by omega⟩
        simp only [e4, Int.toNat_natCast, Nat.add_sub_cancel, Prod.mk.injEq, true_and, and_true]
        refine ⟨?_, by omega⟩
        conv => lhs; rw [h3]
        have h4 : (((putR' c).1.drop s).take 1).length = 1 := by rw [List.length_take, List.length_drop]; omega
        rw [List.take_append, h4, List.take_of_length_le (l := ((putR' c).1.drop s).take 1) (by omega)]
        simp
end Go.Proofs.YthkdpddfmnbijaaDoor
