/- Layer 1: the library's decoding of one sign, off the kit's shelf. No condition. -/
import Derived.Test.YtplabpjkkcillaaDoorU2
import Derived.Shelf.Unicode.DecodeAny
namespace Go.Proofs.YtplabpjkkcillaaDoor
set_option linter.unusedSimpArgs false
set_option linter.unusedVariables false
set_option linter.unusedSectionVars false
set_option maxHeartbeats 4000000
open Go Go.RowKit
variable {T0 : Gh}
set_option maxRecDepth 100000
def rhoU : Go.Shelf.Ren := ⟨fun k => if k = 197 then 103 else if k = 260 then 117 else 0,
  fun k => if k = 0 then 0 else if k = 3 then 3 else if k = 4 then 4 else if k = 5 then 5 else if k = 9 then 9 else if k = 21 then 21 else if k = 46 then 124 else if k = 105 then 111 else if k = 119 then 120 else if k = 138 then 122 else if k = 139 then 123 else 0,
  fun k => if k = 3 then 1 else if k = 4 then 2 else 0⟩
theorem zero_of {P : Program} {t : TypeId} {v : Value} (h : (P.info? t).map (·.zero) = some (some v)) (w : World) : (zeroValue t).run P w = .ok v w := by
  obtain ⟨i, h1, h2⟩ := Option.map_eq_some_iff.1 h
  simp [zeroValue, typeInfo, h1, h2]
theorem utfLays : Go.Proofs.Lays.n197 Tryd.prog rhoU := by
  constructor
  all_goals first
  | kernel_rfl
  | exact agg_no (by kernel_rfl)
  | exact agg_yes (by kernel_rfl)
  | exact size_of (by kernel_rfl)
  | exact zero_of (by kernel_rfl)
theorem St.after {G : Gh} {w0 w w' : World} {M : List Own} (h : St T0 w0 G M w) (hb : Below w.heap.size w w') : St T0 w0 G M w' :=
  ⟨⟨hb.os.trans h.below.os, hb.tape.trans h.below.tape, hb.output.trans h.below.output, Nat.le_trans h.below.size hb.size, fun b hb' => (hb.block b (Nat.lt_of_lt_of_le hb' h.below.size)).trans (h.below.block b hb')⟩,
    h.tab, fun b o v hv => (World.cell?_of_block (w := w) (hb.block b (cell_lt (h.imm b o v hv)))).trans (h.imm b o v hv),
    fun m hm => m.loc (fun b hb' => hb.block b (h.foot m hm b hb').2.1) (h.own m hm), fun m hm b hb' => let ⟨a1, a2, a3⟩ := h.foot m hm b hb'; ⟨a1, Nat.lt_of_lt_of_le a2 hb.size, a3⟩, h.sep⟩
theorem acc_at {i : Nat} (h : i < 16) : accV[2 * i]? = some (.int .u8 (Go.Lib.accLo i : Nat)) ∧ accV[2 * i + 1]? = some (.int .u8 (Go.Lib.accHi i : Nat)) := by
  have h' : i = 0 ∨ i = 1 ∨ i = 2 ∨ i = 3 ∨ i = 4 ∨ i = 5 ∨ i = 6 ∨ i = 7 ∨ i = 8 ∨ i = 9 ∨ i = 10 ∨ i = 11 ∨ i = 12 ∨ i = 13 ∨ i = 14 ∨ i = 15 := by omega
  rcases h' with rfl | rfl | rfl | rfl | rfl | rfl | rfl | rfl | rfl | rfl | rfl | rfl | rfl | rfl | rfl | rfl <;> exact ⟨rfl, rfl⟩
theorem tabsU [c : TabU T0] {G : Gh} {w0 w : World} {M : List Own} (h : St T0 w0 G M w) : Go.Lib.Utf8Tabs (rhoU.g 3) (rhoU.g 4) w := by
  have key : ∀ b o v, tabU b o = some v → w.cell? ⟨b, o, none⟩ = some v := fun b o v hv => h.imm _ _ _ (h.tab _ _ _ (c.h _ _ _ hv))
  refine ⟨fun k hk => key _ _ _ ?_, fun i hi => ⟨key _ _ _ ?_, key _ _ _ ?_⟩⟩
  · show tabU 1 k = _
    unfold tabU; rw [if_pos rfl]
    simp [firstV, List.getElem?_range, hk]
  · show tabU 2 (2 * i) = _
    unfold tabU; rw [if_neg (by decide), if_pos rfl]
    exact (acc_at hi).1
  · show tabU 2 (2 * i + 1) = _
    unfold tabU; rw [if_neg (by decide), if_pos rfl]
    exact (acc_at hi).2
theorem get_bt (s : List UInt8) (j : Nat) : ((⟨s.toArray⟩ : ByteArray).get! j).toNat = bt s j := by
  show (s.toArray[j]!).toNat = bt s j
  unfold bt
  by_cases h : j < s.length
  · simp [h]
  · simp [h]; rfl
theorem decGo (s : List UInt8) (h : s ≠ []) : Go.Lib.decodeGo ⟨s.toArray⟩ = decG s := by
  have hs : (⟨s.toArray⟩ : ByteArray).size = s.length := by simp [ByteArray.size]
  have hp := List.length_pos_iff.2 h
  unfold Go.Lib.decodeGo
  rw [hs, if_neg (by omega), Go.Lib.decode_at, hs, get_bt, get_bt, get_bt, get_bt]; rfl
theorem f_decode [TabU T0] (s : List UInt8) (h : s ≠ []) : AP Tryd.prog T0 103 [SA s] (tupA [R (decG s).1, I (decG s).2]) := by
  refine ⟨⟨Tryd.f103, Tryd.func103, by decide, rfl⟩, fun w0 G F w vs hs hr => ?_⟩
  obtain ⟨v, rfl⟩ : ∃ v, vs = [v] := List.length_eq_one_iff.1 hr.len
  have hv := hr.1.eq
  subst hv
  refine (Any.utf8_DecodeRuneInString utfLays ⟨s.toArray⟩ w (tabsU hs)).mono ?_
  rintro e w' ⟨rfl, hb⟩
  rw [decGo s h]
  exact .inl ⟨_, tupA [R (decG s).1, I (decG s).2], [], G, rfl, ⟨Sub.refl _, rfl⟩, .of ⟨[_, _], rfl, Rep.va _ _, Rep.va _ _, trivial⟩, Gh.le.refl _, hs.after hb⟩
end Go.Proofs.YtplabpjkkcillaaDoor
