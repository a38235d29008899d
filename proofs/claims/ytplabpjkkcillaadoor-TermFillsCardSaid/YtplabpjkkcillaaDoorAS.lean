/- The logic's rules for strings and bytes. No condition. -/
import Derived.Test.YtplabpjkkcillaaDoorAL
import Derived.Laws.Runes
import Derived.Laws.BytesString
namespace Go.Proofs.YtplabpjkkcillaaDoor
set_option linter.unusedSimpArgs false
set_option linter.unusedVariables false
set_option linter.unusedSectionVars false
set_option maxHeartbeats 4000000
open Go Go.RowKit
/-- a string, told by its bytes -/
abbrev SA (l : List UInt8) : AV := vA (.string ⟨l.toArray⟩)
abbrev UB (b : UInt8) : AV := vA (.int .u8 (b.toNat : Int))
def u8T : Ty UInt8 := { enc := fun b => [.int .u8 (b.toNat : Int)], k := 1, len := fun _ => rfl }
theorem sz_mk (l : List UInt8) : (⟨l.toArray⟩ : ByteArray).size = l.length := by simp [ByteArray.size]
theorem ext_mk (l : List UInt8) (a b : Nat) : (⟨l.toArray⟩ : ByteArray).extract a b = ⟨((l.drop a).take (b - a)).toArray⟩ := by
  apply WideShapes.bytes_inj
  simp [ByteArray.data_extract, List.extract_eq_take_drop]
theorem app_mk (l m : List UInt8) : (⟨l.toArray⟩ : ByteArray) ++ ⟨m.toArray⟩ = ⟨(l ++ m).toArray⟩ := by
  apply WideShapes.bytes_inj
  simp
section
variable {P : Program} {T0 : Gh} {N : Fz} {Q : Post} {fr : Fr} {M M' : List Own} {ops : Array Oper} {o : Oper} {rest : List Oper} {x0 : Nat}
theorem nk_str {t : TypeId} {l : List UInt8} (hu : P.underlying t = some .string) : LnK P T0 M t (SA l) (I l.length) := fun fr ops o x ts ho ht hx => by
  have h := ay_len_str (o := o) (M := M) (ops := ops) ho ht hu hx
  rw [sz_mk] at h; exact h
theorem ay_idx_str {t : TypeId} {x y : Operand} {l : List UInt8} {k : IntKind} {n : Nat} {b : UInt8} (ho : o.op = .index t x y) (hu : P.underlying t = some .string) (hx : Opd T0 fr x (SA l)) (hy : OpdN T0 fr y k n) (hn : l[n]? = some b) : AY P T0 ops o fr M (UB b) := ay_of fun w0 G F a w hs hf => by
  have h1 := (hx.use (o := o) (ops := ops) (by simp [ho, Op.operands]) hs.tab hf).eq
  have h2 := ((show Opd T0 fr y (vA (.int k (n : Int))) from hy).use (o := o) (ops := ops) (by simp [ho, Op.operands]) hs.tab hf).eq
  obtain ⟨h3, h4⟩ := List.getElem?_eq_some_iff.1 hn
  refine ⟨.int .u8 (b.toNat : Int), ?_, Rep.va _ _⟩
  simp only [execOp, ho, h1, h2, Sem.run_bind, run_index_string w t _ k _ hu]
  rw [dif_pos (by rw [sz_mk]; omega)]
  subst h4
  rfl
theorem ay_cut_str {t : TypeId} {x : Operand} {lo hi : Option Operand} {l : List UInt8} {a b : Nat} (ho : o.op = .slice t x lo hi none) (hu : P.underlying t = some .string) (hx : Opd T0 fr x (SA l)) (hlo : loOf lo a T0 fr) (hhi : hiOf hi b l.length T0 fr) (h1 : a ≤ b) (h2 : b ≤ l.length) :
    AY P T0 ops o fr M (SA ((l.drop a).take (b - a))) := ay_of fun w0 G F ac w hs hf => by
  have e1 := (hx.use (o := o) (ops := ops) (by simp [ho, Op.operands]) hs.tab hf).eq
  have hL : (lo.map ac.eval = none ∧ a = 0) ∨ ∃ k, lo.map ac.eval = some (.int k (a : Int)) := by
    cases lo with
    | none => exact .inl ⟨rfl, hlo⟩
    | some y => obtain ⟨k, hk⟩ := hlo; exact .inr ⟨k, congrArg some (hk.use (o := o) (ops := ops) (by simp [ho, Op.operands]) hs.tab hf).eq⟩
  have hH : (hi.map ac.eval = none ∧ b = l.length) ∨ ∃ k, hi.map ac.eval = some (.int k (b : Int)) := by
    cases hi with
    | none => exact .inl ⟨rfl, hhi⟩
    | some y => obtain ⟨k, hk⟩ := hhi; exact .inr ⟨k, congrArg some (hk.use (o := o) (ops := ops) (by simp [ho, Op.operands]) hs.tab hf).eq⟩
  have hb := run_sliceBounds (P := P) (isS := false) (cap := l.length) (len := l.length) (w := w) (lo := a) (hi := b) (vlo := lo.map ac.eval) (vhi := hi.map ac.eval) h1 h2 hL hH
  refine ⟨.string ⟨((l.drop a).take (b - a)).toArray⟩, ?_, Rep.va _ _⟩
  simp only [execOp, ho, e1, Option.map_none, Sem.run_bind, run_sliceAt_string w t _ _ _ _ hu]
  simp [Instr.slice, run_underlying hu, sz_mk, hb, ext_mk]
theorem ay_cat {t t' : TypeId} {x y : Operand} {l m : List UInt8} (ho : o.op = .binOp .add t x y t') (hx : Opd T0 fr x (SA l)) (hy : Opd T0 fr y (SA m)) (hf : l.length + m.length ≤ 9223372036854775807) : AY P T0 ops o fr M (SA (l ++ m)) := ay_str ho hx hy fun w => by
  have h : ¬ ((((⟨l.toArray⟩ : ByteArray).size + (⟨m.toArray⟩ : ByteArray).size : Nat) : Int) > IntKind.i64.max) := by
    rw [sz_mk, sz_mk]; simp only [IntKind.max, IntKind.bits, IntKind.signed]; simp; omega
  simp only [Op.stringOp]
  rw [if_neg h, app_mk]; rfl
theorem ek_str {t : TypeId} {l m : List UInt8} : EqK P t (SA l) (SA m) (decide (l = m)) := fun _ _ _ _ _ _ _ _ hx hy => ⟨fun ho => ay_str ho hx hy fun w => by
  simp only [Op.stringOp, ByteArray.toList_mk]
  have : (l == m) = decide (l = m) := by rw [Bool.eq_iff_iff]; simp
  rw [← this]; rfl, fun ho => ay_str ho hx hy fun w => by
  simp only [Op.stringOp, ByteArray.toList_mk]
  have : (l == m) = decide (l = m) := by rw [Bool.eq_iff_iff]; simp
  rw [← this]; rfl⟩
/-- a sign's bytes -/
def encB (r : Int) : List UInt8 := (Utf8.encode r).data.toList
theorem ay_conv_sign {s d : TypeId} {x : Operand} {k : IntKind} {a : Int} {ts : TypeDesc} (ho : o.op = .convert s d x) (hs' : P.underlying s = some ts) (hd : P.underlying d = some .string) (hx : Opd T0 fr x (vA (.int k a))) : AY P T0 ops o fr M (SA (encB a)) := ay_of fun w0 G F a' w hs hf' =>
  ⟨.string (Utf8.encode a), by
    have h1 := (hx.use (o := o) (ops := ops) (by simp [ho, Op.operands]) hs.tab hf').eq
    simp only [execOp, ho, h1, Sem.run_bind, run_convert_int_string w s d k a (by rw [hs']; rfl) hd, Result.andThen_ok, Sem.run_pure], .of (by simp [vA, encB])⟩
/-- bytes are made a string -/
theorem run_bytesL (w : World) (src dst e : TypeId) (a : Option Addr) (c : Nat) (l : List UInt8) (hs : P.underlying src = some (.slice e)) (he : P.underlying e = some (.int .u8)) (hd : P.underlying dst = some .string)
    (hc : l ≠ [] → ∃ b off, a = some ⟨b, off, none⟩ ∧ ∀ j v, (l.flatMap u8T.enc)[j]? = some v → w.cell? ⟨b, off + j, none⟩ = some v) : (convert src dst (.slice a l.length c)).run P w = .ok (.string ⟨l.toArray⟩) w := by
  rw [run_convert_bytes_string w src dst e a l.length c hs he hd]
  have h0 : ∀ ad : Addr, l = [] → (Conv.bytesToString (.slice (some ad) l.length c)).run P w = .ok (.string ⟨l.toArray⟩) w := fun ad hl => by
    subst hl
    exact (run_bytesToString w ad 0 c [] (by simp [loadCells, loadCellsFrom])).trans rfl
  by_cases hl : l = []
  · cases a with
    | none => subst hl; simp [Conv.bytesToString]; rfl
    | some ad => exact h0 ad hl
  · obtain ⟨b, off, rfl, hcell⟩ := hc hl
    have hld := run_loadCells_list (P := P) (w := w) ⟨b, off, none⟩ (l.flatMap u8T.enc) (fun j v hv => by rw [Addr.add_lit]; exact hcell j v hv)
    rw [flen, show u8T.k = 1 from rfl, Nat.mul_one] at hld
    have he2 : ∀ l : List UInt8, l.flatMap u8T.enc = (l.map fun b => (b.toNat : Int)).map (Value.int .u8) := fun l => by
      induction l with
      | nil => rfl
      | cons x l ih => rw [List.flatMap_cons, ih]; rfl
    rw [he2] at hld
    refine (run_bytesToString w _ _ c _ hld).trans ?_
    congr 2
    have h3 : ∀ (l : List UInt8) (s : List UInt8), (l.map fun b => (b.toNat : Int)).foldl (fun (r : ByteArray) n => r.push (UInt8.ofNat n.toNat)) ⟨s.toArray⟩ = ⟨(s ++ l).toArray⟩ := fun l => by
      induction l with
      | nil => intro s; simp
      | cons x l ih =>
        intro s
        rw [List.map_cons, List.foldl_cons]
        have : (⟨s.toArray⟩ : ByteArray).push (UInt8.ofNat ((x.toNat : Int)).toNat) = ⟨(s ++ [x]).toArray⟩ := by
          simp [ByteArray.push]
        rw [this, ih]; simp
    exact h3 l []
theorem ay_conv_bytes {s d e : TypeId} {x : Operand} {l : List UInt8} (ho : o.op = .convert s d x) (hs' : P.underlying s = some (.slice e)) (he : P.underlying e = some (.int .u8)) (hd : P.underlying d = some .string) (hx : Opd T0 fr x (slA u8T l)) : AY P T0 ops o fr M (SA l) := ay_of fun w0 G F a' w hs hf' => by
  obtain ⟨ad, n, cap, h1, h2, _, _, _, h3⟩ := (hx.use (o := o) (ops := ops) (by simp [ho, Op.operands]) hs.tab hf').sl
  subst h2
  refine ⟨.string ⟨l.toArray⟩, ?_, Rep.va _ _⟩
  have h4 := run_bytesL (P := P) w s d e ad cap l hs' he hd fun hl => let ⟨b, off, h5, h6⟩ := h3 hl; ⟨b, off, h5, fun j v hv => hs.imm _ _ _ (h6 j v hv)⟩
  simp only [execOp, ho, h1, Sem.run_bind, h4, Result.andThen_ok, Sem.run_pure]
end
end Go.Proofs.YtplabpjkkcillaaDoor
