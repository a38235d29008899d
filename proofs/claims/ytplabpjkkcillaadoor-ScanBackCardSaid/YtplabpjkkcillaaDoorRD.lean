/- How a value that is handed in is read: numbers, truth values, strings, slices, structs of these. No condition. -/
import Derived.Test.YtplabpjkkcillaaDoorA8
namespace Go.Proofs.YtplabpjkkcillaaDoor
set_option linter.unusedSimpArgs false
set_option linter.unusedVariables false
set_option linter.unusedSectionVars false
set_option maxHeartbeats 4000000
open Go Go.RowKit Go.ChangeShapes Go.WideShapes
/-- what the reader finds at cells of type t reads as F says of one of these things -/
structure RdF (P : Program) (t : TypeId) {β : Type} (F : β → List AV) (ok : β → Prop) : Prop where
  of : ∀ {H : Type} (enc : TypeId × Value → H) (w : World) (fuel : Nat) (cs : List Value) (x : DataW H × List MemPlace), DataW.trod enc P w 0 (fun _ => true) true fuel t cs = some x → ∃ b, AllRep (initG w) (F b) cs ∧ ok b
section
variable {P : Program} {t e : TypeId} {α β γ : Type} {T : Ty α}
theorem rdf_int {k : IntKind} (ht : P.underlying t = some (.int k)) : RdF P t (fun n : Int => [vA (.int k n)]) (fun n => (Lit.int k n).wf = true) := ⟨fun enc w fuel cs x h => by
  obtain ⟨n, rfl, _, hw⟩ := DataW.trod_int ht h
  exact ⟨n, ⟨Rep.va _ _, trivial⟩, hw⟩⟩
theorem rdf_bool (ht : P.underlying t = some .bool) : RdF P t (fun b : Bool => [B b]) (fun _ => True) := ⟨fun enc w fuel cs x h => by
  obtain ⟨n, rfl, _⟩ := DataW.trod_bool ht h
  exact ⟨n, ⟨Rep.va _ _, trivial⟩, trivial⟩⟩
theorem rdf_str (ht : P.underlying t = some .string) : RdF P t (fun l : List UInt8 => [vA (.string ⟨l.toArray⟩)]) (fun l => l.length ≤ maxLen) := ⟨fun enc w fuel cs x h => by
  obtain ⟨s, rfl, _, hs⟩ := DataW.trod_string ht h
  exact ⟨s.data.toList, ⟨Rep.va _ (.string s), trivial⟩, (show s.data.toList.length ≤ maxLen by rw [Array.length_toList]; exact hs)⟩⟩
theorem rdf_of {ok : α → Prop} (r : Rd P T t ok) : RdF P t (fun a : α => (T.enc a).map vA) ok := ⟨fun enc w fuel cs x h => by
  obtain ⟨a, rfl, ha⟩ := r.of enc w _ _ fuel cs x h
  exact ⟨a, allRep_va _ _, ha⟩⟩
theorem rdf_sl {ok : α → Prop} (r : Rd P T e ok) (ht : P.underlying t = some (.slice e)) : RdF P t (fun l : List α => [slA T l]) (fun l => ∀ a ∈ l, ok a) := ⟨fun enc w fuel cs x hf => by
  obtain ⟨d, ps⟩ := x
  rcases DataW.trod_slice ht hf with ⟨h1, _⟩ | ⟨a', len', cap', elems, rest, n, _, h1, _, _, hl, hm, hlen, hel, _, _⟩
  · subst h1
    exact ⟨[], ⟨.of ⟨none, 0, 0, rfl, rfl, Nat.le_refl _, Nat.zero_le _, fun _ => rfl, fun h => absurd rfl h⟩, trivial⟩, fun _ h => by simp at h⟩
  · subst h1
    obtain ⟨b, off, s⟩ := a'
    have one : ∀ i, i < len' → ∃ x, ok x ∧ ∃ cs, w.cells? 0 ((⟨b, off, s⟩ : Addr).add (i * T.k)) T.k = some cs ∧ cs = T.enc x := fun i hi => by
      have h2 := hel i hi
      rw [r.cells] at h2
      have h3 : ∃ y, elems[i]? = some y := ⟨elems[i], List.getElem?_eq_getElem (by omega)⟩
      obtain ⟨y, hy⟩ := h3
      rw [hy] at h2
      obtain ⟨cs, h4, h5⟩ := Option.bind_eq_some_iff.1 h2
      obtain ⟨x, h6, h7⟩ := r.of enc w _ _ _ _ _ h5
      exact ⟨x, h7, cs, h4, h6⟩
    obtain ⟨l, hll, hp⟩ := exists_list len' one
    refine ⟨l, ⟨.of ⟨some ⟨b, off, s⟩, len', cap', rfl, hll.symm, hl, hm, fun h => by simp at h, fun hne => ?_⟩, trivial⟩, fun x hx => ?_⟩
    · have hpos : 0 < len' := by rw [← hll]; exact List.length_pos_iff.2 hne
      have hs : s = none := by
        obtain ⟨x, _, cs, h4, _⟩ := one 0 hpos
        rw [Nat.zero_mul] at h4
        exact (cells_at h4 r.pos (.inr (.inr rfl))).1 rfl
      subst hs
      refine ⟨b, off, rfl, fun j v hv => ?_⟩
      obtain ⟨i, q, x, h1, h2, h3, h4⟩ := split_at T l j v hv
      obtain ⟨_, cs, h5, rfl⟩ := hp i x h3
      have := (cells_at h5 r.pos (.inr (.inl rfl))).2 q v h4
      rw [h1]
      show w.cell? ⟨b, off + (i * T.k + q), none⟩ = some v
      rw [← Nat.add_assoc]; exact this
    · obtain ⟨i, hi⟩ := List.getElem?_of_mem hx
      exact (hp i x hi).1⟩
/-- fields, from a place on -/
def sumC (P : Program) : List Field → Nat
  | [] => 0
  | f :: l => P.cellsOf f.type + sumC P l
structure RdL (P : Program) (o : Nat) (fl : List Field) (F : β → List AV) (ok : β → Prop) : Prop where
  of : ∀ {H : Type} (enc : TypeId × Value → H) (w : World) (n : Nat) (cs : List Value), cs.length = o + sumC P fl →
  (∀ (i : Nat) f, fl[i]? = some f → ∃ x, DataW.trod enc P w 0 (fun _ => true) true n f.type ((cs.drop f.offset).take (P.cellsOf f.type)) = some x) → ∃ b, AllRep (initG w) (F b) (cs.drop o) ∧ ok b
theorem rdl_one {o : Nat} {f : Field} {F : β → List AV} {ok : β → Prop} (r : RdF P f.type F ok) (h : f.offset = o) : RdL P o [f] F ok := ⟨fun enc w n cs hl hf => by
  obtain ⟨x, hx⟩ := hf 0 f rfl
  rw [h, List.take_of_length_le (by rw [List.length_drop]; simp only [sumC] at hl; omega)] at hx
  exact r.of enc w n _ x hx⟩
theorem rdl_cons {o : Nat} {f : Field} {fl : List Field} {F : β → List AV} {G : γ → List AV} {ok : β → Prop} {ok' : γ → Prop} (r : RdF P f.type F ok) (h : f.offset = o) (k : RdL P (o + P.cellsOf f.type) fl G ok') : RdL P o (f :: fl) (fun p : β × γ => F p.1 ++ G p.2) (fun p => ok p.1 ∧ ok' p.2) := ⟨fun enc w n cs hl hf => by
  obtain ⟨x, hx⟩ := hf 0 f rfl
  rw [h] at hx
  obtain ⟨b, b1, b2⟩ := r.of enc w n _ x hx
  obtain ⟨c, c1, c2⟩ := k.of enc w n cs (by simp only [sumC] at hl; omega) (fun i g hg => hf (i + 1) g hg)
  refine ⟨(b, c), ?_, b2, c2⟩
  have e : cs.drop o = (cs.drop o).take (P.cellsOf f.type) ++ cs.drop (o + P.cellsOf f.type) := by rw [← List.drop_drop, List.take_append_drop]
  rw [e]; exact b1.append c1⟩
theorem rdf_struct {fs : Array Field} {F : β → List AV} {ok : β → Prop} (ht : P.underlying t = some (.struct fs)) (hc : P.cellsOf t = sumC P fs.toList) (k : RdL P 0 fs.toList F ok) : RdF P t F ok := ⟨fun enc w fuel cs x h => by
  obtain ⟨xs, n, _, _, hl, hn, hf⟩ := DataW.trod_struct ht h
  obtain ⟨b, b1, b2⟩ := k.of enc w n cs (by rw [Nat.zero_add, ← hc]; exact hl) (fun i f hi => by
    have h1 : i < fs.toList.length := (List.getElem?_eq_some_iff.1 hi).1
    have h2 : i < xs.length := by rw [hn]; simpa using h1
    exact ⟨xs[i], by rw [hf i f (by simpa using hi)]; exact List.getElem?_eq_getElem h2⟩)
  exact ⟨b, by simpa using b1, b2⟩⟩
theorem RdF.any {F : β → List AV} {ok : β → Prop} (h : RdF P t F ok) : RdF P t F (fun _ => True) := ⟨fun enc w fuel cs x hx => let ⟨b, h1, _⟩ := h.of enc w fuel cs x hx; ⟨b, h1, trivial⟩⟩
theorem RdF.imp {F : β → List AV} {ok ok' : β → Prop} (h : RdF P t F ok) (k : ∀ b, ok b → ok' b) : RdF P t F ok' := ⟨fun enc w fuel cs x hx => let ⟨b, h1, h2⟩ := h.of enc w fuel cs x hx; ⟨b, h1, k b h2⟩⟩
variable {H : Type} {enc : TypeId × Value → H} {w : World} {bs : Nat} {v : Value} {d : DataW H} {ps : List MemPlace}
theorem rd_agg {fs : Array Field} {F : β → List AV} {ok : β → Prop} (r : RdF P t F ok) (ht : P.underlying t = some (.struct fs)) (hv : Value.okWide P w .any bs t v) (h : DataW.Trod enc P w 0 (fun _ => true) true t v d ps) : ∃ b : β, Rep (initG w) (aggA (F b)) v ∧ ok b := by
  obtain ⟨cs, rfl, _⟩ := okWide_struct ht hv
  obtain ⟨fuel, hf⟩ := h
  obtain ⟨b, h1, h2⟩ := r.of enc w _ _ _ hf
  exact ⟨b, .of ⟨cs.toList, by simp, h1⟩, h2⟩
theorem rd_strv (ht : P.underlying t = some .string) (hv : Value.okWide P w .any bs t v) (h : DataW.Trod enc P w 0 (fun _ => true) true t v d ps) : ∃ l : List UInt8, Rep (initG w) (vA (.string ⟨l.toArray⟩)) v ∧ l.length ≤ maxLen := by
  obtain ⟨s, rfl⟩ := okWide_string ht hv
  obtain ⟨fuel, hf⟩ := h
  obtain ⟨s', h1, _, h3⟩ := DataW.trod_string ht hf
  simp [Value.cells] at h1
  subst h1
  exact ⟨s.data.toList, Rep.va _ (.string s), by rw [Array.length_toList]; exact h3⟩
end
theorem bnd64 {n : Int} (h : (Lit.int .i64 n).wf = true) : -9223372036854775808 ≤ n ∧ n ≤ 9223372036854775807 := by
  simp only [Lit.wf, Bool.and_eq_true, decide_eq_true_eq, IntKind.min, IntKind.max, IntKind.bits, IntKind.signed] at h
  simp at h; omega
theorem bnd32 {n : Int} (h : (Lit.int .i32 n).wf = true) : -2147483648 ≤ n ∧ n ≤ 2147483647 := by
  simp only [Lit.wf, Bool.and_eq_true, decide_eq_true_eq, IntKind.min, IntKind.max, IntKind.bits, IntKind.signed] at h
  simp at h; omega
end Go.Proofs.YtplabpjkkcillaaDoor
