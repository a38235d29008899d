/- How a grid that is handed in is read. No condition. -/
import Derived.Test.YthlikicgikoilaaDoorC0
namespace Go.Proofs.YthlikicgikoilaaDoor
set_option linter.unusedSimpArgs false
set_option linter.unusedVariables false
set_option maxHeartbeats 4000000
open Go.ChangeShapes Go.WideShapes Go.ChangeAt Go.RowKit
set_option maxRecDepth 100000
section
variable {H : Type} {enc : TypeId × Value → H} {P : Program} {w : World} {α : Type} {T : Ty α} {ok : α → Prop} {e t : TypeId} {d : DataW H} {ps : List MemPlace}
theorem rd_sl (r : Rd P T e ok) (ht : P.underlying t = some (.slice e)) {fuel : Nat} {cs : List Value} (hf : DataW.trod enc P w 0 (fun _ => true) true fuel t cs = some (d, ps)) : ∃ v, cs = [v] ∧ ∃ l : List α, Rep (initG w) (slA T l) v ∧ ∀ a ∈ l, ok a := by
  rcases DataW.trod_slice ht hf with ⟨h1, _⟩ | ⟨a', len', cap', elems, rest, n, _, h1, _, _, hl, hm, hlen, hel, _, _⟩
  · subst h1
    exact ⟨_, rfl, [], .of ⟨none, 0, 0, rfl, rfl, Nat.le_refl _, Nat.zero_le _, fun _ => rfl, fun h => absurd rfl h⟩, fun _ h => by simp at h⟩
  · subst h1
    obtain ⟨b, off, s⟩ := a'
    have one : ∀ i, i < len' → ∃ x, ok x ∧ ∃ cs, w.cells? 0 ((⟨b, off, s⟩ : Addr).add (i * T.k)) T.k = some cs ∧ cs = T.enc x := fun i hi => by
      have h2 := hel i hi
      rw [r.cells] at h2
      have h3 : ∃ y, elems[i]? = some y := ⟨elems[i], List.getElem?_eq_getElem (by omega)⟩
      obtain ⟨y, hy⟩ := h3
      rw [hy] at h2
      obtain ⟨cs, h4, h5⟩ := Option.bind_eq_some_iff.1 h2
      obtain ⟨x, h6, h7⟩ := r.of enc w _ _ _ _ _ h5
      exact ⟨x, h7, cs, h4, h6⟩
    obtain ⟨l, hll, hp⟩ := exists_list len' one
    refine ⟨_, rfl, l, .of ⟨some ⟨b, off, s⟩, len', cap', rfl, hll.symm, hl, hm, fun h => by simp at h, fun hne => ?_⟩, fun x hx => ?_⟩
    · have hpos : 0 < len' := by rw [← hll]; exact List.length_pos_iff.2 hne
      have hs : s = none := by
        obtain ⟨x, _, cs, h4, _⟩ := one 0 hpos
        rw [Nat.zero_mul] at h4
        exact (cells_at h4 r.pos (.inr (.inr rfl))).1 rfl
      subst hs
      refine ⟨b, off, rfl, fun j v hv => ?_⟩
      obtain ⟨i, q, x, h1, h2, h3, h4⟩ := split_at T l j v hv
      obtain ⟨_, cs, h5, rfl⟩ := hp i x h3
      have := (cells_at h5 r.pos (.inr (.inl rfl))).2 q v h4
      rw [h1]
      show w.cell? ⟨b, off + (i * T.k + q), none⟩ = some v
      rw [← Nat.add_assoc]; exact this
    · obtain ⟨i, hi⟩ := List.getElem?_of_mem hx
      exact (hp i x hi).1
end
theorem rd_grid {H : Type} {enc : TypeId × Value → H} {W : World} {bs : Nat} {v : Value} {d : DataW H} {ps : List MemPlace} (hv : Value.okWide Tryd.prog W .any bs 24 v) (h : DataW.Trod enc Tryd.prog W 0 (fun _ => true) true 24 v d ps) :
    ∃ (a b : Int) (l : List Cell), Rep (initG W) (gridA a b l) v := by
  obtain ⟨cs, rfl, _⟩ := okWide_struct us_grid hv
  obtain ⟨fuel, hf⟩ := h
  have hf0 : DataW.trod enc Tryd.prog W 0 (fun _ => true) true fuel 24 cs.toList = some (d, ps) := hf
  obtain ⟨xs, n, _, _, hl, hn, hff⟩ := DataW.trod_struct us_grid hf0
  have hl2 : cs.toList.length = 3 := hl.trans (by kernel_rfl)
  obtain ⟨a, b, c, habc⟩ : ∃ a b c, cs.toList = [a, b, c] := by
    match cs.toList, hl2 with
    | [a, b, c], _ => exact ⟨a, b, c, rfl⟩
  have hn2 : xs.length = 3 := hn
  obtain ⟨x0, x1, x2, rfl⟩ : ∃ a b c, xs = [a, b, c] := by
    match xs, hn2 with
    | [a, b, c], _ => exact ⟨a, b, c, rfl⟩
  rw [habc] at hff
  have c1 : Tryd.prog.cellsOf 3 = 1 := by kernel_rfl
  have c2 : Tryd.prog.cellsOf 22 = 1 := by kernel_rfl
  have h0 : DataW.trod enc Tryd.prog W 0 (fun _ => true) true n 3 (([a, b, c].drop 0).take (Tryd.prog.cellsOf 3)) = some x0 := hff 0 _ rfl
  have h1 : DataW.trod enc Tryd.prog W 0 (fun _ => true) true n 3 (([a, b, c].drop 1).take (Tryd.prog.cellsOf 3)) = some x1 := hff 1 _ rfl
  have h2 : DataW.trod enc Tryd.prog W 0 (fun _ => true) true n 22 (([a, b, c].drop 2).take (Tryd.prog.cellsOf 22)) = some x2 := hff 2 _ rfl
  rw [c1] at h0 h1
  rw [c2] at h2
  obtain ⟨n0, e0, _, _⟩ := DataW.trod_int Tryd.underlying3 h0
  obtain ⟨n1, e1, _, _⟩ := DataW.trod_int Tryd.underlying3 h1
  obtain ⟨y0, y1⟩ := x2
  obtain ⟨v2, e2, l, r2, _⟩ := rd_sl rd_cell un_cells h2
  simp only [List.drop_zero, List.take_succ_cons, List.take_zero, List.drop_succ_cons, List.cons.injEq, and_true] at e0 e1 e2
  refine ⟨n0, n1, l, .of ⟨[a, b, c], congrArg Value.agg (by apply Array.ext'; exact habc), ?_, ?_, ?_, trivial⟩⟩
  · rw [e0]; exact Rep.va _ _
  · rw [e1]; exact Rep.va _ _
  · rw [e2]; exact r2
end Go.Proofs.YthlikicgikoilaaDoor
