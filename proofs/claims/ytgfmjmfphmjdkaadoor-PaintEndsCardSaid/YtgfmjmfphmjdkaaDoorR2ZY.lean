/- Several texts in one: see the comment ahead of each. No condition. -/
import Derived.Test.YtgfmjmfphmjdkaaDoorR2ZA
import Derived.WideKeyArgs
import Derived.OpenShut
import Derived.Test.YtgfmjmfphmjdkaaDoorR2ZV
import Derived.Test.YtgfmjmfphmjdkaaDoorCards
import Derived.Test.YtgfmjmfphmjdkaaDoorTie
import Derived.WalkKit
import Derived.ProofKit
import Derived.Deep.DeepHandedRow
import Derived.LaidSub
import Derived.Lib.LaidU8
import Derived.Test.YtgfmjmfphmjdkaaDoorR2ZM
import Derived.Test.YtgfmjmfphmjdkaaDoorR2B1
/- How a law's arguments are read, and its answer true, told once. No condition. -/
namespace Go.Proofs.YtgfmjmfphmjdkaaDoor
set_option linter.unusedSimpArgs false
set_option linter.unusedVariables false
set_option linter.unusedSectionVars false
set_option maxHeartbeats 4000000
section
open Go Go.RowKit Go.ChangeShapes Go.WideShapes
def initG (w : World) : Gh := fun b o => w.cell? ⟨b, o, none⟩
theorem st_init {T0 : Gh} {w : World} (h : Gh.le T0 (initG w)) : St T0 w (initG w) [] w :=
  ⟨Below.refl _ _, h, fun _ _ _ h => h, fun _ hm => by simp at hm, fun _ hm => by simp at hm, by simp⟩
/-- what the reader finds at cells of type e is one of these things -/
structure Rd {α : Type} (P : Program) (T : Ty α) (e : TypeId) (ok : α → Prop) : Prop where
  cells : P.cellsOf e = T.k
  pos : 0 < T.k
  of : ∀ {H : Type} (enc : TypeId × Value → H) (w : World) (spare : Nat → Bool) (held : Bool) (fuel : Nat) (cs : List Value) (x : DataW H × List MemPlace), DataW.trod enc P w 0 spare held fuel e cs = some x → ∃ a, cs = T.enc a ∧ ok a
theorem cells_at {w : World} {b off n i : Nat} {cs : List Value} {s : Option Nat} (h : w.cells? 0 ((⟨b, off, s⟩ : Addr).add i) n = some cs) (hn : 0 < n) (hi : 0 < i ∨ s = none ∨ i = 0) : (i = 0 → s = none) ∧ ∀ j v, cs[j]? = some v → w.cell? ⟨b, off + i + j, none⟩ = some v := by
  unfold World.cells? at h
  rw [if_pos (Nat.zero_le _)] at h
  have hlen : cs.length = n := by simpa using mapM_some_length h
  have each : ∀ j, j < n → w.cell? (((⟨b, off, s⟩ : Addr).add i).add j) = cs[j]? := fun j hj => mapM_some_get h j j (by simp [hj])
  have hs : i = 0 → s = none := fun hi0 => by
    have h0 := each 0 hn
    subst hi0
    have hc : ∃ v, cs[0]? = some v := ⟨cs[0], List.getElem?_eq_getElem (by omega)⟩
    obtain ⟨v, hv⟩ := hc
    rw [hv] at h0
    simp only [Addr.add, if_true] at h0
    unfold World.cell? at h0
    split at h0
    · cases s with
      | none => rfl
      | some k => simp at h0
    · cases h0
  refine ⟨hs, fun j v hv => ?_⟩
  have hj : j < n := by rw [← hlen]; exact (List.getElem?_eq_some_iff.1 hv).1
  rw [← hv, ← each j hj]
  by_cases hi0 : i = 0
  · subst hi0
    rw [hs rfl]
    simp only [Addr.add, if_true, Nat.add_zero]
    split
    · rename_i h; subst h; rfl
    · rfl
  · have e1 : (⟨b, off, s⟩ : Addr).add i = ⟨b, off + i, none⟩ := by simp [Addr.add, hi0]
    rw [e1, add_plain]
section
variable {H : Type} {enc : TypeId × Value → H} {P : Program} {w : World} {bs : Nat} {α : Type} {T : Ty α} {ok : α → Prop} {e t : TypeId} {v : Value} {d : DataW H} {ps : List MemPlace}
theorem exists_list {p : Nat → α → Prop} : ∀ n : Nat, (∀ i, i < n → ∃ a, p i a) → ∃ l : List α, l.length = n ∧ ∀ i a, l[i]? = some a → p i a
  | 0, _ => ⟨[], rfl, fun i a h => by simp at h⟩
  | n + 1, h => by
    obtain ⟨l, hl, hp⟩ := exists_list n (fun i hi => h i (by omega))
    obtain ⟨a, ha⟩ := h n (by omega)
    refine ⟨l ++ [a], by simp [hl], fun i x hx => ?_⟩
    by_cases hi : i < l.length
    · rw [List.getElem?_append_left hi] at hx; exact hp i x hx
    · rw [List.getElem?_append_right (by omega)] at hx
      have h0 : i - l.length = 0 := by
        have := (List.getElem?_eq_some_iff.1 hx).1
        simp at this; omega
      rw [h0] at hx
      have hx' : a = x := by simpa using hx
      have hin : i = n := by omega
      rw [hin, ← hx']; exact ha
theorem split_at (T : Ty α) : ∀ (l : List α) (j : Nat) (v : Value), (l.flatMap T.enc)[j]? = some v → ∃ i r x, j = i * T.k + r ∧ r < T.k ∧ l[i]? = some x ∧ (T.enc x)[r]? = some v
  | [], j, v, h => by simp at h
  | x :: l, j, v, h => by
    rw [List.flatMap_cons] at h
    by_cases hj : j < T.k
    · rw [List.getElem?_append_left (by rw [T.len]; exact hj)] at h
      exact ⟨0, j, x, by simp, hj, rfl, h⟩
    · rw [List.getElem?_append_right (by rw [T.len]; omega), T.len] at h
      obtain ⟨i, r, y, h1, h2, h3, h4⟩ := split_at T l (j - T.k) v h
      exact ⟨i + 1, r, y, by rw [Nat.add_mul]; omega, h2, by simpa using h3, h4⟩
/-! ### the answer true -/
theorem same_of_below {W W' : World} (h : Below W.heap.size W W') (p : MemPlace) (hp : p.block < W.heap.size) : W.sameAt W' p := by
  cases p with
  | cell b off => exact World.cell?_of_block (w := W) (h.block b hp)
  | map b => exact h.block b hp
theorem trodAll_stays {W W' : World} {sp : Nat → Bool} (hl : laidOutB P = true) (hB : Below W.heap.size W W') : ∀ {ts : List TypeId} {vs : List Value} {ds : List (DataW H)} {ps : List MemPlace},
    (∀ t ∈ ts, P.readableRec t = true ∧ t < P.types.size) → DataW.TrodAll enc P W 0 (fun _ => true) true ts vs ds ps → (∀ p ∈ ps, p.block < W.heap.size ∧ sp p.block = true) → DataW.TrodAll enc P W' 0 sp true ts vs ds ps
  | [], _, _, _, _, h, _ => by
    obtain ⟨rfl, rfl, rfl⟩ := trodAll_nil h
    exact rfl
  | t :: ts, _, _, _, hp, h, hs => by
    obtain ⟨v, vs1, d, ds1, a, b, rfl, rfl, rfl, h1, h2⟩ := trodAll_cons h
    exact ⟨a, b, WideElems.Trod_stays hl (hp t (by simp)).1 (hp t (by simp)).2 h1 (fun p hp' => same_of_below hB p (hs p (by simp [hp'])).1) (fun p hp' => (hs p (by simp [hp'])).2),
      trodAll_stays hl hB (fun t ht => hp t (by simp [ht])) h2 (fun p hp' => hs p (by simp [hp'])), rfl⟩
theorem post_true {f : Func} {s : ChangeSpec} {apart fresh handsOn again : Bool} {W W' : World} {args : Array Value} {ds gs : List (DataW H)} {before : List MemPlace} {b : TypeId}
    (hl : laidOutB P = true) (hp : ∀ t ∈ f.params.toList, P.readableRec t = true ∧ t < P.types.size) (hvars : s.vars = []) (hr : f.resultTypes = #[b]) (hb : P.underlying b = some .bool)
    (hW : DataW.Whole enc P f.params.toList s.vars apart W args.toList ds gs before) (hfn : s.fn H (ds ++ gs) = { results := [.lit (.bool true)], args := ds }) (hB : Below W.heap.size W W') :
    s.post enc P f apart fresh handsOn again W args (.bool true) W' := by
  have hlt := hW.lt
  have hW0 := hW
  obtain ⟨p, q, hA, hV, he, hz, hn⟩ := hW
  rw [hvars] at hV
  obtain ⟨rfl, rfl⟩ := trodVars_none hV
  rw [List.append_nil] at he
  subst he
  have hres : ∀ (b : Nat) (sp : Nat → Bool) (hd : Bool), DataW.TrodAll enc P W' b sp hd f.resultTypes.toList ((Value.bool true).resultList f.resultTypes.size) [.lit (.bool true)] [] := fun b0 sp hd => by
    rw [hr]
    exact ⟨[], [], ⟨1, by simp [DataW.trod, Value.cells, hb]⟩, rfl, rfl⟩
  have hargs : ∀ sp : Nat → Bool, (∀ p ∈ before, sp p.block = true) → DataW.TrodAll enc P W' 0 sp true f.params.toList args.toList ds before := fun sp hsp => trodAll_stays hl hB hp hA fun p hp => ⟨hlt p hp, hsp p hp⟩
  refine ⟨ds, [], before, [], before, [], hW0, ?_, ?_, ?_, World.keptBut_mono (fun p hp => ⟨hp, .inr (.inl hp)⟩) (hB.frame (· ∈ before)), fun _ => ⟨?_, ?_⟩⟩
  · rw [hfn]; exact hres _ _ _
  · rw [hfn]; exact hargs _ fun p hp => by simpa using hlt p hp
  · rw [hfn, hvars]; exact rfl
  · exact ok_one hr rfl (okWide_bool_mk hb true)
  · refine ⟨_, [], before, ⟨before, [], trodAll_append (hargs _ fun _ _ => rfl) (hres 0 _ true), ?_, by simp, fun b off hbo => ?_, hn⟩, fun p hp _ => hp⟩
    · rw [hvars]; exact rfl
    · exact (hB.frozen (p := ⟨b, off, none⟩) (hlt _ hbo)).trans (hz b off hbo)
theorem ans_true {T0 : Gh} {f : Func} {s : ChangeSpec} {apart fresh handsOn again : Bool} {W W' : World} {args : Array Value} {ds gs : List (DataW H)} {before : List MemPlace} {b : TypeId} {ev : Ending} {G : Gh}
    (hl : laidOutB P = true) (hp : ∀ t ∈ f.params.toList, P.readableRec t = true ∧ t < P.types.size) (hvars : s.vars = []) (hr : f.resultTypes = #[b]) (hb : P.underlying b = some .bool)
    (hW : DataW.Whole enc P f.params.toList s.vars apart W args.toList ds gs before) (hfn : s.fn H (ds ++ gs) = { results := [.lit (.bool true)], args := ds })
    (h : (∃ u A M' G', ev = .returned u ∧ (Sub A (B true) ∧ M' = []) ∧ Rep G' A u ∧ Gh.le G G' ∧ St T0 W G' (M' ++ []) W') ∨ (∃ c M' G', ev = .panicked c ∧ False ∧ Gh.le G G' ∧ St T0 W G' (M' ++ []) W')) :
    ∃ v, ev = .returned v ∧ s.post enc P f apart fresh handsOn again W args v W' := by
  rcases h with ⟨u, A, M', G', rfl, ⟨hA, rfl⟩, hr', _, hs⟩ | ⟨_, _, _, _, hf, _⟩
  · have hu := (hA _ _ hr').eq
    subst hu
    exact ⟨_, rfl, post_true hl hp hvars hr hb hW hfn hs.below⟩
  · exact hf.elim
end
end
/- How a value that is handed in is read: numbers, truth values, strings, slices, structs of these. No condition. -/
section
open Go Go.RowKit Go.ChangeShapes Go.WideShapes
/-- what the reader finds at cells of type t reads as F says of one of these things -/
structure RdF (P : Program) (t : TypeId) {β : Type} (F : β → List AV) (ok : β → Prop) : Prop where
  of : ∀ {H : Type} (enc : TypeId × Value → H) (w : World) (fuel : Nat) (cs : List Value) (x : DataW H × List MemPlace), DataW.trod enc P w 0 (fun _ => true) true fuel t cs = some x → ∃ b, AllRep (initG w) (F b) cs ∧ ok b
section
variable {P : Program} {t e : TypeId} {α β γ : Type} {T : Ty α}
theorem rdf_int {k : IntKind} (ht : P.underlying t = some (.int k)) : RdF P t (fun n : Int => [vA (.int k n)]) (fun n => (Lit.int k n).wf = true) := ⟨fun enc w fuel cs x h => by
  obtain ⟨n, rfl, _, hw⟩ := DataW.trod_int ht h
  exact ⟨n, ⟨Rep.va _ _, trivial⟩, hw⟩⟩
theorem rdf_bool (ht : P.underlying t = some .bool) : RdF P t (fun b : Bool => [B b]) (fun _ => True) := ⟨fun enc w fuel cs x h => by
  obtain ⟨n, rfl, _⟩ := DataW.trod_bool ht h
  exact ⟨n, ⟨Rep.va _ _, trivial⟩, trivial⟩⟩
theorem rdf_sl {ok : α → Prop} (r : Rd P T e ok) (ht : P.underlying t = some (.slice e)) : RdF P t (fun l : List α => [slA T l]) (fun l => ∀ a ∈ l, ok a) := ⟨fun enc w fuel cs x hf => by
  obtain ⟨d, ps⟩ := x
  rcases DataW.trod_slice ht hf with ⟨h1, _⟩ | ⟨a', len', cap', elems, rest, n, _, h1, _, _, hl, hm, hlen, hel, _, _⟩
  · subst h1
    exact ⟨[], ⟨.of ⟨none, 0, 0, rfl, rfl, Nat.le_refl _, Nat.zero_le _, fun _ => rfl, fun h => absurd rfl h⟩, trivial⟩, fun _ h => by simp at h⟩
  · subst h1
    obtain ⟨b, off, s⟩ := a'
    have one : ∀ i, i < len' → ∃ x, ok x ∧ ∃ cs, w.cells? 0 ((⟨b, off, s⟩ : Addr).add (i * T.k)) T.k = some cs ∧ cs = T.enc x := fun i hi => by
      have h2 := hel i hi
      rw [r.cells] at h2
      have h3 : ∃ y, elems[i]? = some y := ⟨elems[i], List.getElem?_eq_getElem (by omega)⟩
      obtain ⟨y, hy⟩ := h3
      rw [hy] at h2
      obtain ⟨cs, h4, h5⟩ := Option.bind_eq_some_iff.1 h2
      obtain ⟨x, h6, h7⟩ := r.of enc w _ _ _ _ _ h5
      exact ⟨x, h7, cs, h4, h6⟩
    obtain ⟨l, hll, hp⟩ := exists_list len' one
    refine ⟨l, ⟨.of ⟨some ⟨b, off, s⟩, len', cap', rfl, hll.symm, hl, hm, fun h => by simp at h, fun hne => ?_⟩, trivial⟩, fun x hx => ?_⟩
    · have hpos : 0 < len' := by rw [← hll]; exact List.length_pos_iff.2 hne
      have hs : s = none := by
        obtain ⟨x, _, cs, h4, _⟩ := one 0 hpos
        rw [Nat.zero_mul] at h4
        exact (cells_at h4 r.pos (.inr (.inr rfl))).1 rfl
      subst hs
      refine ⟨b, off, rfl, fun j v hv => ?_⟩
      obtain ⟨i, q, x, h1, h2, h3, h4⟩ := split_at T l j v hv
      obtain ⟨_, cs, h5, rfl⟩ := hp i x h3
      have := (cells_at h5 r.pos (.inr (.inl rfl))).2 q v h4
      rw [h1]
      show w.cell? ⟨b, off + (i * T.k + q), none⟩ = some v
      rw [← Nat.add_assoc]; exact this
    · obtain ⟨i, hi⟩ := List.getElem?_of_mem hx
      exact (hp i x hi).1⟩
/-- fields, from a place on -/
def sumC (P : Program) : List Field → Nat
  | [] => 0
  | f :: l => P.cellsOf f.type + sumC P l
structure RdL (P : Program) (o : Nat) (fl : List Field) (F : β → List AV) (ok : β → Prop) : Prop where
  of : ∀ {H : Type} (enc : TypeId × Value → H) (w : World) (n : Nat) (cs : List Value), cs.length = o + sumC P fl →
  (∀ (i : Nat) f, fl[i]? = some f → ∃ x, DataW.trod enc P w 0 (fun _ => true) true n f.type ((cs.drop f.offset).take (P.cellsOf f.type)) = some x) → ∃ b, AllRep (initG w) (F b) (cs.drop o) ∧ ok b
theorem rdl_one {o : Nat} {f : Field} {F : β → List AV} {ok : β → Prop} (r : RdF P f.type F ok) (h : f.offset = o) : RdL P o [f] F ok := ⟨fun enc w n cs hl hf => by
  obtain ⟨x, hx⟩ := hf 0 f rfl
  rw [h, List.take_of_length_le (by rw [List.length_drop]; simp only [sumC] at hl; omega)] at hx
  exact r.of enc w n _ x hx⟩
theorem rdl_cons {o : Nat} {f : Field} {fl : List Field} {F : β → List AV} {G : γ → List AV} {ok : β → Prop} {ok' : γ → Prop} (r : RdF P f.type F ok) (h : f.offset = o) (k : RdL P (o + P.cellsOf f.type) fl G ok') : RdL P o (f :: fl) (fun p : β × γ => F p.1 ++ G p.2) (fun p => ok p.1 ∧ ok' p.2) := ⟨fun enc w n cs hl hf => by
  obtain ⟨x, hx⟩ := hf 0 f rfl
  rw [h] at hx
  obtain ⟨b, b1, b2⟩ := r.of enc w n _ x hx
  obtain ⟨c, c1, c2⟩ := k.of enc w n cs (by simp only [sumC] at hl; omega) (fun i g hg => hf (i + 1) g hg)
  refine ⟨(b, c), ?_, b2, c2⟩
  have e : cs.drop o = (cs.drop o).take (P.cellsOf f.type) ++ cs.drop (o + P.cellsOf f.type) := by rw [← List.drop_drop, List.take_append_drop]
  rw [e]; exact b1.append c1⟩
theorem rdf_struct {fs : Array Field} {F : β → List AV} {ok : β → Prop} (ht : P.underlying t = some (.struct fs)) (hc : P.cellsOf t = sumC P fs.toList) (k : RdL P 0 fs.toList F ok) : RdF P t F ok := ⟨fun enc w fuel cs x h => by
  obtain ⟨xs, n, _, _, hl, hn, hf⟩ := DataW.trod_struct ht h
  obtain ⟨b, b1, b2⟩ := k.of enc w n cs (by rw [Nat.zero_add, ← hc]; exact hl) (fun i f hi => by
    have h1 : i < fs.toList.length := (List.getElem?_eq_some_iff.1 hi).1
    have h2 : i < xs.length := by rw [hn]; simpa using h1
    exact ⟨xs[i], by rw [hf i f (by simpa using hi)]; exact List.getElem?_eq_getElem h2⟩)
  exact ⟨b, by simpa using b1, b2⟩⟩
theorem RdF.any {F : β → List AV} {ok : β → Prop} (h : RdF P t F ok) : RdF P t F (fun _ => True) := ⟨fun enc w fuel cs x hx => let ⟨b, h1, _⟩ := h.of enc w fuel cs x hx; ⟨b, h1, trivial⟩⟩
variable {H : Type} {enc : TypeId × Value → H} {w : World} {bs : Nat} {v : Value} {d : DataW H} {ps : List MemPlace}
theorem rd_agg {fs : Array Field} {F : β → List AV} {ok : β → Prop} (r : RdF P t F ok) (ht : P.underlying t = some (.struct fs)) (hv : Value.okWide P w .any bs t v) (h : DataW.Trod enc P w 0 (fun _ => true) true t v d ps) : ∃ b : β, Rep (initG w) (aggA (F b)) v ∧ ok b := by
  obtain ⟨cs, rfl, _⟩ := okWide_struct ht hv
  obtain ⟨fuel, hf⟩ := h
  obtain ⟨b, h1, h2⟩ := r.of enc w _ _ _ hf
  exact ⟨b, .of ⟨cs.toList, by simp, h1⟩, h2⟩
end
end
/- The tables as these rows list them (signs' bytes, wide signs), how what is handed in is read, and a world that holds the tables. No condition. -/
section
open Go.ChangeShapes Go.WideShapes Go.ChangeAt Go.RowKit
set_option maxRecDepth 100000
theorem own : ownKnob Tryd.prog.godebug = none := by kernel_rfl
theorem laidOut : laidOutB Tryd.prog = true := by kernel_rfl
/-! ### readers -/
theorem rd_cell : Rd Tryd.prog cellT 42 fun c => (Lit.int .i32 c.1).wf = true ∧ (Lit.int .i64 c.2).wf = true :=
  ⟨by kernel_rfl, by decide, fun enc w sp hd fuel cs x h => by
    obtain ⟨xs, n, _, _, hl, hn, hf⟩ := DataW.trod_struct us_cell h
    have hl2 : cs.length = 2 := hl.trans (by kernel_rfl)
    obtain ⟨a, b, rfl⟩ : ∃ a b, cs = [a, b] := by
      match cs, hl2 with
      | [a, b], _ => exact ⟨a, b, rfl⟩
    have hn2 : xs.length = 2 := hn
    obtain ⟨x0, x1, rfl⟩ : ∃ a b, xs = [a, b] := by
      match xs, hn2 with
      | [a, b], _ => exact ⟨a, b, rfl⟩
    have c0 : Tryd.prog.cellsOf 21 = 1 := by kernel_rfl
    have c1 : Tryd.prog.cellsOf 3 = 1 := by kernel_rfl
    have h0 : DataW.trod enc Tryd.prog w 0 sp hd n 21 (([a, b].drop 0).take (Tryd.prog.cellsOf 21)) = some x0 := hf 0 _ rfl
    have h1 : DataW.trod enc Tryd.prog w 0 sp hd n 3 (([a, b].drop 1).take (Tryd.prog.cellsOf 3)) = some x1 := hf 1 _ rfl
    rw [c0] at h0
    rw [c1] at h1
    obtain ⟨n0, e0, _, w0⟩ := DataW.trod_int Tryd.underlying21 h0
    obtain ⟨n1, e1, _, w1⟩ := DataW.trod_int Tryd.underlying3 h1
    simp only [List.drop_zero, List.take_succ_cons, List.take_zero, List.drop_succ_cons, List.cons.injEq, and_true] at e0 e1
    exact ⟨(n0, n1), by rw [e0, e1]; rfl, w0, w1⟩⟩
theorem rdf_i64 : RdF Tryd.prog 3 (fun n : Int => [I n]) (fun n => (Lit.int .i64 n).wf = true) := rdf_int Tryd.underlying3
theorem rdf_b : RdF Tryd.prog 4 (fun b : Bool => [B b]) (fun _ => True) := rdf_bool un_bool
theorem rdf_cells : RdF Tryd.prog 25 (fun l : List Cell => [slA cellT l]) (fun _ => True) := (rdf_sl rd_cell un_cells).any
theorem rdf_grid : RdF Tryd.prog 27 (fun g : Int × Int × List Cell => [I g.1, I g.2.1, slA cellT g.2.2]) (fun _ => True) := by
  have h := rdf_struct us_grid (by kernel_rfl) (rdl_cons rdf_i64 (by kernel_rfl) (rdl_cons rdf_i64 (by kernel_rfl) (rdl_one rdf_cells (by kernel_rfl))))
  exact h.any
/-! ### the tables -/
/-- a listed variable is read -/
theorem var_reads {L : List (String × DataW Unit)} {W : World} (h : laidMetH Tryd.prog L W) {n : String} {d : DataW Unit} (hm : (n, d) ∈ L) (hd : d.handleName?.isNone = true) : Lib.VarReads Tryd.prog W n d :=
  Lib.laidMet.reads (laidMetH_iff.1 h).1 (List.mem_filter.2 ⟨hm, hd⟩)
theorem cells_u8 : Tryd.prog.cellsOf 5 = 1 := by kernel_rfl
theorem gFirst : Tryd.prog.globalNamed "unicode/utf8.first" = some 2 := by kernel_rfl
theorem gFirstT : (Tryd.prog.globals[2]?).map (·.type) = some 148 := by kernel_rfl
theorem gAcc : Tryd.prog.globalNamed "unicode/utf8.acceptRanges" = some 3 := by kernel_rfl
theorem gAccT : (Tryd.prog.globals[3]?).map (·.type) = some 151 := by kernel_rfl
theorem first_dat : Rows.laid_unicode_utf8_first = Lib.firstData := by kernel_rfl
theorem acc_dat : (Rows.laid_unicode_utf8_acceptRanges : DataW Unit) = Lib.acceptData := by kernel_rfl
theorem tabU_of {W : World} (h3 : Lib.VarReads Tryd.prog W "unicode/utf8.first" Rows.laid_unicode_utf8_first) (h4 : Lib.VarReads Tryd.prog W "unicode/utf8.acceptRanges" Rows.laid_unicode_utf8_acceptRanges) : Gh.le tabU (initG W) := by
  intro b o v hv
  unfold tabU at hv
  split at hv
  · rename_i hb
    subst hb
    obtain ⟨g, t, cs, fuel, p, hg, hty, hvar, hd⟩ := h3
    obtain rfl := Option.some.inj (gFirst.symm.trans hg)
    obtain rfl := Option.some.inj (gFirstT.symm.trans hty)
    rw [first_dat] at hd
    have hcs := Lib.cells_of_tab Tryd.underlying148 Tryd.underlying5 cells_u8 (by kernel_rfl) hd
    show W.cell? ⟨2, o, none⟩ = some v
    rw [World.var?_cell hg hvar o, ← Array.getElem?_toList, hcs, ← hv]
    simp [firstV, Lib.firstTab]; rfl
  · split at hv
    · rename_i hb
      subst hb
      obtain ⟨g, t, cs, fuel, p, hg, hty, hvar, hd⟩ := h4
      obtain rfl := Option.some.inj (gAcc.symm.trans hg)
      obtain rfl := Option.some.inj (gAccT.symm.trans hty)
      rw [acc_dat] at hd
      have ho : o < 32 := (List.getElem?_eq_some_iff.1 hv).1
      have hi : o / 2 < 16 := by omega
      obtain ⟨fuel', d, q, hdi, he⟩ := Lib.array_elem Tryd.underlying151 hd (o / 2) hi
      simp only [List.getElem?_map, List.getElem?_range hi, Option.map_some, Option.some.injEq] at hdi
      subst hdi
      have hc2 : Tryd.prog.cellsOf 150 = 2 := by kernel_rfl
      rw [hc2] at he
      have hcs := Lib.ints_of_struct Tryd.underlying150 (fun j f hj => by
        match j, hj with
        | 0, hj => simp at hj; subst hj; exact ⟨Tryd.underlying5, rfl, cells_u8⟩
        | 1, hj => simp at hj; subst hj; exact ⟨Tryd.underlying5, rfl, cells_u8⟩
        | j + 2, hj => simp at hj) (by rw [hc2]; rfl) he
      show W.cell? ⟨3, o, none⟩ = some v
      rw [World.var?_cell hg hvar o, ← Array.getElem?_toList]
      have h5 : cs.toList[o]? = ((cs.toList.drop (o / 2 * 2)).take 2)[o % 2]? := by
        rw [List.getElem?_take, if_pos (by omega), List.getElem?_drop]
        congr 1
        omega
      have h6 : accV[o]? = [Value.int .u8 (Lib.accLo (o / 2) : Nat), .int .u8 (Lib.accHi (o / 2) : Nat)][o % 2]? := by
        have := getElem?_flatMap (T := { enc := fun i : Nat => [Value.int .u8 (Lib.accLo i : Nat), .int .u8 (Lib.accHi i : Nat)], k := 2, len := fun _ => rfl }) (List.range 16) (o / 2) (o % 2) (o / 2) (by rw [List.getElem?_range hi]) (by show o % 2 < 2; omega)
        have h7 : o / 2 * 2 + o % 2 = o := by omega
        simp only [h7] at this
        exact this
      rw [h5, hcs, ← hv, h6]; rfl
    · cases hv
theorem gTab : Tryd.prog.globalNamed "typebar/wide.spans" = some 0 := by kernel_rfl
theorem gTabType : (Tryd.prog.globals[0]?).map (·.type) = some 118 := by kernel_rfl
theorem cells_span : Tryd.prog.cellsOf 117 = 2 := by kernel_rfl
theorem cells_i32 : Tryd.prog.cellsOf 21 = 1 := by kernel_rfl
theorem spans_dat : (Rows.laid_typebar_wide_spans : DataW Unit) = .agg (spansL.map fun p => .agg ([p.1, p.2].map fun z => .lit (.int .i32 z))) := rfl
theorem tabS_of {W : World} (h : Lib.VarReads Tryd.prog W "typebar/wide.spans" Rows.laid_typebar_wide_spans) : Gh.le tabS (initG W) := by
  intro b o v hv
  unfold tabS at hv
  split at hv
  · rename_i hb
    subst hb
    obtain ⟨g, t, cs, fuel, p, hg, hty, hvar, hd⟩ := h
    obtain rfl := Option.some.inj (gTab.symm.trans hg)
    obtain rfl := Option.some.inj (gTabType.symm.trans hty)
    rw [spans_dat] at hd
    have ho : o < 22 := (List.getElem?_eq_some_iff.1 hv).1
    have hi : o / 2 < 11 := by omega
    obtain ⟨m, hm⟩ : ∃ m, spansL[o / 2]? = some m := ⟨spansL[o / 2]'hi, List.getElem?_eq_getElem hi⟩
    obtain ⟨fuel', d, q, hdi, he⟩ := Lib.array_elem un_spans hd (o / 2) hi
    rw [List.getElem?_map, hm, Option.map_some, Option.some.injEq] at hdi
    subst hdi
    have hcs := Lib.cells_of_tab (zs := [m.1, m.2]) un_span Tryd.underlying21 cells_i32 cells_span he
    show W.cell? ⟨0, o, none⟩ = some v
    rw [World.var?_cell hg hvar o, ← Array.getElem?_toList]
    have h5 : cs.toList[o]? = ((cs.toList.drop (o / 2 * 2)).take 2)[o % 2]? := by
      rw [List.getElem?_take, if_pos (by omega), List.getElem?_drop]
      congr 1
      omega
    have h6 : spansV[o]? = [Value.int .i32 m.1, .int .i32 m.2][o % 2]? := by
      have := getElem?_flatMap (T := { enc := fun p : Int × Int => [.int .i32 p.1, .int .i32 p.2], k := 2, len := fun _ => rfl }) spansL (o / 2) (o % 2) m hm (by show o % 2 < 2; omega)
      have h7 : o / 2 * 2 + o % 2 = o := by omega
      simp only [h7] at this
      exact this
    rw [cells_span] at hcs
    rw [h5, hcs, ← hv, h6]; rfl
  · cases hv
/-- both -/
def tabSU : Gh := fun b o => if b = 0 then spansV[o]? else tabU b o
instance iTabSU1 : TabS tabSU := ⟨fun b o v h => by
  unfold tabS at h; unfold tabSU
  split at h
  · rename_i hb; rw [if_pos hb]; exact h
  · cases h⟩
instance iTabSU2 : TabU tabSU := ⟨fun b o v h => by
  have hb : b ≠ 0 := by
    rintro rfl; unfold tabU at h; rw [if_neg (by decide), if_neg (by decide)] at h; cases h
  unfold tabSU; rw [if_neg hb]; exact h⟩
theorem tabSU_of {W : World} (h1 : Gh.le tabS (initG W)) (h2 : Gh.le tabU (initG W)) : Gh.le tabSU (initG W) := fun b o v h => by
  unfold tabSU at h
  split at h
  · rename_i hb; exact h1 b o v (by unfold tabS; rw [if_pos hb]; exact h)
  · exact h2 b o v h
theorem tableReadSU {L : List (String × DataW Unit)} {W : World} (h : laidMetH Tryd.prog L W) (m1 : ("unicode/utf8.first", Rows.laid_unicode_utf8_first) ∈ L) (m2 : ("unicode/utf8.acceptRanges", Rows.laid_unicode_utf8_acceptRanges) ∈ L) (m3 : ("typebar/wide.spans", Rows.laid_typebar_wide_spans) ∈ L) : Gh.le tabSU (initG W) :=
  tabSU_of (tabS_of (var_reads h m3 rfl)) (tabU_of (var_reads h m1 rfl) (var_reads h m2 rfl))
/-- a table's values -/
def tabV : DataW Unit → Array Value
  | .agg l => (l.map fun x => match x with | .lit y => y.value | _ => undef).toArray
  | _ => #[]
/-- a block of values -/
def layV (vs : Array Value) : Obj → Obj
  | .cells _ t frozen => .cells vs t frozen
  | o => o
/-- a world for the witness: the settled one, the tables laid -/
noncomputable def laidWorld (os : Os) : World :=
  { World.holding Tryd.prog os ⟨#[], #[], []⟩ with heap := ((((((World.holding Tryd.prog os ⟨#[], #[], []⟩).heap.modify 2 (layV firstV.toArray)).modify 3 (layV accV.toArray)).modify 0 (layV spansV.toArray)).modify 1 (layV (tabV Rows.laid_internal_strconv_uint64pow10))).modify 4 (layV (tabV Rows.laid_math_bits_deBruijn32tab))).modify 5 (layV (tabV Rows.laid_math_bits_deBruijn64tab)) }
end
/- How a terminal that is handed in is read. No condition. -/
section
open Go.ChangeShapes Go.WideShapes Go.ChangeAt Go.RowKit
set_option maxRecDepth 100000
theorem rdf_term : RdF Tryd.prog 29 (fun t : (Int × Int × List Cell) × Int × Int × Bool => [I t.1.1, I t.1.2.1, slA cellT t.1.2.2, I t.2.1, I t.2.2.1, B t.2.2.2]) (fun _ => True) := by
  have h := rdf_struct us_term (by kernel_rfl) (rdl_cons rdf_grid (by kernel_rfl) (rdl_cons rdf_i64 (by kernel_rfl) (rdl_cons rdf_i64 (by kernel_rfl) (rdl_one rdf_b (by kernel_rfl)))))
  exact h.any
end
/- How a belief that is handed in is read; the table of wide signs alone. No condition. -/
section
open Go.ChangeShapes Go.WideShapes Go.ChangeAt Go.RowKit
set_option maxRecDepth 100000
theorem rd_gu : Rd Tryd.prog guT 44 fun _ => True :=
  ⟨by kernel_rfl, by decide, fun enc w sp hd fuel cs x h => by
    obtain ⟨xs, n, _, _, hl, hn, hf⟩ := DataW.trod_struct us_gu h
    have hl2 : cs.length = 3 := hl.trans (by kernel_rfl)
    obtain ⟨a, b, c, rfl⟩ : ∃ a b c, cs = [a, b, c] := by
      match cs, hl2 with
      | [a, b, c], _ => exact ⟨a, b, c, rfl⟩
    have hn2 : xs.length = 2 := hn
    obtain ⟨x0, x1, rfl⟩ : ∃ a b, xs = [a, b] := by
      match xs, hn2 with
      | [a, b], _ => exact ⟨a, b, rfl⟩
    have c0 : Tryd.prog.cellsOf 42 = 2 := by kernel_rfl
    have c1 : Tryd.prog.cellsOf 4 = 1 := by kernel_rfl
    have h0 : DataW.trod enc Tryd.prog w 0 sp hd n 42 (([a, b, c].drop 0).take (Tryd.prog.cellsOf 42)) = some x0 := hf 0 _ rfl
    have h1 : DataW.trod enc Tryd.prog w 0 sp hd n 4 (([a, b, c].drop 2).take (Tryd.prog.cellsOf 4)) = some x1 := hf 1 _ rfl
    rw [c0] at h0
    rw [c1] at h1
    obtain ⟨ce, e0, _⟩ := rd_cell.of enc w sp hd n _ _ h0
    obtain ⟨bo, e1, _⟩ := DataW.trod_bool un_bool h1
    simp only [List.drop_zero, List.take_succ_cons, List.take_zero, List.drop_succ_cons, List.cons.injEq, and_true, cellT] at e0 e1
    exact ⟨(ce, bo), by rw [e0.1, e0.2, e1]; rfl, trivial⟩⟩
theorem rdf_gus : RdF Tryd.prog 22 (fun l : List Guess => [slA guT l]) (fun _ => True) := (rdf_sl rd_gu un_gus).any
theorem rdf_bel : RdF Tryd.prog 24 (fun b : Bel => [I b.1, I b.2.1, slA guT b.2.2.1, I b.2.2.2.1, I b.2.2.2.2.1, B b.2.2.2.2.2.1, B b.2.2.2.2.2.2]) (fun _ => True) := by
  have h := rdf_struct us_be (by kernel_rfl) (rdl_cons rdf_i64 (by kernel_rfl) (rdl_cons rdf_i64 (by kernel_rfl) (rdl_cons rdf_gus (by kernel_rfl) (rdl_cons rdf_i64 (by kernel_rfl) (rdl_cons rdf_i64 (by kernel_rfl) (rdl_cons rdf_b (by kernel_rfl) (rdl_one rdf_b (by kernel_rfl))))))))
  exact h.any
end
end Go.Proofs.YtgfmjmfphmjdkaaDoor
