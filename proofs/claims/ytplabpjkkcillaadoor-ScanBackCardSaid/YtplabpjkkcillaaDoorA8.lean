/- How a law's arguments are read, and its answer true, told once. No condition. -/
import Derived.Test.YtplabpjkkcillaaDoorA7
import Derived.WideKeyArgs
import Derived.OpenShut
namespace Go.Proofs.YtplabpjkkcillaaDoor
set_option linter.unusedSimpArgs false
set_option linter.unusedVariables false
set_option linter.unusedSectionVars false
set_option maxHeartbeats 4000000
open Go Go.RowKit Go.ChangeShapes Go.WideShapes

def initG (w : World) : Gh := fun b o => w.cell? ⟨b, o, none⟩
theorem st_init {T0 : Gh} {w : World} (h : Gh.le T0 (initG w)) : St T0 w (initG w) [] w :=
  ⟨Below.refl _ _, h, fun _ _ _ h => h, fun _ hm => by simp at hm, fun _ hm => by simp at hm, by simp⟩

/-- what the reader finds at cells of type e is one of these things -/
structure Rd {α : Type} (P : Program) (T : Ty α) (e : TypeId) (ok : α → Prop) : Prop where
  cells : P.cellsOf e = T.k
  pos : 0 < T.k
  of : ∀ {H : Type} (enc : TypeId × Value → H) (w : World) (spare : Nat → Bool) (held : Bool) (fuel : Nat) (cs : List Value) (x : DataW H × List MemPlace), DataW.trod enc P w 0 spare held fuel e cs = some x → ∃ a, cs = T.enc a ∧ ok a

theorem cells_at {w : World} {b off n i : Nat} {cs : List Value} {s : Option Nat} (h : w.cells? 0 ((⟨b, off, s⟩ : Addr).add i) n = some cs) (hn : 0 < n) (hi : 0 < i ∨ s = none ∨ i = 0) : (i = 0 → s = none) ∧ ∀ j v, cs[j]? = some v → w.cell? ⟨b, off + i + j, none⟩ = some v := by
  unfold World.cells? at h
  rw [if_pos (Nat.zero_le _)] at h
  have hlen : cs.length = n := by simpa using mapM_some_length h
  have each : ∀ j, j < n → w.cell? (((⟨b, off, s⟩ : Addr).add i).add j) = cs[j]? := fun j hj => mapM_some_get h j j (by simp [hj])
  have hs : i = 0 → s = none := fun hi0 => by
    have h0 := each 0 hn
    subst hi0
    have hc : ∃ v, cs[0]? = some v := ⟨cs[0], List.getElem?_eq_getElem (by omega)⟩
    obtain ⟨v, hv⟩ := hc
    rw [hv] at h0
    simp only [Addr.add, if_true] at h0
    unfold World.cell? at h0
    split at h0
    · cases s with
      | none => rfl
      | some k => simp at h0
    · cases h0
  refine ⟨hs, fun j v hv => ?_⟩
  have hj : j < n := by rw [← hlen]; exact (List.getElem?_eq_some_iff.1 hv).1
  rw [← hv, ← each j hj]
  by_cases hi0 : i = 0
  · subst hi0
    rw [hs rfl]
    simp only [Addr.add, if_true, Nat.add_zero]
    split
    · rename_i h; subst h; rfl
    · rfl
  · have e1 : (⟨b, off, s⟩ : Addr).add i = ⟨b, off + i, none⟩ := by simp [Addr.add, hi0]
    rw [e1, add_plain]

section
variable {H : Type} {enc : TypeId × Value → H} {P : Program} {w : World} {bs : Nat} {α : Type} {T : Ty α} {ok : α → Prop} {e t : TypeId} {v : Value} {d : DataW H} {ps : List MemPlace}

theorem exists_list {p : Nat → α → Prop} : ∀ n : Nat, (∀ i, i < n → ∃ a, p i a) → ∃ l : List α, l.length = n ∧ ∀ i a, l[i]? = some a → p i a
  | 0, _ => ⟨[], rfl, fun i a h => by simp at h⟩
  | n + 1, h => by
    obtain ⟨l, hl, hp⟩ := exists_list n (fun i hi => h i (by omega))
    obtain ⟨a, ha⟩ := h n (by omega)
    refine ⟨l ++ [a], by simp [hl], fun i x hx => ?_⟩
    by_cases hi : i < l.length
    · rw [List.getElem?_append_left hi] at hx; exact hp i x hx
    · rw [List.getElem?_append_right (by omega)] at hx
      have h0 : i - l.length = 0 := by
        have := (List.getElem?_eq_some_iff.1 hx).1
        simp at this; omega
      rw [h0] at hx
      have hx' : a = x := by simpa using hx
      have hin : i = n := by omega
      rw [hin, ← hx']; exact ha

theorem split_at (T : Ty α) : ∀ (l : List α) (j : Nat) (v : Value), (l.flatMap T.enc)[j]? = some v → ∃ i r x, j = i * T.k + r ∧ r < T.k ∧ l[i]? = some x ∧ (T.enc x)[r]? = some v
  | [], j, v, h => by simp at h
  | x :: l, j, v, h => by
    rw [List.flatMap_cons] at h
    by_cases hj : j < T.k
    · rw [List.getElem?_append_left (by rw [T.len]; exact hj)] at h
      exact ⟨0, j, x, by simp, hj, rfl, h⟩
    · rw [List.getElem?_append_right (by rw [T.len]; omega), T.len] at h
      obtain ⟨i, r, y, h1, h2, h3, h4⟩ := split_at T l (j - T.k) v h
      exact ⟨i + 1, r, y, by rw [Nat.add_mul]; omega, h2, by simpa using h3, h4⟩

theorem rd_slice (r : Rd P T e ok) (ht : P.underlying t = some (.slice e)) (hv : Value.okWide P w .any bs t v) (h : DataW.Trod enc P w 0 (fun _ => true) true t v d ps) : ∃ l : List α, Rep (initG w) (slA T l) v ∧ ∀ a ∈ l, ok a := by
  obtain ⟨a, len, cap, rfl⟩ := okWide_slice ht hv
  obtain ⟨fuel, hf⟩ := h
  have hf' : DataW.trod enc P w 0 (fun _ => true) true fuel t [.slice a len cap] = some (d, ps) := hf
  rcases DataW.trod_slice ht hf' with ⟨h1, _⟩ | ⟨a', len', cap', elems, rest, n, _, h1, _, _, hl, hm, hlen, hel, _, _⟩
  · injection h1 with h1 _
    injection h1 with h1 h2 h3
    subst h1; subst h2; subst h3
    exact ⟨[], .of ⟨none, 0, 0, rfl, rfl, Nat.le_refl _, Nat.zero_le _, fun _ => rfl, fun h => absurd rfl h⟩, fun _ h => by simp at h⟩
  · injection h1 with h1 _
    injection h1 with h1 h2 h3
    subst h1; subst h2; subst h3
    obtain ⟨b, off, s⟩ := a'
    have one : ∀ i, i < len → ∃ x, ok x ∧ ∃ cs, w.cells? 0 ((⟨b, off, s⟩ : Addr).add (i * T.k)) T.k = some cs ∧ cs = T.enc x := fun i hi => by
      have h2 := hel i hi
      rw [r.cells] at h2
      have h3 : ∃ y, elems[i]? = some y := ⟨elems[i], List.getElem?_eq_getElem (by omega)⟩
      obtain ⟨y, hy⟩ := h3
      rw [hy] at h2
      obtain ⟨cs, h4, h5⟩ := Option.bind_eq_some_iff.1 h2
      obtain ⟨x, h6, h7⟩ := r.of enc w _ _ _ _ _ h5
      exact ⟨x, h7, cs, h4, h6⟩
    obtain ⟨l, hll, hp⟩ := exists_list len one
    refine ⟨l, .of ⟨some ⟨b, off, s⟩, len, cap, rfl, hll.symm, hl, hm, fun h => by simp at h, fun hne => ?_⟩, fun x hx => ?_⟩
    · have hpos : 0 < len := by rw [← hll]; exact List.length_pos_iff.2 hne
      have hs : s = none := by
        obtain ⟨x, _, cs, h4, _⟩ := one 0 hpos
        rw [Nat.zero_mul] at h4
        exact (cells_at h4 r.pos (.inr (.inr rfl))).1 rfl
      subst hs
      refine ⟨b, off, rfl, fun j v hv => ?_⟩
      obtain ⟨i, q, x, h1, h2, h3, h4⟩ := split_at T l j v hv
      obtain ⟨_, cs, h5, rfl⟩ := hp i x h3
      have := (cells_at h5 r.pos (.inr (.inl rfl))).2 q v h4
      rw [h1]
      show w.cell? ⟨b, off + (i * T.k + q), none⟩ = some v
      rw [← Nat.add_assoc]; exact this
    · obtain ⟨i, hi⟩ := List.getElem?_of_mem hx
      exact (hp i x hi).1
theorem rd_int {k : IntKind} (ht : P.underlying t = some (.int k)) (hv : Value.okWide P w .any bs t v) (h : DataW.Trod enc P w 0 (fun _ => true) true t v d ps) : ∃ n : Int, Rep (initG w) (vA (.int k n)) v ∧ (Lit.int k n).wf = true := by
  obtain ⟨n, rfl, _, _, hw⟩ := open_int ht hv h
  exact ⟨n, Rep.va _ _, hw⟩
theorem rd_bool (ht : P.underlying t = some .bool) (hv : Value.okWide P w .any bs t v) : ∃ b : Bool, Rep (initG w) (B b) v := by
  obtain ⟨n, rfl⟩ := okWide_bool ht hv
  exact ⟨n, Rep.va _ _⟩
theorem rd_struct {fs : Array Field} (r : Rd P T t ok) (ht : P.underlying t = some (.struct fs)) (hv : Value.okWide P w .any bs t v) (h : DataW.Trod enc P w 0 (fun _ => true) true t v d ps) : ∃ a : α, v = .agg (T.enc a).toArray ∧ ok a := by
  obtain ⟨cs, rfl, _⟩ := okWide_struct ht hv
  obtain ⟨fuel, hf⟩ := h
  obtain ⟨a, h1, h2⟩ := r.of enc w _ _ _ _ _ hf
  exact ⟨a, congrArg Value.agg (by apply Array.ext'; exact (show cs.toList = _ from h1)), h2⟩
theorem rep_agg_va {G : Gh} (l : List Value) : Rep G (aggA (l.map vA)) (.agg l.toArray) := .of ⟨l, rfl, allRep_va _ l⟩
theorem rd_of_int {k : IntKind} (T : Ty Int) (hT : ∀ n, T.enc n = [.int k n]) (ht : P.underlying e = some (.int k)) (hc : P.cellsOf e = 1) : Rd P T e fun n => (Lit.int k n).wf = true :=
  have h1 : T.k = 1 := by rw [← T.len 0, hT]; rfl
  ⟨hc.trans h1.symm, by omega, fun enc w sp hd fuel cs x h => let ⟨n, a, _, c⟩ := DataW.trod_int ht h; ⟨n, a.trans (hT n).symm, c⟩⟩

/-! ### the answer true -/
theorem same_of_below {W W' : World} (h : Below W.heap.size W W') (p : MemPlace) (hp : p.block < W.heap.size) : W.sameAt W' p := by
  cases p with
  | cell b off => exact World.cell?_of_block (w := W) (h.block b hp)
  | map b => exact h.block b hp
theorem trodAll_stays {W W' : World} {sp : Nat → Bool} (hl : laidOutB P = true) (hB : Below W.heap.size W W') : ∀ {ts : List TypeId} {vs : List Value} {ds : List (DataW H)} {ps : List MemPlace},
    (∀ t ∈ ts, P.readableRec t = true ∧ t < P.types.size) → DataW.TrodAll enc P W 0 (fun _ => true) true ts vs ds ps → (∀ p ∈ ps, p.block < W.heap.size ∧ sp p.block = true) → DataW.TrodAll enc P W' 0 sp true ts vs ds ps
  | [], _, _, _, _, h, _ => by
    obtain ⟨rfl, rfl, rfl⟩ := trodAll_nil h
    exact rfl
  | t :: ts, _, _, _, hp, h, hs => by
    obtain ⟨v, vs1, d, ds1, a, b, rfl, rfl, rfl, h1, h2⟩ := trodAll_cons h
    exact ⟨a, b, WideElems.Trod_stays hl (hp t (by simp)).1 (hp t (by simp)).2 h1 (fun p hp' => same_of_below hB p (hs p (by simp [hp'])).1) (fun p hp' => (hs p (by simp [hp'])).2),
      trodAll_stays hl hB (fun t ht => hp t (by simp [ht])) h2 (fun p hp' => hs p (by simp [hp'])), rfl⟩
theorem post_true {f : Func} {s : ChangeSpec} {apart fresh handsOn again : Bool} {W W' : World} {args : Array Value} {ds gs : List (DataW H)} {before : List MemPlace} {b : TypeId}
    (hl : laidOutB P = true) (hp : ∀ t ∈ f.params.toList, P.readableRec t = true ∧ t < P.types.size) (hvars : s.vars = []) (hr : f.resultTypes = #[b]) (hb : P.underlying b = some .bool)
    (hW : DataW.Whole enc P f.params.toList s.vars apart W args.toList ds gs before) (hfn : s.fn H (ds ++ gs) = { results := [.lit (.bool true)], args := ds }) (hB : Below W.heap.size W W') :
    s.post enc P f apart fresh handsOn again W args (.bool true) W' := by
  have hlt := hW.lt
  have hW0 := hW
  obtain ⟨p, q, hA, hV, he, hz, hn⟩ := hW
  rw [hvars] at hV
  obtain ⟨rfl, rfl⟩ := trodVars_none hV
  rw [List.append_nil] at he
  subst he
  have hres : ∀ (b : Nat) (sp : Nat → Bool) (hd : Bool), DataW.TrodAll enc P W' b sp hd f.resultTypes.toList ((Value.bool true).resultList f.resultTypes.size) [.lit (.bool true)] [] := fun b0 sp hd => by
    rw [hr]
    exact ⟨[], [], ⟨1, by simp [DataW.trod, Value.cells, hb]⟩, rfl, rfl⟩
  have hargs : ∀ sp : Nat → Bool, (∀ p ∈ before, sp p.block = true) → DataW.TrodAll enc P W' 0 sp true f.params.toList args.toList ds before := fun sp hsp => trodAll_stays hl hB hp hA fun p hp => ⟨hlt p hp, hsp p hp⟩
  refine ⟨ds, [], before, [], before, [], hW0, ?_, ?_, ?_, World.keptBut_mono (fun p hp => ⟨hp, .inr (.inl hp)⟩) (hB.frame (· ∈ before)), fun _ => ⟨?_, ?_⟩⟩
  · rw [hfn]; exact hres _ _ _
  · rw [hfn]; exact hargs _ fun p hp => by simpa using hlt p hp
  · rw [hfn, hvars]; exact rfl
  · exact ok_one hr rfl (okWide_bool_mk hb true)
  · refine ⟨_, [], before, ⟨before, [], trodAll_append (hargs _ fun _ _ => rfl) (hres 0 _ true), ?_, by simp, fun b off hbo => ?_, hn⟩, fun p hp _ => hp⟩
    · rw [hvars]; exact rfl
    · exact (hB.frozen (p := ⟨b, off, none⟩) (hlt _ hbo)).trans (hz b off hbo)
theorem ans_true {T0 : Gh} {f : Func} {s : ChangeSpec} {apart fresh handsOn again : Bool} {W W' : World} {args : Array Value} {ds gs : List (DataW H)} {before : List MemPlace} {b : TypeId} {ev : Ending} {G : Gh}
    (hl : laidOutB P = true) (hp : ∀ t ∈ f.params.toList, P.readableRec t = true ∧ t < P.types.size) (hvars : s.vars = []) (hr : f.resultTypes = #[b]) (hb : P.underlying b = some .bool)
    (hW : DataW.Whole enc P f.params.toList s.vars apart W args.toList ds gs before) (hfn : s.fn H (ds ++ gs) = { results := [.lit (.bool true)], args := ds })
    (h : (∃ u A M' G', ev = .returned u ∧ (Sub A (B true) ∧ M' = []) ∧ Rep G' A u ∧ Gh.le G G' ∧ St T0 W G' (M' ++ []) W') ∨ (∃ c M' G', ev = .panicked c ∧ False ∧ Gh.le G G' ∧ St T0 W G' (M' ++ []) W')) :
    ∃ v, ev = .returned v ∧ s.post enc P f apart fresh handsOn again W args v W' := by
  rcases h with ⟨u, A, M', G', rfl, ⟨hA, rfl⟩, hr', _, hs⟩ | ⟨_, _, _, _, hf, _⟩
  · have hu := (hA _ _ hr').eq
    subst hu
    exact ⟨_, rfl, post_true hl hp hvars hr hb hW hfn hs.below⟩
  · exact hf.elim
end
end Go.Proofs.YtplabpjkkcillaaDoor
