/- The logic's fifth part: slices that are owned: made, appended to, written, frozen. No condition. -/
import Derived.Test.YtplabpjkkcillaaDoorA4
namespace Go.Proofs.YtplabpjkkcillaaDoor
set_option linter.unusedSimpArgs false
set_option linter.unusedVariables false
set_option linter.unusedSectionVars false
set_option maxHeartbeats 4000000
open Go Go.RowKit

/-- something new is owned, in new blocks -/
theorem St.grow_new {T0 G : Gh} {w0 w w' : World} {M : List Own} {m' : Own} (h : St T0 w0 G M w) (hg : w.grownBy w' none) (hm : m'.holds G w') (hf : ∀ b, m'.foot = some b → w.heap.size ≤ b ∧ b < w'.heap.size) : St T0 w0 G (m' :: M) w' := by
  have old : ∀ b, b < w.heap.size → w'.heap[b]? = w.heap[b]? := fun b hb => hg.block b hb (by simp)
  refine ⟨⟨hg.os.trans h.below.os, hg.tape.trans h.below.tape, hg.output.trans h.below.output, Nat.le_trans h.below.size hg.size, fun b hb => (old b (Nat.lt_of_lt_of_le hb h.below.size)).trans (h.below.block b hb)⟩,
    h.tab, fun b o v hv => ?_, fun x hx => ?_, fun x hx b hb => ?_, ?_⟩
  · have h1 := h.imm b o v hv
    exact (World.cell?_of_block (w := w) (old b (cell_lt h1))).trans h1
  · rcases List.mem_cons.1 hx with rfl | hx
    · exact hm
    · exact x.loc (fun b hb => old b (h.foot x hx b hb).2.1) (h.own x hx)
  · rcases List.mem_cons.1 hx with rfl | hx
    · obtain ⟨h1, h2⟩ := hf b hb
      refine ⟨Nat.le_trans h.below.size h1, h2, fun o => ?_⟩
      cases hg' : G b o with
      | none => rfl
      | some v => have := cell_lt (h.imm _ _ _ hg'); omega
    · obtain ⟨a1, a2, a3⟩ := h.foot x hx b hb
      exact ⟨a1, Nat.lt_of_lt_of_le a2 hg.size, a3⟩
  · cases hb : m'.foot with
    | none => simp only [List.filterMap_cons, hb]; exact h.sep
    | some b =>
      simp only [List.filterMap_cons, hb, List.nodup_cons]
      refine ⟨fun hin => ?_, h.sep⟩
      obtain ⟨x, hx, hxf⟩ := List.mem_filterMap.1 hin
      have := (h.foot x hx _ hxf).2.1
      have := (hf b hb).1
      omega
theorem setAppend {M F : List Own} {i : Nat} {m m' : Own} (h : M[i]? = some m) : (M ++ F)[i]? = some m ∧ (M ++ F).set i m' = M.set i m' ++ F := by
  have hlt : i < M.length := (List.getElem?_eq_some_iff.1 h).1
  exact ⟨by rw [List.getElem?_append_left hlt]; exact h, List.set_append_left i m' hlt⟩
theorem ownsRow_own {w : World} {base e k n : Nat} {u : Value} {xs : List Value} (h : w.ownsRow base e k u n xs) : ∀ b, u.ownBlock = some b → b < w.heap.size := fun b hb => (h.lt b hb).2

section
variable {P : Program} {T0 : Gh} {N : Fz} {Q : Post} {fr : Fr} {M : List Own} {ops : Array Oper} {o : Oper}

theorem row_form {α : Type} {T : Ty α} {e : TypeId} {u : Value} {l : List α} {G : Gh} {w : World} (h : (rowO T e u l).holds G w) : (u = .slice none 0 0 ∧ l = []) ∨ ∃ g cap, u = .slice (some ⟨g, 0, none⟩) l.length cap ∧ l.length ≤ cap ∧ cap ≤ maxLen := by
  rcases h.2 with ⟨h1, h2⟩ | ⟨g, cap, cur, h1, _, _, h4, h5, _⟩
  · exact .inl ⟨h1, List.eq_nil_of_length_eq_zero h2⟩
  · exact .inr ⟨g, cap, h1, h4, h5⟩
/-- a nil slice, to be appended to -/
theorem ent_nil {α : Type} (T : Ty α) (e : TypeId) : Ent T0 fr M fr (rowO T e (.slice none 0 0) [] :: M) := fun w0 G F t w s r =>
  ⟨G, Gh.le.refl _, ⟨s.below, s.tab, s.imm, fun m hm => by
      rcases List.mem_cons.1 hm with rfl | hm
      · exact World.ownsRow_nil w 0 e T.k
      · exact s.own m hm, fun m hm b hb => by
      rcases List.mem_cons.1 hm with rfl | hm
      · cases hb
      · exact s.foot m hm b hb, by
      have : List.filterMap Own.foot (rowO T e (.slice none 0 0) [] :: (M ++ F)) = List.filterMap Own.foot (M ++ F) := rfl
      exact this ▸ s.sep⟩, r⟩
theorem aw_nil {α : Type} (T : Ty α) (e : TypeId) {c : Code} (h : AW P T0 N c Q fr (rowO T e (.slice none 0 0) [] :: M)) : AW P T0 N c Q fr M := aw_ent (ent_nil T e) h
theorem al_nilrow {α : Type} (T : Ty α) (e : TypeId) {l : List Oper} (h : AL P T0 N false ops Q l fr (rowO T e (.slice none 0 0) [] :: M)) : AL P T0 N false ops Q l fr M := al_ent (ent_nil T e) h
theorem flatMap_range_rep {α : Type} (T : Ty α) (d : α) : ∀ n : Nat, (List.range n).flatMap (fun _ => T.enc d) = (List.replicate n d).flatMap T.enc
  | 0 => by simp
  | n + 1 => by rw [List.range_succ, List.flatMap_append, flatMap_range_rep T d n, List.replicate_succ', List.flatMap_append]; simp
/-- 'make' -/
theorem ao_make {α : Type} {T : Ty α} {t e : TypeId} {x y : Operand} {n : Nat} {d : α} {by' : Nat} {av : α → AV} {k k' : IntKind} (ho : o.op = .makeSlice t x y) (hu : P.underlying t = some (.slice e)) (he : El P T e d by' av) (hx : Opd T0 fr x (vA (.int k (n : Int)))) (hy : Opd T0 fr y (vA (.int k' (n : Int))))
    (hn : by' * n ≤ 140737488355328) (hm : n ≤ maxLen) : AO P T0 ops o fr M (fun A M' => ∃ u, A = vA u ∧ M' = rowO T e u (List.replicate n d) :: M) (fun _ _ => False) := fun w0 G F a w next Qc hs hf hk _ => by
  obtain ⟨z, hi, hz⟩ := he.info
  obtain ⟨i, h1, h2⟩ := Option.map_eq_some_iff.1 hi
  simp only [Prod.mk.injEq] at h2
  have e1 := (hx.use (o := o) (ops := ops) (by simp [ho, Op.operands]) hs.tab hf).eq
  have e2 := (hy.use (o := o) (ops := ops) (by simp [ho, Op.operands]) hs.tab hf).eq
  obtain ⟨w', hr, hown, hg⟩ := run_make_full (P := P) w 0 t e i z T.k hu h1 h2.1 h2.2.1 k k' n (by rw [h2.2.2]; omega) hm (Nat.zero_le _)
  have hcells : (madeCells z.cells (n * T.k)).toList = (List.replicate n d).flatMap T.enc := by
    have hzk : z.cells.size = T.k := by rw [← Array.length_toList, hz, T.len]
    unfold madeCells
    simp only [Array.toList_map, Array.toList_range]
    rw [hzk, zeros_eq z.cells T.k hzk n, hz]
    exact flatMap_range_rep T d n
  unfold Oper.wp
  have hrun : (execOp a.eval o).run P w = .ok (.value (.slice (some ⟨w.heap.size, 0, none⟩) n n)) w' := by
    simp only [execOp, ho, e1, e2]; simp [hr]
  rw [hrun]
  refine hk (vA _) _ G _ w' ⟨_, rfl, rfl⟩ (Gh.le.refl _) ?_ (Rep.va _ _)
  refine hs.grow_new hg ?_ fun b hb => ?_
  · show w'.ownsRow 0 e T.k _ (List.replicate n d).length ((List.replicate n d).flatMap T.enc)
    rw [← hcells, List.length_replicate]; exact hown
  · have hb' : some w.heap.size = some b := hb
    obtain rfl := Option.some.inj hb'
    exact ⟨Nat.le_refl _, ownsRow_own hown _ rfl⟩
/-- an empty literal, to be appended to -/
theorem ao_empty {α : Type} {T : Ty α} {t e : TypeId} {d : α} {by' : Nat} {av : α → AV} (ho : o.op = .buildSlice t 0 #[]) (hu : P.underlying t = some (.slice e)) (he : El P T e d by' av) : AO P T0 ops o fr M (fun A M' => ∃ u, A = vA u ∧ M' = rowO T e u [] :: M) (fun _ _ => False) := fun w0 G F a w next Qc hs hf hk _ => by
  obtain ⟨z, hi, hz⟩ := he.info
  obtain ⟨i, h1, h2⟩ := Option.map_eq_some_iff.1 hi
  simp only [Prod.mk.injEq] at h2
  have hr := run_buildSlice (P := P) (t := t) (e := e) (n := 0) (k := T.k) (z := z) (w := w) (parts := #[]) (cells := #[]) hu (he.size w) (by simp [zeroValue, typeInfo, h1, h2.1]) (by omega) (by simp [Instr.fill])
  unfold Oper.wp
  have hrun : (execOp a.eval o).run P w = .ok (.value (.slice (some ⟨w.heap.size, 0, none⟩) 0 0)) (w.alloc (.cells #[] e)) := by
    simp only [execOp, ho]; simp [hr]
  rw [hrun]
  refine hk (vA _) _ G _ _ ⟨_, rfl, rfl⟩ (Gh.le.refl _) ?_ (Rep.va _ _)
  refine hs.grow_new (World.grownBy_alloc w _ none) (World.ownsRow_made w #[] 0 (Nat.zero_le _) (by decide) (by simp)) fun b hb => ?_
  have hb' : some w.heap.size = some b := hb
  obtain rfl := Option.some.inj hb'
  exact ⟨Nat.le_refl _, by simp⟩
/-- 'append' onto what is owned -/
theorem ao_append {α : Type} {T : Ty α} {t e : TypeId} {x y : Operand} {l m : List α} {d : α} {by' : Nat} {av : α → AV} {u : Value} (i : Nat) (ho : o.op = .call { callee := .builtin .append, args := #[x, y], argTypes := #[t, t] }) (hu : P.underlying t = some (.slice e)) (he : El P T e d by' av)
    (hx : Opd T0 fr x (vA u)) (hM : M[i]? = some (rowO T e u l)) (hy : Opd T0 fr y (slA T m)) (hn : (l.length + m.length) * by' ≤ 140737488355328) (hm : l.length + m.length ≤ maxLen) :
    AO P T0 ops o fr M (fun A M' => ∃ u', A = vA u' ∧ M' = M.set i (rowO T e u' (l ++ m))) (fun _ _ => False) := fun w0 G F a w next Qc hs hf hk _ => by
  obtain ⟨z, hi, hz⟩ := he.info
  obtain ⟨it, h1, h2⟩ := Option.map_eq_some_iff.1 hi
  simp only [Prod.mk.injEq] at h2
  have e1 := (hx.use (o := o) (ops := ops) (by simp [ho, Op.operands, Call.operands]) hs.tab hf).eq
  obtain ⟨ad, n, cap, e2, e3, _, _, e4, e5⟩ := (hy.use (o := o) (ops := ops) (by simp [ho, Op.operands, Call.operands]) hs.tab hf).sl
  subst e3
  obtain ⟨hM1, hM2⟩ := setAppend (F := F) (m' := rowO T e u l) hM
  have hrow : w.ownsRow 0 e T.k u l.length (l.flatMap T.enc) := hs.own _ (List.mem_of_getElem? hM1)
  have hrun0 : ∀ v w', (Builtin.append_ #[t, t] o.type #[u, a.eval y]).run P w = .ok v w' → (execOp a.eval o).run P w = .ok (.value v) w' := fun v w' h => by
    simp only [execOp, ho, resolve]
    simp [invoke, builtin, e1, h]
  cases ad with
  | none =>
    have hcap := e4 rfl
    have hm0 : m = [] := by
      cases m with
      | nil => rfl
      | cons y ys => obtain ⟨b, off, hb, _⟩ := e5 (by simp); cases hb
    subst hm0 hcap
    have hr := run_append_owned_none (P := P) w 0 t o.type e it T.k hu h1 u l.length (l.flatMap T.enc) hrow
    have hrun := hrun0 _ _ (by rw [e2]; exact hr)
    unfold Oper.wp; rw [hrun]
    refine hk (vA u) _ G u w ⟨u, rfl, rfl⟩ (Gh.le.refl _) ?_ (Rep.va _ _)
    have : M.set i (rowO T e u (l ++ [])) = M := by
      rw [List.append_nil]
      exact List.ext_getElem? fun j => by
        rw [List.getElem?_set]
        split
        · rename_i hij; subst hij
          split
          · exact hM.symm
          · rename_i hnl; exact absurd (List.getElem?_eq_some_iff.1 hM).1 hnl
        · rfl
    rw [this]; exact hs
  | some ad =>
    obtain ⟨u', w', hr, hown', hg, _⟩ := run_append_own (P := P) w 0 t o.type e it z T.k by' hu h1 h2.1 h2.2.1 h2.2.2 (by rw [← Array.length_toList, hz, T.len]) he.pos u l.length (l.flatMap T.enc) hrow
      ad m.length cap (m.flatMap T.enc) (flen T m) (fun j v hv => by
        obtain ⟨b, off, hb, hc⟩ := e5 (by intro h; subst h; simp at hv)
        obtain rfl := Option.some.inj hb
        rw [Addr.add_lit]
        exact hs.imm _ _ _ (hc j v hv)) (fun v hv => by
        obtain ⟨x, _, hx⟩ := List.mem_flatMap.1 hv
        exact he.one x v hx) hm hn (Nat.zero_le _)
    have hrun := hrun0 _ _ (by rw [e2]; exact hr)
    unfold Oper.wp; rw [hrun]
    refine hk (vA u') _ G u' w' ⟨u', rfl, rfl⟩ (Gh.le.refl _) ?_ (Rep.va _ _)
    have hown2 : w'.ownsRow 0 e T.k u' (l ++ m).length ((l ++ m).flatMap T.enc) := by
      rw [List.length_append, List.flatMap_append]; exact hown'
    rw [← (setAppend (F := F) (m' := rowO T e u' (l ++ m)) hM).2]
    refine hs.grown hM1 hg hown2 fun b hb => ⟨?_, ownsRow_own hown' b hb⟩
    have hb' : u'.ownBlock = some b := hb
    have hnews : ∀ j v, (m.flatMap T.enc)[j]? = some v → w.cell? (ad.add j) = some v := fun j v hv => by
      obtain ⟨b, off, hb, hc⟩ := e5 (by intro h; subst h; simp at hv)
      obtain rfl := Option.some.inj hb
      rw [Addr.add_lit]
      exact hs.imm _ _ _ (hc j v hv)
    have hones : ∀ v ∈ m.flatMap T.enc, v.oneCell' = true := fun v hv => by
      obtain ⟨x, _, hx⟩ := List.mem_flatMap.1 hv
      exact he.one x v hx
    have hzk : z.cells.size = T.k := by rw [← Array.length_toList, hz, T.len]
    rcases row_form (G := G) (T := T) (e := e) (l := l) hrow with ⟨rfl, rfl⟩ | ⟨g, cp, rfl, h4, h5⟩
    · right
      obtain ⟨u2, w2, hr2, hown3, _, _⟩ := run_append_own (P := P) w w.heap.size t o.type e it z T.k by' hu h1 h2.1 h2.2.1 h2.2.2 hzk he.pos _ 0 [] (World.ownsRow_nil w _ e T.k)
        ad m.length cap (m.flatMap T.enc) (flen T m) hnews hones (by simpa using hm) (by simpa using hn) (Nat.le_refl _)
      rw [hr2] at hr
      obtain ⟨rfl, rfl⟩ : u2 = u' ∧ w2 = w' := by injection hr with a b; exact ⟨a, b⟩
      exact (hown3.lt b hb').1
    · by_cases hroom : l.length + m.length ≤ cp
      · left
        obtain ⟨w2, hr2, _, _⟩ := run_append_fits (P := P) w 0 t o.type e it T.k hu h1 h2.2.1 g l.length cp (l.flatMap T.enc) hrow ad m.length cap (m.flatMap T.enc) (flen T m) hnews hones hroom
        rw [hr2] at hr
        obtain ⟨rfl, rfl⟩ : _ = u' ∧ w2 = w' := by injection hr with a b; exact ⟨a, b⟩
        exact hb'
      · right
        have hm' := hm
        simp only [maxLen] at hm'
        have hr2 := run_append_grow (P := P) w t o.type e it z hu h1 h2.1 ⟨g, 0, none⟩ l.length cp (l.flatMap T.enc) (by rw [flen, h2.2.1]) (hrow.cells (g := g) rfl) ad m.length cap (m.flatMap T.enc) (by rw [flen, h2.2.1]) hnews (by omega) (by omega) (growslice_fits (by omega) (by rw [h2.2.2]; exact hn))
        rw [hr2] at hr
        obtain ⟨rfl, _⟩ : _ = u' ∧ _ = w' := by injection hr with a b; exact ⟨a, b⟩
        have : some w.heap.size = some b := hb'
        obtain rfl := Option.some.inj this
        exact Nat.le_refl _

/-- 'append' onto what is read only and has no room: a new array, immutable from the first -/
theorem ay_append_new {α : Type} {T : Ty α} {t e : TypeId} {x y : Operand} {l m : List α} {d : α} {by' : Nat} {av : α → AV} (ho : o.op = .call { callee := .builtin .append, args := #[x, y], argTypes := #[t, t] }) (hu : P.underlying t = some (.slice e)) (he : El P T e d by' av)
    (hx : Opd T0 fr x (slcA T l)) (hy : Opd T0 fr y (slA T m)) (hn : (l.length + m.length) * by' ≤ 140737488355328) (hm : l.length + m.length ≤ maxLen) : AY P T0 ops o fr M (slA T (l ++ m)) := fun w0 G F a w next Qc hs hf hk _ => by
  obtain ⟨z, hi, hz⟩ := he.info
  obtain ⟨it, h1, h2⟩ := Option.map_eq_some_iff.1 hi
  simp only [Prod.mk.injEq] at h2
  have hzk : z.cells.size = T.k := by rw [← Array.length_toList, hz, T.len]
  obtain ⟨G0, hG0, xa, xn, e1, e2, e3, e4⟩ := hx.use (o := o) (ops := ops) (by simp [ho, Op.operands, Call.operands]) hs.tab hf
  have hxrep : Rep G (slA T l) (a.eval x) := slc_sl ⟨G0, hG0, xa, xn, e1, e2, e3, e4⟩
  obtain ⟨ad, n, cap, f2, f3, _, _, f4, f5⟩ := (hy.use (o := o) (ops := ops) (by simp [ho, Op.operands, Call.operands]) hs.tab hf).sl
  subst e2 f3
  have hrun0 : ∀ v w', (Builtin.append_ #[t, t] o.type #[a.eval x, a.eval y]).run P w = .ok v w' → (execOp a.eval o).run P w = .ok (.value v) w' := fun v w' h => by
    simp only [execOp, ho, resolve]
    simp [invoke, builtin, h]
  have hm' := hm
  simp only [maxLen] at hm'
  by_cases hm0 : m = []
  · subst hm0
    have hr : (Builtin.append_ #[t, t] o.type #[a.eval x, a.eval y]).run P w = .ok (a.eval x) w := by
      rw [e1, f2]
      cases xa <;> cases ad <;> simp [Builtin.append_, run_underlying hu, sizeOf, typeInfo, h1, Builtin.lenOf, Builtin.firstCells, loadCells, loadCellsFrom, storeCells]
    have hrun := hrun0 _ _ hr
    unfold Oper.wp; rw [hrun]
    refine hk _ M G _ w ⟨rfl, rfl⟩ (Gh.le.refl _) hs ?_
    rw [List.append_nil]; exact hxrep
  · obtain ⟨b, off, rfl, hc⟩ := f5 hm0
    have hnews : ∀ j v, (m.flatMap T.enc)[j]? = some v → w.cell? ((⟨b, off, none⟩ : Addr).add j) = some v := fun j v hv => by
      rw [Addr.add_lit]; exact hs.imm _ _ _ (hc j v hv)
    have hmpos : 0 < m.length := List.length_pos_iff.2 hm0
    have fin : ∀ (cells : Array Value) (cp : Nat), cells.toList.take ((l ++ m).length * T.k) = (l ++ m).flatMap T.enc → (l ++ m).length ≤ cp → cp ≤ maxLen →
        (execOp a.eval o).run P w = .ok (.value (.slice (some ⟨w.heap.size, 0, none⟩) (l ++ m).length cp)) (w.drew.alloc (.cells cells e)) → o.wp P a w next Qc := fun cells cp h3 h4 h5 hrun => by
      obtain ⟨s1, s2⟩ := hs.drew.allocG cells e
      unfold Oper.wp; rw [hrun]
      refine hk _ M _ _ _ ⟨rfl, rfl⟩ s2 s1 (.of ⟨_, _, cp, rfl, rfl, h4, h5, (fun e => nomatch e), fun _ => ⟨_, 0, rfl, fun j v hv => ?_⟩⟩)
      simp only [Nat.zero_add]
      rw [← h3, List.getElem?_take] at hv
      split at hv
      · rw [if_pos trivial]; simpa using hv
      · cases hv
    by_cases hl0 : l = []
    · subst hl0
      cases xa with
      | none =>
        have hr := run_append_nil (P := P) w t o.type e it z hu h1 h2.1 ⟨b, off, none⟩ m.length cap (m.flatMap T.enc) (by rw [flen, h2.2.1]) hnews hmpos (by simp at hm'; omega) (by rw [h2.2.2]; simp at hn; omega)
        refine fin _ _ ?_ ?_ ?_ (hrun0 _ _ (by rw [e1, f2]; simpa using hr))
        · simp only [List.nil_append, Array.toList_append]
          rw [← flen T m]; exact List.take_left
        · simpa using grownCap_ge w m.length 0 e
        · exact grownCap_le_maxLen w m.length 0 e (by simpa using hm)
      | some xa =>
        have hr := run_append_grow (P := P) w t o.type e it z hu h1 h2.1 xa 0 0 [] (by simp) (fun j v hv => by simp at hv) ⟨b, off, none⟩ m.length cap (m.flatMap T.enc) (by rw [flen, h2.2.1]) hnews (by omega) (by simp at hm'; omega) (growslice_fits (by omega) (by rw [h2.2.2]; simpa using hn))
        refine fin _ _ ?_ ?_ ?_ (hrun0 _ _ (by rw [e1, f2]; simpa using hr))
        · simp only [List.nil_append, Array.toList_append]
          rw [← flen T m]; simp
        · simpa using grownCap_ge w m.length 0 e
        · exact grownCap_le_maxLen w m.length 0 e (by simpa using hm)
    · obtain ⟨b', off', rfl, hc'⟩ := e4 hl0
      have holds : ∀ j v, (l.flatMap T.enc)[j]? = some v → w.cell? ((⟨b', off', none⟩ : Addr).add j) = some v := fun j v hv => by
        rw [Addr.add_lit]; exact hs.imm _ _ _ (hG0 _ _ _ (hc' j v hv))
      have hr := run_append_grow (P := P) w t o.type e it z hu h1 h2.1 ⟨b', off', none⟩ l.length l.length (l.flatMap T.enc) (by rw [flen, h2.2.1]) holds ⟨b, off, none⟩ m.length cap (m.flatMap T.enc) (by rw [flen, h2.2.1]) hnews (by omega) (by omega) (growslice_fits (by omega) (by rw [h2.2.2]; exact hn))
      refine fin _ _ ?_ ?_ ?_ (hrun0 _ _ (by rw [e1, f2, List.length_append]; exact hr))
      · rw [List.length_append, List.flatMap_append, Nat.add_mul, ← flen T l, ← flen T m, ← List.length_append]
        simp only [Array.toList_append]
        exact List.take_left
      · rw [List.length_append]; exact grownCap_ge w _ _ e
      · exact grownCap_le_maxLen w _ _ e hm

/-! ### an owned row is read and written -/
/-- a pointer into an owned row -/
def rpA (u : Value) (off : Nat) : AV := fun _ p => ∃ g n cap, u = .slice (some ⟨g, 0, none⟩) n cap ∧ p = .pointer (some ⟨g, off, none⟩)
theorem Rep.rp {u : Value} {off : Nat} {G : Gh} {p : Value} (h : Rep G (rpA u off) p) : ∃ g n cap, u = .slice (some ⟨g, 0, none⟩) n cap ∧ p = .pointer (some ⟨g, off, none⟩) := let ⟨_, _, r⟩ := h; r
theorem ay_len_row {α : Type} {T : Ty α} {x : Operand} {t e e' : TypeId} {ts : Array TypeId} {l : List α} {u : Value} (i : Nat) (ho : o.op = .call { callee := .builtin .len, args := #[x], argTypes := ts }) (ht : ts[0]? = some t) (hu : P.underlying t = some (.slice e')) (hx : Opd T0 fr x (vA u)) (hM : M[i]? = some (rowO T e u l)) : AY P T0 ops o fr M (I l.length) := ay_of fun w0 G F a w hs hf => by
  have h1 := (hx.use (o := o) (ops := ops) (by simp [ho, Op.operands, Call.operands]) hs.tab hf).eq
  have hrow := hs.own _ (List.mem_of_getElem? (setAppend (F := F) (m' := rowO T e u l) hM).1)
  rcases row_form hrow with ⟨rfl, rfl⟩ | ⟨g, cap, rfl, _⟩
  · exact ⟨_, by simp [execOp, ho, resolve, invoke, builtin, Builtin.len_, ht, h1, run_underlying hu, goInt], Rep.va _ _⟩
  · exact ⟨_, by simp [execOp, ho, resolve, invoke, builtin, Builtin.len_, ht, h1, run_underlying hu, goInt], Rep.va _ _⟩
theorem ay_index_row {α : Type} {T : Ty α} {x y : Operand} {t e : TypeId} {l : List α} {d : α} {by' : Nat} {av : α → AV} {k : IntKind} {n : Nat} {u : Value} (i : Nat) (ho : o.op = .indexAddr t x y) (hu : P.underlying t = some (.slice e)) (he : El P T e d by' av) (hx : Opd T0 fr x (vA u)) (hM : M[i]? = some (rowO T e u l)) (hy : Opd T0 fr y (vA (.int k (n : Int)))) (hn : n < l.length) : AY P T0 ops o fr M (rpA u (n * T.k)) := ay_of fun w0 G F a w hs hf => by
  have h1 := (hx.use (o := o) (ops := ops) (by simp [ho, Op.operands]) hs.tab hf).eq
  have h4 := (hy.use (o := o) (ops := ops) (by simp [ho, Op.operands]) hs.tab hf).eq
  have hrow := hs.own _ (List.mem_of_getElem? (setAppend (F := F) (m' := rowO T e u l) hM).1)
  rcases row_form hrow with ⟨rfl, rfl⟩ | ⟨g, cap, rfl, _⟩
  · simp at hn
  · refine ⟨.pointer (some ⟨g, n * T.k, none⟩), ?_, .of ⟨g, _, _, rfl, rfl⟩⟩
    simp only [execOp, ho, h1, h4]
    simp [Instr.indexAt, asIntOf, run_underlying hu, he.size, hn, Addr.add_lit]
theorem ay_field_row {x : Operand} {t : TypeId} {i off of2 : Nat} {ft : TypeId} {u : Value} (ho : o.op = .fieldAddr t x i) (hu : Fld P t i off ft)
    (hsz : ∀ w, ∃ n, (sizeOf ft).run P w = .ok (n + 1) w) (hx : Opd T0 fr x (rpA u of2)) : AY P T0 ops o fr M (rpA u (of2 + off)) := ay_of fun w0 G F a w hs hf => by
  obtain ⟨g, n, cap, h1, h2⟩ := (hx.use (o := o) (ops := ops) (by simp [ho, Op.operands]) hs.tab hf).rp
  obtain ⟨fs, f, h3, h4, rfl, rfl⟩ := hu
  obtain ⟨m, h5⟩ := hsz w
  refine ⟨.pointer (some ⟨g, of2 + f.offset, none⟩), ?_, .of ⟨g, n, cap, h1, rfl⟩⟩
  simp only [execOp, ho, h2, Instr.fieldAt]
  simp [run_underlying h3, h4, Instr.sureAddr, fieldPlace, h5, Addr.add_lit]
theorem row_cell {α : Type} {T : Ty α} {e : TypeId} {u : Value} {l : List α} {G : Gh} {w : World} (h : (rowO T e u l).holds G w) {g n cap : Nat} (hu : u = .slice (some ⟨g, 0, none⟩) n cap) {j : Nat} {v : Value} (hv : (l.flatMap T.enc)[j]? = some v) : w.cell? ⟨g, j, none⟩ = some v := by
  have h' : w.ownsRow 0 e T.k u l.length (l.flatMap T.enc) := h
  have := h'.cells (g := g) (by rw [hu]; rfl) j v hv
  rwa [Addr.add_lit, Nat.zero_add] at this
theorem ay_load_row1 {α : Type} {T : Ty α} {x : Operand} {t e : TypeId} {l : List α} {off : Nat} {u v : Value} (i : Nat) (ho : o.op = .load t x) (ha : ∀ w, (isAgg t).run P w = .ok false w) (hM : M[i]? = some (rowO T e u l)) (hx : Opd T0 fr x (rpA u off)) (hv : (l.flatMap T.enc)[off]? = some v) : AY P T0 ops o fr M (vA v) := ay_of fun w0 G F a w hs hf => by
  obtain ⟨g, n, cap, h1, h2⟩ := (hx.use (o := o) (ops := ops) (by simp [ho, Op.operands]) hs.tab hf).rp
  have hrow := hs.own _ (List.mem_of_getElem? (setAppend (F := F) (m' := rowO T e u l) hM).1)
  have hc := row_cell hrow h1 hv
  refine ⟨v, ?_, Rep.va _ _⟩
  simp only [execOp, ho, h2, Instr.loadAt, Instr.sureAddr, loadVar]
  simp [ha, load, Sem.run, hc]
theorem ay_load_row {α : Type} {T : Ty α} {x : Operand} {e : TypeId} {l : List α} {d z : α} {by' : Nat} {av : α → AV} {n : Nat} {u : Value} (i : Nat) (ho : o.op = .load e x) (he : El P T e d by' av) (hM : M[i]? = some (rowO T e u l)) (hx : Opd T0 fr x (rpA u (n * T.k))) (hz : l[n]? = some z) : AY P T0 ops o fr M (av z) := ay_of fun w0 G F a w hs hf => by
  obtain ⟨g, m, cap, h1, h2⟩ := (hx.use (o := o) (ops := ops) (by simp [ho, Op.operands]) hs.tab hf).rp
  have hrow := hs.own _ (List.mem_of_getElem? (setAppend (F := F) (m' := rowO T e u l) hM).1)
  have hc : ∀ j v, (T.enc z)[j]? = some v → w.cell? ⟨g, n * T.k + j, none⟩ = some v := fun j v hv => by
    have hj : j < T.k := by rw [← T.len z]; exact (List.getElem?_eq_some_iff.1 hv).1
    exact row_cell hrow h1 (by rw [getElem?_flatMap T l n j z hz hj]; exact hv)
  rcases he.load with ⟨ha, hv⟩ | ⟨ha, hk, hv⟩
  · refine ⟨.agg (T.enc z).toArray, ?_, by rw [hv]; exact .of ⟨_, rfl, allRep_va _ _⟩⟩
    have hl := run_loadCells_list (P := P) (w := w) ⟨g, n * T.k, none⟩ (T.enc z) (fun j v hv => by rw [Addr.add_lit]; exact hc j v hv)
    rw [T.len] at hl
    simp only [execOp, ho, h2, Instr.loadAt, Instr.sureAddr, loadVar]
    simp [ha, he.size, hl]
  · obtain ⟨v, hz'⟩ : ∃ v, T.enc z = [v] := by
      have := T.len z
      rw [hk] at this
      exact List.length_eq_one_iff.1 this
    refine ⟨v, ?_, by rw [hv z v hz']; exact Rep.va _ _⟩
    have hc0 := hc 0 v (by rw [hz']; rfl)
    simp only [Nat.add_zero] at hc0
    simp only [execOp, ho, h2, Instr.loadAt, Instr.sureAddr, loadVar]
    simp [ha, load, Sem.run, hc0]
end
end Go.Proofs.YtplabpjkkcillaaDoor
