/- The logic's sixth part: freezing, storing, slicing, variables of one's own, closures, numbers as naturals. No condition. -/
import Derived.Test.YtplabpjkkcillaaDoorA5
namespace Go.Proofs.YtplabpjkkcillaaDoor
set_option linter.unusedSimpArgs false
set_option linter.unusedVariables false
set_option linter.unusedSectionVars false
set_option maxHeartbeats 4000000
open Go Go.RowKit

/-! ### what is owned is given away: it is read only from then on -/
theorem St.freeze {T0 G : Gh} {w0 w : World} {M : List Own} {i : Nat} {α : Type} {T : Ty α} {e : TypeId} {u : Value} {l : List α} (h : St T0 w0 G M w) (hi : M[i]? = some (rowO T e u l)) :
    ∃ G', Gh.le G G' ∧ St T0 w0 G' (M.eraseIdx i) w ∧ Rep G' (slA T l) u := by
  have hmem := List.mem_of_getElem? hi
  have hlt : i < M.length := (List.getElem?_eq_some_iff.1 hi).1
  have hget : M[i] = rowO T e u l := (List.getElem?_eq_some_iff.1 hi).2
  have hrow := h.own _ hmem
  have hsub : List.Sublist (M.eraseIdx i) M := List.eraseIdx_sublist M i
  rcases row_form hrow with ⟨rfl, rfl⟩ | ⟨g, cap, rfl, h4, h5⟩
  · exact ⟨G, Gh.le.refl _, h.sub hsub, .of ⟨none, 0, 0, rfl, rfl, Nat.le_refl _, by decide, fun _ => rfl, fun hn => absurd rfl hn⟩⟩
  · obtain ⟨f1, f2, f3⟩ := h.foot _ hmem g rfl
    have hle : Gh.le G (fun b o => if b = g then w.cell? ⟨g, o, none⟩ else G b o) := fun b o v hv => by
      by_cases hb : b = g
      · subst hb; rw [f3 o] at hv; cases hv
      · simp only [if_neg hb]; exact hv
    refine ⟨_, hle, (h.sub hsub).gmono hle (fun b o v hv => ?_) (fun m hm b hb o => ?_), .of ⟨_, _, cap, rfl, rfl, h4, h5, (fun e => nomatch e), fun _ => ⟨g, 0, rfl, fun j v hv => ?_⟩⟩⟩
    · by_cases hb : b = g
      · subst hb; simpa using hv
      · simp only [if_neg hb] at hv; exact h.imm _ _ _ hv
    · -- the other ones have other feet
      have hne : b ≠ g := fun hbg => by
        subst hbg
        have hsep := h.sep
        have hsplit : M = M.take i ++ rowO T e (.slice (some ⟨b, 0, none⟩) l.length cap) l :: M.drop (i + 1) := by rw [← hget]; simp
        rw [List.eraseIdx_eq_take_drop_succ] at hm
        rw [hsplit, List.filterMap_append, List.filterMap_cons] at hsep
        have hfoot : (rowO T e (.slice (some ⟨b, 0, none⟩) l.length cap) l).foot = some b := rfl
        simp only [hfoot, List.nodup_append, List.nodup_cons] at hsep
        rcases List.mem_append.1 hm with hm | hm
        · exact hsep.2.2 b (List.mem_filterMap.2 ⟨m, hm, hb⟩) b (by simp) rfl
        · exact hsep.2.1.1 (List.mem_filterMap.2 ⟨m, hm, hb⟩)
      simp only [if_neg hne]
      exact (h.foot m (hsub.subset hm) b hb).2.2 o
    · simp only [Nat.zero_add, if_true]
      exact row_cell hrow rfl hv
/-- u, wherever it stands in A, reads as l now -/
def FzA {α : Type} (u : Value) (T : Ty α) (l : List α) (A A' : AV) : Prop := ∀ G G' v, Gh.le G G' → Rep G' (slA T l) u → Rep G A v → Rep G' A' v
theorem fz_here {α : Type} {u : Value} {T : Ty α} {l : List α} : FzA u T l (vA u) (slA T l) := fun _ _ _ _ h r => by rw [r.eq]; exact h
theorem fz_keep {α : Type} {u : Value} {T : Ty α} {l : List α} {A : AV} : FzA u T l A A := fun _ _ _ hl _ r => r.mono hl
def FzL {α : Type} (u : Value) (T : Ty α) (l : List α) : List AV → List AV → Prop
  | [], [] => True
  | A :: r, A' :: r' => FzA u T l A A' ∧ FzL u T l r r'
  | _, _ => False
theorem fzl_nil {α : Type} {u : Value} {T : Ty α} {l : List α} : FzL u T l [] [] := trivial
theorem fzl_cons {α : Type} {u : Value} {T : Ty α} {l : List α} {A A' : AV} {r r' : List AV} (h : FzA u T l A A') (k : FzL u T l r r') : FzL u T l (A :: r) (A' :: r') := ⟨h, k⟩
theorem FzL.rep {α : Type} {u : Value} {T : Ty α} {l : List α} {G G' : Gh} (hl : Gh.le G G') (hu : Rep G' (slA T l) u) : ∀ {r r' us}, FzL u T l r r' → AllRep G r us → AllRep G' r' us
  | [], [], [], _, _ => trivial
  | _ :: _, _ :: _, _ :: _, h, k => ⟨h.1 G G' _ hl hu k.1, FzL.rep hl hu h.2 k.2⟩
  | [], _ :: _, _, h, _ => h.elim
  | _ :: _, [], _, h, _ => h.elim
theorem fz_agg {α : Type} {u : Value} {T : Ty α} {l : List α} {r r' : List AV} (h : FzL u T l r r') : FzA u T l (aggA r) (aggA r') := fun G G' v hl hu k => by
  obtain ⟨us, rfl, q⟩ := k.agg
  exact .of ⟨us, rfl, FzL.rep hl hu h q⟩
theorem fz_tup {α : Type} {u : Value} {T : Ty α} {l : List α} {r r' : List AV} (h : FzL u T l r r') : FzA u T l (tupA r) (tupA r') := fun G G' v hl hu k => by
  obtain ⟨us, rfl, q⟩ := k.tup
  exact .of ⟨us, rfl, FzL.rep hl hu h q⟩

section
variable {P : Program} {T0 : Gh} {N : Fz} {Q : Post} {fr : Fr} {M : List Own} {ops : Array Oper} {o : Oper}

theorem eraseAppend {M F : List Own} {i : Nat} (h : i < M.length) : (M ++ F).eraseIdx i = M.eraseIdx i ++ F := List.eraseIdx_append_of_lt_length h F
theorem ent_freeze {α : Type} {T : Ty α} {e : TypeId} {u : Value} {l : List α} (i s : Nat) {A A' : AV} (hM : M[i]? = some (rowO T e u l)) (hs : fr.get s = some A) (hz : FzA u T l A A') : Ent T0 fr M ((s, A') :: fr) (M.eraseIdx i) := fun w0 G F t w st r => by
  have hlt : i < M.length := (List.getElem?_eq_some_iff.1 hM).1
  obtain ⟨G', h1, h2, h3⟩ := st.freeze (setAppend (F := F) (m' := rowO T e u l) hM).1
  rw [eraseAppend hlt] at h2
  refine ⟨G', h1, h2, fun x B _ e => ?_⟩
  by_cases hx : x = s
  · subst hx
    rw [get_cons_same] at e
    obtain rfl := Option.some.inj e
    obtain ⟨v, k1, k2⟩ := r x A trivial hs
    exact ⟨v, k1, hz G G' v h1 h3 k2⟩
  · rw [get_cons_ne hx] at e
    obtain ⟨v, k1, k2⟩ := r x B trivial e
    exact ⟨v, k1, k2.mono h1⟩
theorem aw_freeze {α : Type} {T : Ty α} {e : TypeId} {u : Value} {l : List α} {c : Code} (i s : Nat) {A A' : AV} (hM : M[i]? = some (rowO T e u l)) (hs : fr.get s = some A) (hz : FzA u T l A A') (h : AW P T0 N c Q ((s, A') :: fr) (M.eraseIdx i)) : AW P T0 N c Q fr M := aw_ent (ent_freeze i s hM hs hz) h
theorem al_freeze {α : Type} {T : Ty α} {e : TypeId} {u : Value} {l : List α} {ol : List Oper} (i s : Nat) {A A' : AV} (hM : M[i]? = some (rowO T e u l)) (hs : fr.get s = some A) (hz : FzA u T l A A') (h : AL P T0 N false ops Q ol ((s, A') :: fr) (M.eraseIdx i)) : AL P T0 N false ops Q ol fr M := al_ent (ent_freeze i s hM hs hz) h
/-- every slot that holds it is told anew -/
def FzFr {α : Type} (u : Value) (T : Ty α) (l : List α) : Fr → Fr → Prop
  | [], [] => True
  | (s, A) :: r, (s', A') :: r' => s = s' ∧ FzA u T l A A' ∧ FzFr u T l r r'
  | _, _ => False
theorem fzf_nil {α : Type} {u : Value} {T : Ty α} {l : List α} : FzFr u T l [] [] := trivial
theorem fzf_cons {α : Type} {u : Value} {T : Ty α} {l : List α} {s : Nat} {A A' : AV} {r r' : Fr} (h : FzA u T l A A') (k : FzFr u T l r r') : FzFr u T l ((s, A) :: r) ((s, A') :: r') := ⟨rfl, h, k⟩
theorem FzFr.get {α : Type} {u : Value} {T : Ty α} {l : List α} : ∀ {r r' : Fr}, FzFr u T l r r' → ∀ s A', r'.get s = some A' → ∃ A, r.get s = some A ∧ FzA u T l A A'
  | [], [], _, s, A', e => by simp [Fr.get] at e
  | (x, A) :: r, (x', B) :: r', h, s, A', e => by
    obtain ⟨rfl, h1, h2⟩ := h
    by_cases hx : s = x
    · subst hx; rw [get_cons_same] at e; obtain rfl := Option.some.inj e; exact ⟨A, get_cons_same _ _ _, h1⟩
    · rw [get_cons_ne hx] at e
      obtain ⟨A2, k1, k2⟩ := FzFr.get h2 s A' e
      exact ⟨A2, by rw [get_cons_ne hx]; exact k1, k2⟩
  | [], _ :: _, h, _, _, _ => h.elim
  | (_, _) :: _, [], h, _, _, _ => h.elim
theorem ent_freezeF {α : Type} {T : Ty α} {e : TypeId} {u : Value} {l : List α} {fr' : Fr} (i : Nat) (hM : M[i]? = some (rowO T e u l)) (hz : FzFr u T l fr fr') : Ent T0 fr M fr' (M.eraseIdx i) := fun w0 G F t w st r => by
  have hlt : i < M.length := (List.getElem?_eq_some_iff.1 hM).1
  obtain ⟨G', h1, h2, h3⟩ := st.freeze (setAppend (F := F) (m' := rowO T e u l) hM).1
  rw [eraseAppend hlt] at h2
  refine ⟨G', h1, h2, fun x B _ e => ?_⟩
  obtain ⟨A, k1, k2⟩ := hz.get x B e
  obtain ⟨v, k3, k4⟩ := r x A trivial k1
  exact ⟨v, k3, k2 G G' v h1 h3 k4⟩
theorem al_freezeF {α : Type} {T : Ty α} {e : TypeId} {u : Value} {l : List α} {ol : List Oper} {fr' : Fr} (i : Nat) (hM : M[i]? = some (rowO T e u l)) (hz : FzFr u T l fr fr') (h : AL P T0 N false ops Q ol fr' (M.eraseIdx i)) : AL P T0 N false ops Q ol fr M := al_ent (ent_freezeF i hM hz) h
theorem aw_freezeF {α : Type} {T : Ty α} {e : TypeId} {u : Value} {l : List α} {c : Code} {fr' : Fr} (i : Nat) (hM : M[i]? = some (rowO T e u l)) (hz : FzFr u T l fr fr') (h : AW P T0 N c Q fr' (M.eraseIdx i)) : AW P T0 N c Q fr M := aw_ent (ent_freezeF i hM hz) h
/-- a contract's answer is frozen -/
theorem AF.freeze {f : FuncId} {As : List AV} {K K' : AV → List Own → Prop} {KP : List PanicEntry → List Own → Prop} (h : AF P T0 f As M K KP)
    (hk : ∀ A M', K A M' → ∃ (α : Type) (T : Ty α) (e : TypeId) (u : Value) (l : List α) (i : Nat) (A' : AV), M'[i]? = some (rowO T e u l) ∧ FzA u T l A A' ∧ K' A' (M'.eraseIdx i)) : AF P T0 f As M K' KP :=
  ⟨h.able, fun w0 G F w vs hs hr => (h.calls w0 G F w vs hs hr).mono fun e w' q => by
    rcases q with ⟨v, A, M', G', e1, e2, e3, e4, e5⟩ | q
    · obtain ⟨α, T, e, u, l, i, A', k1, k2, k3⟩ := hk A M' e2
      have hlt : i < M'.length := (List.getElem?_eq_some_iff.1 k1).1
      obtain ⟨G2, h1, h2, h3⟩ := e5.freeze (setAppend (F := F) (m' := rowO T e u l) k1).1
      rw [eraseAppend hlt] at h2
      exact .inl ⟨v, A', _, G2, e1, k3, k2 G' G2 v h1 h3 e3, e4.trans h1, h2⟩
    · exact .inr q⟩

/-- what is owned and handed back, frozen -/
theorem AF.own {α : Type} {T : Ty α} {e : TypeId} {f : FuncId} {As : List AV} {l : List α} (h : AF P T0 f As [] (fun A M' => ∃ u, A = vA u ∧ M' = [rowO T e u l])) : AP P T0 f As (slA T l) :=
  h.freeze fun A M' q => by
    obtain ⟨u, rfl, rfl⟩ := q
    exact ⟨α, T, e, u, l, 0, slA T l, rfl, fz_here, Sub.refl _, rfl⟩

/-! ### storing -/
theorem rows_set {α : Type} (T : Ty α) : ∀ (l : List α) (n : Nat) (z : α) (cs : List Value), T.enc z = cs → n < l.length → (l.set n z).flatMap T.enc = (l.flatMap T.enc).take (n * T.k) ++ cs ++ (l.flatMap T.enc).drop (n * T.k + T.k)
  | [], _, _, _, _, h => by simp at h
  | x :: l, 0, z, cs, e, _ => by
    subst e
    simp [← T.len x]
  | x :: l, n + 1, z, cs, e, h => by
    have ih := rows_set T l n z cs e (by simpa using h)
    simp only [List.set_cons_succ, List.flatMap_cons, ih]
    have hx := T.len x
    rw [show (n + 1) * T.k = (T.enc x).length + n * T.k by rw [hx, Nat.add_mul]; omega, List.take_length_add_append, show (T.enc x).length + n * T.k + T.k = (T.enc x).length + (n * T.k + T.k) by omega, List.drop_length_add_append]
    simp
theorem take_seg (C E : List Value) (p k L : Nat) (hE : E.length = k) (h : p + k ≤ L) (hL : L ≤ C.length) : (C.take p ++ E ++ C.drop (p + k)).take L = (C.take L).take p ++ E ++ (C.take L).drop (p + k) := by
  apply List.ext_getElem?
  intro j
  by_cases h1 : j < p
  · have a1 : j < L := by omega
    simp [List.getElem?_take, List.getElem?_append, h1, a1, show j < C.length by omega, show j < p + E.length by omega, show j < min p C.length by omega, show j < min p (min L C.length) by omega, show j < min p C.length + E.length by omega]
  · by_cases h2 : j < p + k
    · have a1 : j < L := by omega
      have a2 : min p C.length = p := by omega
      have a3 : min p (min L C.length) = p := by omega
      have a4 : min p L = p := by omega
      simp [List.getElem?_take, List.getElem?_append, h1, a1, a2, a3, a4, hE, show j - p < k by omega]
    · have a2 : min p C.length = p := by omega
      have a3 : min p (min L C.length) = p := by omega
      have a4 : min p L = p := by omega
      have a5 : p + k + (j - p - k) = j := by omega
      have a6 : ¬ (j - p < k) := by omega
      by_cases a1 : j < L
      · simp [List.getElem?_take, List.getElem?_append, List.getElem?_drop, h1, a1, a2, a3, a4, hE, a5, a6]
      · simp [List.getElem?_take, List.getElem?_append, List.getElem?_drop, h1, a1, a2, a3, a4, hE, a5, a6]
/-- an element is stored -/
theorem ao_store_row {α : Type} {T : Ty α} {x y : Operand} {e : TypeId} {l : List α} {d z : α} {by' : Nat} {av : α → AV} {n : Nat} {u : Value} {A : AV} (i : Nat) (ho : o.op = .store e x y) (he : El P T e d by' av) (hM : M[i]? = some (rowO T e u l)) (hx : Opd T0 fr x (rpA u (n * T.k))) (hn : n < l.length)
    (hy : Opd T0 fr y A) (hc : CellsA A ((T.enc z).map vA)) : AO P T0 ops o fr M (fun _ M' => M' = M.set i (rowO T e u (l.set n z))) (fun _ _ => False) := fun w0 G F a w next Qc hs hf hk _ => by
  obtain ⟨g, m, cap, h1, h2⟩ := (hx.use (o := o) (ops := ops) (by simp [ho, Op.operands]) hs.tab hf).rp
  have hv := allRep_eq (hc G _ (hy.use (o := o) (ops := ops) (by simp [ho, Op.operands]) hs.tab hf))
  obtain ⟨hM1, hM2⟩ := setAppend (F := F) (m' := rowO T e u (l.set n z)) hM
  have hrow := hs.own _ (List.mem_of_getElem? hM1)
  subst h1
  rcases hrow.2 with ⟨h', _⟩ | ⟨g', cap', cur, h', _, hg, hnc, hcm, hcs, htake⟩
  · cases h'
  simp only [Value.slice.injEq, Option.some.injEq, Addr.mk.injEq, and_true, true_and] at h'
  obtain ⟨rfl, rfl, rfl⟩ := h'
  have hsz : (a.eval y).cells.size = T.k := by rw [← Array.length_toList, hv, T.len]
  have hbound : n * T.k + T.k ≤ l.length * T.k := by
    have : (n + 1) * T.k ≤ l.length * T.k := Nat.mul_le_mul_right _ hn
    rw [Nat.add_mul] at this; omega
  have hcap : l.length * T.k ≤ cur.size := by rw [hcs]; exact Nat.mul_le_mul_right _ hnc
  have hst := run_storeCells_at P g (n * T.k) e (T.enc z) 0 cur w hg (by rw [T.len]; omega) (he.one z)
  simp only [Nat.add_zero, T.len] at hst
  have hrun : (execOp a.eval o).run P w = .ok .skip (w.setRow g (cur.toList.take (n * T.k) ++ T.enc z ++ cur.toList.drop (n * T.k + T.k)).toArray) := by
    simp only [execOp, ho, h2, Instr.storeAt, Instr.sureAddr, storeVar]
    simp [he.size, hsz, hv, hst]
  unfold Oper.wp; rw [hrun]
  refine hk anyA _ G undef _ rfl (Gh.le.refl _) ?_ (Rep.any _ _)
  rw [← hM2]
  refine hs.grown hM1 ⟨rfl, rfl, rfl, by simp, fun k _ hk => setRow_other w g k _ (fun e => hk (by simp [rowO, Value.ownBlock, e]))⟩ ?_ (fun b hb => ?_)
  · refine ⟨by rw [flen, List.length_set], .inr ⟨g, cap, _, by rw [List.length_set], Nat.zero_le _, setRow_heap w g cur _ e _ hg, by rw [List.length_set]; exact hnc, hcm, ?_, ?_⟩⟩
    · rw [← hcs]; simp [T.len]; have := cur.size; omega
    · rw [List.length_set, rows_set T l n z (T.enc z) rfl hn, ← htake]
      exact take_seg cur.toList (T.enc z) (n * T.k) T.k (l.length * T.k) (T.len z) hbound (by simpa using hcap)
  · refine ⟨.inl hb, ?_⟩
    have hb' : some g = some b := hb
    obtain rfl := Option.some.inj hb'
    simpa using (Array.getElem?_eq_some_iff.1 hg).1

/-! ### slicing what is read only -/
theorem flatMap_drop {α : Type} (T : Ty α) : ∀ (l : List α) (n : Nat), (l.drop n).flatMap T.enc = (l.flatMap T.enc).drop (n * T.k)
  | [], n => by simp
  | x :: l, 0 => by simp
  | x :: l, n + 1 => by
    rw [List.drop_succ_cons, flatMap_drop T l n, List.flatMap_cons, Nat.add_mul, Nat.one_mul, Nat.add_comm (n * T.k), ← T.len x, List.drop_length_add_append]
theorem flatMap_take {α : Type} (T : Ty α) : ∀ (l : List α) (n : Nat), (l.take n).flatMap T.enc = (l.flatMap T.enc).take (n * T.k)
  | [], n => by simp
  | x :: l, 0 => by simp
  | x :: l, n + 1 => by
    rw [List.take_succ_cons, List.flatMap_cons, flatMap_take T l n, List.flatMap_cons, Nat.add_mul, Nat.one_mul, Nat.add_comm (n * T.k), ← T.len x, List.take_length_add_append]
/-- what a cut of it reads as -/
theorem cut_sl {α : Type} {T : Ty α} {l : List α} {G : Gh} {a : Option Addr} {n lo hi m : Nat} (h : (l ≠ [] → ∃ b off, a = some ⟨b, off, none⟩ ∧ ∀ j v, (l.flatMap T.enc)[j]? = some v → G b (off + j) = some v)) (hn : n = l.length) (h1 : lo ≤ hi) (h2 : hi ≤ n) (h3 : hi ≤ m) :
    ((l.drop lo).take (hi - lo) ≠ [] → ∃ b off, (if m = lo then a else a.map (·.add (lo * T.k))) = some ⟨b, off, none⟩ ∧ ∀ j v, (((l.drop lo).take (hi - lo)).flatMap T.enc)[j]? = some v → G b (off + j) = some v) := fun hne => by
  have hlo : lo < hi := by
    rcases Nat.lt_or_ge lo hi with h | h
    · exact h
    · exact absurd (by rw [Nat.sub_eq_zero_of_le h]; simp) hne
  obtain ⟨b, off, rfl, hc⟩ := h (by intro e; subst e; simp at hn; omega)
  refine ⟨b, off + lo * T.k, by rw [if_neg (by omega)]; simp [Addr.add_lit], fun j v hv => ?_⟩
  rw [flatMap_take, flatMap_drop, List.getElem?_take] at hv
  split at hv
  · rw [List.getElem?_drop] at hv
    rw [Nat.add_assoc]; exact hc _ v hv
  · cases hv
theorem elem_of {t e : TypeId} (hu : P.underlying t = some (.slice e)) : P.underlying t = some (.slice (P.elem t)) := by
  have : P.elem t = e := by simp [Program.elem, hu]
  rw [this]; exact hu
/-- x[lo:hi] (each of the two may be left out) -/
def loOf (lo : Option Operand) (n : Nat) (T0 : Gh) (fr : Fr) : Prop := match lo with | none => n = 0 | some x => ∃ k, Opd T0 fr x (vA (.int k (n : Int)))
def hiOf (hi : Option Operand) (n len : Nat) (T0 : Gh) (fr : Fr) : Prop := match hi with | none => n = len | some x => ∃ k, Opd T0 fr x (vA (.int k (n : Int)))
theorem lo_none {T0 : Gh} {fr : Fr} : loOf none 0 T0 fr := rfl
theorem lo_some {x : Operand} {n : Nat} {k : IntKind} (h : Opd T0 fr x (vA (.int k (n : Int)))) : loOf (some x) n T0 fr := ⟨k, h⟩
theorem hi_none {n : Nat} {T0 : Gh} {fr : Fr} : hiOf none n n T0 fr := rfl
theorem hi_some {x : Operand} {n len : Nat} {k : IntKind} (h : Opd T0 fr x (vA (.int k (n : Int)))) : hiOf (some x) n len T0 fr := ⟨k, h⟩
theorem run_sliceBounds {len cap lo hi : Nat} {isS : Bool} {vlo vhi : Option Value} {w : World} (h1 : lo ≤ hi) (h2 : hi ≤ cap) (hl : (vlo = none ∧ lo = 0) ∨ ∃ k, vlo = some (.int k (lo : Int))) (hh : (vhi = none ∧ hi = len) ∨ ∃ k, vhi = some (.int k (hi : Int))) :
    (Instr.sliceBounds isS len cap vlo vhi none).run P w = .ok (lo, hi, cap) w := by
  rcases hl with ⟨rfl, rfl⟩ | ⟨k, rfl⟩ <;> rcases hh with ⟨rfl, rfl⟩ | ⟨k', rfl⟩ <;>
    simp [Instr.sliceBounds, run_sliceBound, h1, h2]
theorem ay_slice {α : Type} {T : Ty α} {t e : TypeId} {x : Operand} {lo hi : Option Operand} {l : List α} {d : α} {by' a b : Nat} {av : α → AV} (ho : o.op = .slice t x lo hi none) (hu : P.underlying t = some (.slice e)) (he : El P T e d by' av) (hx : Opd T0 fr x (slA T l)) (hlo : loOf lo a T0 fr) (hhi : hiOf hi b l.length T0 fr) (h1 : a ≤ b) (h2 : b ≤ l.length) :
    AY P T0 ops o fr M (slA T ((l.drop a).take (b - a))) := ay_of fun w0 G F ac w hs hf => by
  obtain ⟨ad, n, cap, e1, e2, e3, e4, e5, e6⟩ := (hx.use (o := o) (ops := ops) (by simp [ho, Op.operands]) hs.tab hf).sl
  have hl : ((lo.map ac.eval) = none ∧ a = 0) ∨ ∃ k, (lo.map ac.eval) = some (.int k (a : Int)) := by
    cases lo with
    | none => exact .inl ⟨rfl, hlo⟩
    | some y => obtain ⟨k, hk⟩ := hlo; exact .inr ⟨k, by rw [Option.map_some, (hk.use (o := o) (ops := ops) (by simp [ho, Op.operands]) hs.tab hf).eq]⟩
  have hh : ((hi.map ac.eval) = none ∧ b = n) ∨ ∃ k, (hi.map ac.eval) = some (.int k (b : Int)) := by
    cases hi with
    | none => exact .inl ⟨rfl, by rw [e2]; exact hhi⟩
    | some y => obtain ⟨k, hk⟩ := hhi; exact .inr ⟨k, by rw [Option.map_some, (hk.use (o := o) (ops := ops) (by simp [ho, Op.operands]) hs.tab hf).eq]⟩
  have hb := run_sliceBounds (P := P) (isS := true) (cap := cap) (w := w) h1 (by omega) hl hh
  refine ⟨.slice (if cap = a then ad else ad.map (·.add (a * T.k))) (b - a) (cap - a), ?_, .of ⟨_, _, _, rfl, by simp; omega, by omega, by omega, fun hn => ?_, cut_sl e6 e2 h1 (by omega) (by omega)⟩⟩
  · simp only [execOp, ho, e1]
    simp [run_sliceAt_slice _ _ _ _ _ _ (elem_of hu), Instr.slice, run_underlying hu, hb, he.size]
  · cases ad with
    | none => have := e5 rfl; omega
    | some ad => split at hn <;> simp at hn
end
end Go.Proofs.YtplabpjkkcillaaDoor
